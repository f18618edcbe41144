import Derived.Test.YtplnofodmgddmaaQA2
import Derived.Test.YtplnofodmgddmaaOrd
import Derived.BigQuiet
import Derived.WalkLawsBesides
import Derived.WalkSpells
/- What a list of entries is checked to (merge.Check, tidelineref09.Check): the calls return just that. -/
set_option linter.unusedVariables false
set_option linter.unusedSimpArgs false
namespace Go.Proofs.Ytplnofodmgddmaa
open Go.RowKit Go.Proofs.YtplnofodmgddmaaW.PrintWords Go.Proofs.YtplnofodmgddmaaW.PrintLast Go.Proofs.YtplnofodmgddmaaW.PrintMore

theorem ret_int {k : IntKind} {a b : Int} (h : a = b) : Ending.returned (.int k a) = .returned (.int k b) := by rw [h]
/-- what an entry is checked to -/
def ckEnt (e : Ent) : Int :=
  if (e.f0.size : Int) > 16 then 20
  else if 1 ≤ e.f1.f0 ∧ e.f1.f0 ≤ 1099511627776 ∧ 0 ≤ e.f1.f1 ∧ e.f1.f1 < 8 then
    (if (e.f2.size : Int) > 32 then 31 else if e.f3 = true ∧ e.f2.toList ≠ [] then 32 else 0)
  else 30
def ckFrom : Option Ent → List Ent → Int
  | _, [] => 0
  | p, x :: r => if ckEnt x = 0 then
      (if (match p with | none => true | some y => Op.bytesLess y.f0.toList x.f0.toList) = true then ckFrom (some x) r else 90)
    else ckEnt x

theorem itemCheck_f (x : Ent) : item_Check.f x.f0 x.f1.f0 x.f1.f1 x.f2 x.f3 = some (ckEnt x) := by
  unfold item_Check.f item_CheckVersion.f ckEnt
  repeat' split
  all_goals simp_all
  all_goals omega
theorem itemCheck_calls (x : Ent) (w : World) :
    Calls Try.prog 25 #[.agg #[.string x.f0, .int .i64 x.f1.f0, .int .i64 x.f1.f1, .string x.f2, .bool x.f3]] w fun e w' => e = .returned (.int .i64 (ckEnt x)) ∧ Below w.heap.size w w' :=
  item_Check.calls _ _ _ _ _ _ w (itemCheck_f x)

theorem blk5 {W : World} {g t : Nat} {a0 a1 a2 a3 a4 : Value} (h : W.heap[g]? = some (.cells #[a0, a1, a2, a3, a4] t (0, 0))) (b0 b1 b2 b3 b4 : Value) :
    (((((W.setCell ⟨g, 0, none⟩ b0).setCell ⟨g, 1, none⟩ b1).setCell ⟨g, 2, none⟩ b2).setCell ⟨g, 3, none⟩ b3).setCell ⟨g, 4, none⟩ b4).heap[g]? = some (.cells #[b0, b1, b2, b3, b4] t (0, 0)) :=
  blk_put (blk_put (blk_put (blk_put (blk_put h 0 b0 rfl) 1 b1 rfl) 2 b2 rfl) 3 b3 rfl) 4 b4 rfl

theorem ckFrom_nil (p : Option Ent) : ckFrom p [] = 0 := by cases p <;> rfl
theorem ckFrom_bad {p : Option Ent} {x : Ent} {r : List Ent} (h : ¬ ckEnt x = 0) : ckFrom p (x :: r) = ckEnt x := by cases p <;> simp [ckFrom, h]
theorem ckFrom_first {x : Ent} {r : List Ent} (h : ckEnt x = 0) : ckFrom none (x :: r) = ckFrom (some x) r := by simp [ckFrom, h]
theorem ckFrom_up {y x : Ent} {r : List Ent} (h : ckEnt x = 0) (hc : Op.bytesLess y.f0.toList x.f0.toList = true) : ckFrom (some y) (x :: r) = ckFrom (some x) r := by simp [ckFrom, h, hc]
theorem ckFrom_down {y x : Ent} {r : List Ent} (h : ckEnt x = 0) (hc : Op.bytesLess y.f0.toList x.f0.toList = false) : ckFrom (some y) (x :: r) = 90 := by simp [ckFrom, h, hc]

theorem ckFrom_step0 {l : List Ent} {i : Nat} {x : Ent} (h : i < l.length) (hx : rd_TEnt l (i : Int) = x) : l.drop i = x :: l.drop (i + 1) := by
  rw [List.drop_eq_getElem_cons h]
  congr 1
  rw [← hx]
  simp [rd_TEnt, List.getD_eq_getElem?_getD, h]
theorem rd_eq {l : List Ent} {i : Nat} (h : i < l.length) : l[i]? = some (rd_TEnt l (i : Int)) := by
  simp [rd_TEnt, List.getD_eq_getElem?_getD, h]
def prevOf (l : List Ent) (i : Nat) : Option Ent := if i = 0 then none else l[i-1]?
theorem prevOf_succ {l : List Ent} {i : Nat} {x : Ent} (h : i < l.length) (hx : rd_TEnt l (i : Int) = x) : prevOf l (i + 1) = some x := by
  simp only [prevOf, Nat.add_sub_cancel]
  rw [if_neg (by omega), rd_eq h, hx]

set_option maxHeartbeats 400000 in
theorem mergeCheck_calls (A0 : Option Addr) (c0 : Nat) (l0 : List Ent) (w : World) (hr0 : Kd.C kEnt w A0 l0.length l0) (hc0 : l0.length ≤ c0) :
    Calls Try.prog 26 #[.slice A0 l0.length c0] w fun e w' => e = .returned (.int .i64 (ckFrom none l0)) ∧ Below w.heap.size w w' := by
  have huE := Try.underlying31
  have HR0 := Aside0.mk hr0
  have HC0 := Aside0.mk hc0
  have hmax := Kd.C_max hr0
  clear hr0 hc0
  have HB := Aside0.mk (Below.refl w.heap.size w)
  go_enter Try.func26, Try.ntmps26
  go_wp2
  go_loopw [8] (fun v8 w' => ∃ i : Nat, v8 = .int .i64 i ∧ i ≤ l0.length ∧ Aside0 (ckFrom (prevOf l0 i) (l0.drop i) = ckFrom none l0) ∧ Aside0 (Below w.heap.size w w')) (fun v8 _ => l0.length - (intOf v8).toNat)
  case atStart => exact ⟨0, rfl, Nat.zero_le _, ⟨rfl⟩, HB⟩
  case round =>
    clear HB
    obtain ⟨i, rfl, hi, HS, HB⟩ := hrel
    by_cases hlt : i < l0.length
    · obtain ⟨ad, e112, hx0, hx1, hx2, hx3, hx4⟩ := at_TEnt HR0.out (i : Int) (by omega) (by omega)
      cases e112
      obtain ⟨x, hx⟩ : ∃ x, rd_TEnt l0 (i : Int) = x := ⟨_, rfl⟩
      rw [hx] at hx0 hx1 hx2 hx3 hx4
      simp only [Int.toNat_natCast] at hx0 hx1 hx2 hx3 hx4
      have HX := Aside0.mk hx
      clear hx
      replace hx0 := pw_cell_below HB.out hx0
      replace hx1 := pw_cell_below HB.out hx1
      replace hx2 := pw_cell_below HB.out hx2
      replace hx3 := pw_cell_below HB.out hx3
      replace hx4 := pw_cell_below HB.out hx4
      by_cases hck : ckEnt x = 0
      · have hckb : (ckEnt x == 0) = true := beq_iff_eq.2 hck
        have hckb1 : (ckEnt x != 0) = false := by simp [hck]
        have HCK := Aside0.mk hck
        clear hck
        by_cases h0 : i = 0
        · have H0 := Aside0.mk h0
          have hgt : decide (0 < (i : Int)) = false := by simp [h0]
          have hgt2 : decide (0 < i) = false := by simp [h0]
          clear h0
          go_wp2_with (first | ((with_reducible refine gate_dst (N := 4) rfl ?_); refine box_event ?hg (N := 4) ?hd (cs := #[.string (⟨#[]⟩ : ByteArray), .int .i64 0, .int .i64 0, .string (⟨#[]⟩ : ByteArray), .bool false]) (t := 31) ?hr ?_; (case hd => rfl); (case hg => rfl); (case hr => first | (go_simp; done) | (go_simp; rfl)); intro g hg W_g hbox hb; have n0_ := Aside0.mk (below_step (by repeat (first | (with_reducible first | exact HB.out | apply below_alloc | apply pw_below_drewN | apply below_drew1) | exact HB.out)) hb); have GEg := Aside0.mk (by rw [hg]; exact (below_size (by repeat (first | (with_reducible first | exact HB.out | apply below_alloc | apply pw_below_drewN | apply below_drew1) | exact HB.out))) : w.heap.size ≤ g); have GNg := Aside0.mk hg; clear HB; have HB := n0_; have BKg := Aside0.mk hbox; have hcg_0 := blk_cell BKg.out 0; have hfg_0 := blk_frozen BKg.out 0; have hcg_1 := blk_cell BKg.out 1; have hfg_1 := blk_frozen BKg.out 1; have hcg_2 := blk_cell BKg.out 2; have hfg_2 := blk_frozen BKg.out 2; have hcg_3 := blk_cell BKg.out 3; have hfg_3 := blk_frozen BKg.out 3; have hcg_4 := blk_cell BKg.out 4; have hfg_4 := blk_frozen BKg.out 4; simp only [List.getElem?_toArray, List.getElem?_cons_zero, List.getElem?_cons_succ] at hcg_0 hcg_1 hcg_2 hcg_3 hcg_4; clear n0_ hb hbox hg) | (go_at_call 25; (with_reducible refine (itemCheck_calls x _).mono ?_); rintro e w2 ⟨rfl, hb⟩; have n0_ := Aside0.mk (below_step (by repeat (first | (with_reducible first | exact HB.out | apply below_alloc | apply pw_below_drewN | apply below_drew1 | refine below_set ?_ GEg.out) | exact HB.out)) hb); clear HB; have HB := n0_; clear n0_; have n1_ := Aside0.mk (blk_below (blk5 BKg.out _ _ _ _ _) hb); clear BKg hcg_0 hfg_0 hcg_1 hfg_1 hcg_2 hfg_2 hcg_3 hfg_3 hcg_4 hfg_4; have BKg := n1_; clear n1_; have hcg_0 := blk_cell BKg.out 0; have hfg_0 := blk_frozen BKg.out 0; have hcg_1 := blk_cell BKg.out 1; have hfg_1 := blk_frozen BKg.out 1; have hcg_2 := blk_cell BKg.out 2; have hfg_2 := blk_frozen BKg.out 2; have hcg_3 := blk_cell BKg.out 3; have hfg_3 := blk_frozen BKg.out 3; have hcg_4 := blk_cell BKg.out 4; have hfg_4 := blk_frozen BKg.out 4; simp only [List.getElem?_toArray, List.getElem?_cons_zero, List.getElem?_cons_succ] at hcg_0 hcg_1 hcg_2 hcg_3 hcg_4; clear hb ))
          go_quiet (fail)
          go_wp2
          go_roundw
          case rel =>
            refine ⟨i + 1, by go_num, by omega, ⟨?_⟩, ⟨pw_below_drewN HB.out _⟩⟩
            rw [← HS.out, ckFrom_step0 hlt HX.out, prevOf_succ hlt HX.out, show prevOf l0 i = none by simp [prevOf, H0.out], ckFrom_first HCK.out]
          case measure => simp [intOf]; omega
        · have hgt : decide (0 < (i : Int)) = true := by simp; omega
          have hgt2 : decide (0 < i) = true := by simp; omega
          obtain ⟨ad', e113, hy0, _, _, _, _⟩ := at_TEnt HR0.out ((i - 1 : Nat) : Int) (by omega) (by omega)
          cases e113
          obtain ⟨y, hy⟩ : ∃ y, rd_TEnt l0 ((i - 1 : Nat) : Int) = y := ⟨_, rfl⟩
          rw [hy] at hy0
          simp only [Int.toNat_natCast] at hy0
          have HY := Aside0.mk hy
          clear hy
          have HY0 := Aside0.mk hy0
          clear hy0
          have hP : prevOf l0 i = some y := by rw [prevOf, if_neg h0, rd_eq (by omega), HY.out]
          have HP := Aside0.mk hP
          have h0' : 1 ≤ i := by omega
          clear hP h0
          have hw1 : IntKind.i64.wrap ((i : Int) - 1) = ((i - 1 : Nat) : Int) := by rw [i64_w]; unfold wrap64; omega
          have hw2 : (0 : Int) ≤ ((i - 1 : Nat) : Int) := by omega
          have hw3 : ((i - 1 : Nat) : Int) < (l0.length : Int) := by omega
          cases hcmp : Op.bytesLess y.f0.toList x.f0.toList
          · go_wp2_with (first | ((with_reducible refine gate_dst (N := 4) rfl ?_); refine box_event ?hg (N := 4) ?hd (cs := #[.string (⟨#[]⟩ : ByteArray), .int .i64 0, .int .i64 0, .string (⟨#[]⟩ : ByteArray), .bool false]) (t := 31) ?hr ?_; (case hd => rfl); (case hg => rfl); (case hr => first | (go_simp; done) | (go_simp; rfl)); intro g hg W_g hbox hb; have n0_ := Aside0.mk (below_step (by repeat (first | (with_reducible first | exact HB.out | apply below_alloc | apply pw_below_drewN | apply below_drew1) | exact HB.out)) hb); have GEg := Aside0.mk (by rw [hg]; exact (below_size (by repeat (first | (with_reducible first | exact HB.out | apply below_alloc | apply pw_below_drewN | apply below_drew1) | exact HB.out))) : w.heap.size ≤ g); have GNg := Aside0.mk hg; clear HB; have HB := n0_; have BKg := Aside0.mk hbox; have hcg_0 := blk_cell BKg.out 0; have hfg_0 := blk_frozen BKg.out 0; have hcg_1 := blk_cell BKg.out 1; have hfg_1 := blk_frozen BKg.out 1; have hcg_2 := blk_cell BKg.out 2; have hfg_2 := blk_frozen BKg.out 2; have hcg_3 := blk_cell BKg.out 3; have hfg_3 := blk_frozen BKg.out 3; have hcg_4 := blk_cell BKg.out 4; have hfg_4 := blk_frozen BKg.out 4; simp only [List.getElem?_toArray, List.getElem?_cons_zero, List.getElem?_cons_succ] at hcg_0 hcg_1 hcg_2 hcg_3 hcg_4; clear n0_ hb hbox hg) | (go_at_call 25; (with_reducible refine (itemCheck_calls x _).mono ?_); rintro e w2 ⟨rfl, hb⟩; have n0_ := Aside0.mk (below_step (by repeat (first | (with_reducible first | exact HB.out | apply below_alloc | apply pw_below_drewN | apply below_drew1 | refine below_set ?_ GEg.out) | exact HB.out)) hb); clear HB; have HB := n0_; clear n0_; have n1_ := Aside0.mk (blk_below (blk5 BKg.out _ _ _ _ _) hb); clear BKg hcg_0 hfg_0 hcg_1 hfg_1 hcg_2 hfg_2 hcg_3 hfg_3 hcg_4 hfg_4; have BKg := n1_; clear n1_; have hcg_0 := blk_cell BKg.out 0; have hfg_0 := blk_frozen BKg.out 0; have hcg_1 := blk_cell BKg.out 1; have hfg_1 := blk_frozen BKg.out 1; have hcg_2 := blk_cell BKg.out 2; have hfg_2 := blk_frozen BKg.out 2; have hcg_3 := blk_cell BKg.out 3; have hfg_3 := blk_frozen BKg.out 3; have hcg_4 := blk_cell BKg.out 4; have hfg_4 := blk_frozen BKg.out 4; simp only [List.getElem?_toArray, List.getElem?_cons_zero, List.getElem?_cons_succ] at hcg_0 hcg_1 hcg_2 hcg_3 hcg_4; clear hb ; have hy0 := pw_cell_below HB.out HY0.out))
            go_quiet (fail)
            go_wp2
            go_ret
            exact ⟨ret_int (by rw [← HS.out, ckFrom_step0 hlt HX.out, HP.out, ckFrom_down HCK.out hcmp]), pw_below_drewN HB.out _⟩
          · go_wp2_with (first | ((with_reducible refine gate_dst (N := 4) rfl ?_); refine box_event ?hg (N := 4) ?hd (cs := #[.string (⟨#[]⟩ : ByteArray), .int .i64 0, .int .i64 0, .string (⟨#[]⟩ : ByteArray), .bool false]) (t := 31) ?hr ?_; (case hd => rfl); (case hg => rfl); (case hr => first | (go_simp; done) | (go_simp; rfl)); intro g hg W_g hbox hb; have n0_ := Aside0.mk (below_step (by repeat (first | (with_reducible first | exact HB.out | apply below_alloc | apply pw_below_drewN | apply below_drew1) | exact HB.out)) hb); have GEg := Aside0.mk (by rw [hg]; exact (below_size (by repeat (first | (with_reducible first | exact HB.out | apply below_alloc | apply pw_below_drewN | apply below_drew1) | exact HB.out))) : w.heap.size ≤ g); have GNg := Aside0.mk hg; clear HB; have HB := n0_; have BKg := Aside0.mk hbox; have hcg_0 := blk_cell BKg.out 0; have hfg_0 := blk_frozen BKg.out 0; have hcg_1 := blk_cell BKg.out 1; have hfg_1 := blk_frozen BKg.out 1; have hcg_2 := blk_cell BKg.out 2; have hfg_2 := blk_frozen BKg.out 2; have hcg_3 := blk_cell BKg.out 3; have hfg_3 := blk_frozen BKg.out 3; have hcg_4 := blk_cell BKg.out 4; have hfg_4 := blk_frozen BKg.out 4; simp only [List.getElem?_toArray, List.getElem?_cons_zero, List.getElem?_cons_succ] at hcg_0 hcg_1 hcg_2 hcg_3 hcg_4; clear n0_ hb hbox hg) | (go_at_call 25; (with_reducible refine (itemCheck_calls x _).mono ?_); rintro e w2 ⟨rfl, hb⟩; have n0_ := Aside0.mk (below_step (by repeat (first | (with_reducible first | exact HB.out | apply below_alloc | apply pw_below_drewN | apply below_drew1 | refine below_set ?_ GEg.out) | exact HB.out)) hb); clear HB; have HB := n0_; clear n0_; have n1_ := Aside0.mk (blk_below (blk5 BKg.out _ _ _ _ _) hb); clear BKg hcg_0 hfg_0 hcg_1 hfg_1 hcg_2 hfg_2 hcg_3 hfg_3 hcg_4 hfg_4; have BKg := n1_; clear n1_; have hcg_0 := blk_cell BKg.out 0; have hfg_0 := blk_frozen BKg.out 0; have hcg_1 := blk_cell BKg.out 1; have hfg_1 := blk_frozen BKg.out 1; have hcg_2 := blk_cell BKg.out 2; have hfg_2 := blk_frozen BKg.out 2; have hcg_3 := blk_cell BKg.out 3; have hfg_3 := blk_frozen BKg.out 3; have hcg_4 := blk_cell BKg.out 4; have hfg_4 := blk_frozen BKg.out 4; simp only [List.getElem?_toArray, List.getElem?_cons_zero, List.getElem?_cons_succ] at hcg_0 hcg_1 hcg_2 hcg_3 hcg_4; clear hb ; have hy0 := pw_cell_below HB.out HY0.out))
            go_quiet (fail)
            go_wp2
            go_roundw
            case rel =>
              refine ⟨i + 1, by go_num, by omega, ⟨?_⟩, ⟨pw_below_drewN HB.out _⟩⟩
              rw [← HS.out, ckFrom_step0 hlt HX.out, prevOf_succ hlt HX.out, HP.out, ckFrom_up HCK.out hcmp]
            case measure => simp [intOf]; omega
      · have hckb : (ckEnt x == 0) = false := by simp [hck]
        have hckb1 : (ckEnt x != 0) = true := by simp [hck]
        have HCK := Aside0.mk hck
        clear hck
        go_wp2_with (first | ((with_reducible refine gate_dst (N := 4) rfl ?_); refine box_event ?hg (N := 4) ?hd (cs := #[.string (⟨#[]⟩ : ByteArray), .int .i64 0, .int .i64 0, .string (⟨#[]⟩ : ByteArray), .bool false]) (t := 31) ?hr ?_; (case hd => rfl); (case hg => rfl); (case hr => first | (go_simp; done) | (go_simp; rfl)); intro g hg W_g hbox hb; have n0_ := Aside0.mk (below_step (by repeat (first | (with_reducible first | exact HB.out | apply below_alloc | apply pw_below_drewN | apply below_drew1) | exact HB.out)) hb); have GEg := Aside0.mk (by rw [hg]; exact (below_size (by repeat (first | (with_reducible first | exact HB.out | apply below_alloc | apply pw_below_drewN | apply below_drew1) | exact HB.out))) : w.heap.size ≤ g); have GNg := Aside0.mk hg; clear HB; have HB := n0_; have BKg := Aside0.mk hbox; have hcg_0 := blk_cell BKg.out 0; have hfg_0 := blk_frozen BKg.out 0; have hcg_1 := blk_cell BKg.out 1; have hfg_1 := blk_frozen BKg.out 1; have hcg_2 := blk_cell BKg.out 2; have hfg_2 := blk_frozen BKg.out 2; have hcg_3 := blk_cell BKg.out 3; have hfg_3 := blk_frozen BKg.out 3; have hcg_4 := blk_cell BKg.out 4; have hfg_4 := blk_frozen BKg.out 4; simp only [List.getElem?_toArray, List.getElem?_cons_zero, List.getElem?_cons_succ] at hcg_0 hcg_1 hcg_2 hcg_3 hcg_4; clear n0_ hb hbox hg) | (go_at_call 25; (with_reducible refine (itemCheck_calls x _).mono ?_); rintro e w2 ⟨rfl, hb⟩; have n0_ := Aside0.mk (below_step (by repeat (first | (with_reducible first | exact HB.out | apply below_alloc | apply pw_below_drewN | apply below_drew1 | refine below_set ?_ GEg.out) | exact HB.out)) hb); clear HB; have HB := n0_; clear n0_; have n1_ := Aside0.mk (blk_below (blk5 BKg.out _ _ _ _ _) hb); clear BKg hcg_0 hfg_0 hcg_1 hfg_1 hcg_2 hfg_2 hcg_3 hfg_3 hcg_4 hfg_4; have BKg := n1_; clear n1_; have hcg_0 := blk_cell BKg.out 0; have hfg_0 := blk_frozen BKg.out 0; have hcg_1 := blk_cell BKg.out 1; have hfg_1 := blk_frozen BKg.out 1; have hcg_2 := blk_cell BKg.out 2; have hfg_2 := blk_frozen BKg.out 2; have hcg_3 := blk_cell BKg.out 3; have hfg_3 := blk_frozen BKg.out 3; have hcg_4 := blk_cell BKg.out 4; have hfg_4 := blk_frozen BKg.out 4; simp only [List.getElem?_toArray, List.getElem?_cons_zero, List.getElem?_cons_succ] at hcg_0 hcg_1 hcg_2 hcg_3 hcg_4; clear hb ))
        go_ret
        exact ⟨ret_int (by rw [← HS.out, ckFrom_step0 hlt HX.out, ckFrom_bad HCK.out]), HB.out⟩
    · have hge : i = l0.length := by omega
      have HG := Aside0.mk hge
      have hge' : ¬ (i : Int) < (l0.length : Int) := by omega
      clear hge
      go_wp2
      go_ret
      exact ⟨ret_int (by rw [← HS.out, HG.out, List.drop_length, ckFrom_nil]), HB.out⟩
def merge_Check.f (k : Nat) (l : List Ent) : Option Int := some (ckFrom none l)
theorem merge_Check.mono (l : List Ent) (k : Nat) : LeO (merge_Check.f k l) (merge_Check.f (k + 1) l) := fun _ h => h
theorem merge_Check.calls (k : Nat) (A0 : Option Addr) (c0 : Nat) (l0 : List Ent) (r : Int) (w : World) (hr0 : Kd.C kEnt w A0 l0.length l0) (hc0 : l0.length ≤ c0) (h : merge_Check.f k l0 = some r) :
    Calls Try.prog 26 #[.slice A0 l0.length c0] w fun e w' => e = .returned (.int .i64 r) ∧ Below w.heap.size w w' := by
  obtain rfl := Option.some.inj h
  exact mergeCheck_calls A0 c0 l0 w hr0 hc0

theorem refCheck_f (x : Ent) : tidelineref03_Check.f x.f0 x.f1.f0 x.f1.f1 x.f2 x.f3 = some (ckEnt x) := by
  unfold tidelineref03_Check.f tidelineref03_CheckVersion.f ckEnt
  repeat' split
  all_goals simp_all
  all_goals omega
theorem refItemCheck_calls (x : Ent) (w : World) :
    Calls Try.prog 31 #[.agg #[.string x.f0, .int .i64 x.f1.f0, .int .i64 x.f1.f1, .string x.f2, .bool x.f3]] w fun e w' => e = .returned (.int .i64 (ckEnt x)) ∧ Below w.heap.size w w' :=
  tidelineref03_Check.calls _ _ _ _ _ _ w (refCheck_f x)
set_option maxHeartbeats 400000 in
theorem refMapCheck_calls (A0 : Option Addr) (c0 : Nat) (l0 : List Ent) (w : World) (hr0 : Kd.C kEnt w A0 l0.length l0) (hc0 : l0.length ≤ c0) :
    Calls Try.prog 32 #[.slice A0 l0.length c0] w fun e w' => e = .returned (.int .i64 (ckFrom none l0)) ∧ Below w.heap.size w w' := by
  have huE := Try.underlying31
  have HR0 := Aside0.mk hr0
  have HC0 := Aside0.mk hc0
  have hmax := Kd.C_max hr0
  clear hr0 hc0
  have HB := Aside0.mk (Below.refl w.heap.size w)
  go_enter Try.func32, Try.ntmps32
  go_wp2
  go_loopw [3] (fun v8 w' => ∃ i : Nat, v8 = .int .i64 i ∧ i ≤ l0.length ∧ Aside0 (ckFrom (prevOf l0 i) (l0.drop i) = ckFrom none l0) ∧ Aside0 (Below w.heap.size w w')) (fun v8 _ => l0.length - (intOf v8).toNat)
  case atStart => exact ⟨0, rfl, Nat.zero_le _, ⟨rfl⟩, HB⟩
  case round =>
    clear HB
    obtain ⟨i, rfl, hi, HS, HB⟩ := hrel
    by_cases hlt : i < l0.length
    · obtain ⟨ad, e112, hx0, hx1, hx2, hx3, hx4⟩ := at_TEnt HR0.out (i : Int) (by omega) (by omega)
      cases e112
      obtain ⟨x, hx⟩ : ∃ x, rd_TEnt l0 (i : Int) = x := ⟨_, rfl⟩
      rw [hx] at hx0 hx1 hx2 hx3 hx4
      simp only [Int.toNat_natCast] at hx0 hx1 hx2 hx3 hx4
      have HX := Aside0.mk hx
      clear hx
      have HX0 := Aside0.mk hx0
      replace hx0 := pw_cell_below HB.out hx0
      replace hx1 := pw_cell_below HB.out hx1
      replace hx2 := pw_cell_below HB.out hx2
      replace hx3 := pw_cell_below HB.out hx3
      replace hx4 := pw_cell_below HB.out hx4
      by_cases hck : ckEnt x = 0
      · have hckb : (ckEnt x == 0) = true := beq_iff_eq.2 hck
        have hckb1 : (ckEnt x != 0) = false := by simp [hck]
        have HCK := Aside0.mk hck
        clear hck
        by_cases h0 : i = 0
        · have H0 := Aside0.mk h0
          have hgt : decide (0 < (i : Int)) = false := by simp [h0]
          have hgt2 : decide (0 < i) = false := by simp [h0]
          clear h0
          go_wp2_with (go_at_call 31; (with_reducible refine (refItemCheck_calls x _).mono ?_); rintro e w2 ⟨rfl, hb⟩; have n0_ := Aside0.mk (below_step (by repeat (first | (with_reducible first | exact HB.out | apply below_alloc | apply pw_below_drewN | apply below_drew1) | exact HB.out)) hb); clear HB; have HB := n0_; clear n0_; clear hx0 hb )
          go_quiet (fail)
          go_wp2
          go_roundw
          case rel =>
            refine ⟨i + 1, by go_num, by omega, ⟨?_⟩, ⟨pw_below_drewN HB.out _⟩⟩
            rw [← HS.out, ckFrom_step0 hlt HX.out, prevOf_succ hlt HX.out, show prevOf l0 i = none by simp [prevOf, H0.out], ckFrom_first HCK.out]
          case measure => simp [intOf]; omega
        · have hgt : decide (0 < (i : Int)) = true := by simp; omega
          have hgt2 : decide (0 < i) = true := by simp; omega
          obtain ⟨ad', e113, hy0, _, _, _, _⟩ := at_TEnt HR0.out ((i - 1 : Nat) : Int) (by omega) (by omega)
          cases e113
          obtain ⟨y, hy⟩ : ∃ y, rd_TEnt l0 ((i - 1 : Nat) : Int) = y := ⟨_, rfl⟩
          rw [hy] at hy0
          simp only [Int.toNat_natCast] at hy0
          have HY := Aside0.mk hy
          clear hy
          have HY0 := Aside0.mk hy0
          clear hy0
          have hP : prevOf l0 i = some y := by rw [prevOf, if_neg h0, rd_eq (by omega), HY.out]
          have HP := Aside0.mk hP
          have h0' : 1 ≤ i := by omega
          clear hP h0
          have hw1 : IntKind.i64.wrap ((i : Int) - 1) = ((i - 1 : Nat) : Int) := by rw [i64_w]; unfold wrap64; omega
          have hw2 : (0 : Int) ≤ ((i - 1 : Nat) : Int) := by omega
          have hw3 : ((i - 1 : Nat) : Int) < (l0.length : Int) := by omega
          have hw4 : (0 : Int) ≤ (i : Int) := by omega
          have hw5 : (i : Int) < (l0.length : Int) := by omega
          cases hcmp : Op.bytesLess y.f0.toList x.f0.toList
          · have hle : (Op.bytesLess x.f0.toList y.f0.toList || x.f0.toList == y.f0.toList) = true := le_of_not_less hcmp
            go_wp2_with (go_at_call 31; (with_reducible refine (refItemCheck_calls x _).mono ?_); rintro e w2 ⟨rfl, hb⟩; have n0_ := Aside0.mk (below_step (by repeat (first | (with_reducible first | exact HB.out | apply below_alloc | apply pw_below_drewN | apply below_drew1) | exact HB.out)) hb); clear HB; have HB := n0_; clear n0_; clear hx0 hb ; have hy0 := pw_cell_below HB.out HY0.out; have hx0 := pw_cell_below HB.out HX0.out)
            go_quiet (fail)
            go_wp2
            go_ret
            exact ⟨ret_int (by rw [← HS.out, ckFrom_step0 hlt HX.out, HP.out, ckFrom_down HCK.out hcmp]), pw_below_drewN HB.out _⟩
          · have hle : (Op.bytesLess x.f0.toList y.f0.toList || x.f0.toList == y.f0.toList) = false := not_le_of_less hcmp
            go_wp2_with (go_at_call 31; (with_reducible refine (refItemCheck_calls x _).mono ?_); rintro e w2 ⟨rfl, hb⟩; have n0_ := Aside0.mk (below_step (by repeat (first | (with_reducible first | exact HB.out | apply below_alloc | apply pw_below_drewN | apply below_drew1) | exact HB.out)) hb); clear HB; have HB := n0_; clear n0_; clear hx0 hb ; have hy0 := pw_cell_below HB.out HY0.out; have hx0 := pw_cell_below HB.out HX0.out)
            go_quiet (fail)
            go_wp2
            go_roundw
            case rel =>
              refine ⟨i + 1, by go_num, by omega, ⟨?_⟩, ⟨pw_below_drewN HB.out _⟩⟩
              rw [← HS.out, ckFrom_step0 hlt HX.out, prevOf_succ hlt HX.out, HP.out, ckFrom_up HCK.out hcmp]
            case measure => simp [intOf]; omega
      · have hckb : (ckEnt x == 0) = false := by simp [hck]
        have hckb1 : (ckEnt x != 0) = true := by simp [hck]
        have HCK := Aside0.mk hck
        clear hck
        go_wp2_with (go_at_call 31; (with_reducible refine (refItemCheck_calls x _).mono ?_); rintro e w2 ⟨rfl, hb⟩; have n0_ := Aside0.mk (below_step (by repeat (first | (with_reducible first | exact HB.out | apply below_alloc | apply pw_below_drewN | apply below_drew1) | exact HB.out)) hb); clear HB; have HB := n0_; clear n0_; clear hx0 hb )
        go_ret
        exact ⟨ret_int (by rw [← HS.out, ckFrom_step0 hlt HX.out, ckFrom_bad HCK.out]), HB.out⟩
    · have hge : i = l0.length := by omega
      have HG := Aside0.mk hge
      have hge' : ¬ (i : Int) < (l0.length : Int) := by omega
      clear hge
      go_wp2
      go_ret
      exact ⟨ret_int (by rw [← HS.out, HG.out, List.drop_length, ckFrom_nil]), HB.out⟩
def tidelineref09_Check.f (k : Nat) (l : List Ent) : Option Int := some (ckFrom none l)
theorem tidelineref09_Check.mono (l : List Ent) (k : Nat) : LeO (tidelineref09_Check.f k l) (tidelineref09_Check.f (k + 1) l) := fun _ h => h
theorem tidelineref09_Check.calls (k : Nat) (A0 : Option Addr) (c0 : Nat) (l0 : List Ent) (r : Int) (w : World) (hr0 : Kd.C kEnt w A0 l0.length l0) (hc0 : l0.length ≤ c0) (h : tidelineref09_Check.f k l0 = some r) :
    Calls Try.prog 32 #[.slice A0 l0.length c0] w fun e w' => e = .returned (.int .i64 r) ∧ Below w.heap.size w w' := by
  obtain rfl := Option.some.inj h
  exact refMapCheck_calls A0 c0 l0 w hr0 hc0
end Go.Proofs.Ytplnofodmgddmaa
