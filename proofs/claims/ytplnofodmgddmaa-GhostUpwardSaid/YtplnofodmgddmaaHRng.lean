import Derived.Test.YtplnofodmgddmaaHPairs
import Derived.Test.YtplnofodmgddmaaFrm
import Derived.Test.YtplnofodmgddmaaQB1
/- merge.pairs, slices.Clone, merge.Both, item.Newer; a range over the pairs. -/
set_option linter.unusedVariables false
set_option linter.unusedSimpArgs false
namespace Go.Proofs.Ytplnofodmgddmaa
open Go.RowKit Go.Proofs.YtplnofodmgddmaaW.PrintWords Go.Proofs.YtplnofodmgddmaaW.PrintLast Go.Proofs.YtplnofodmgddmaaW.PrintMore

theorem kEnt_flat (w w' : World) (x : Ent) (cs : List Value) (h : kEnt.K w x cs) : kEnt.K w' x cs := by
  rw [kEnt_open h]; exact kEnt_mk w' x
theorem kEnt_szpos : 0 < kEnt.sz := by decide

/-- the pairs' iterator: its two captured maps -/
theorem pairs_calls (A0 : Option Addr) (c0 : Nat) (a : List Ent) (A1 : Option Addr) (c1 : Nat) (b : List Ent) (w : World) (hr0 : Kd.C kEnt w A0 a.length a) (hr1 : Kd.C kEnt w A1 b.length b) :
    Calls Try.prog 30 #[.slice A0 a.length c0, .slice A1 b.length c1] w fun e w' => ∃ Ba Bb, e = .returned (.func (.func 37) #[] #[.pointer (some ⟨Ba, 0, none⟩), .pointer (some ⟨Bb, 0, none⟩)]) ∧
      PInv Ba Bb A0 c0 a A1 c1 b w' ∧ w.heap.size ≤ Ba ∧ w.heap.size ≤ Bb ∧ Below w.heap.size w w' := by
  have HR0 := Aside0.mk hr0
  have HR1 := Aside0.mk hr1
  clear hr0 hr1
  have HB := Aside0.mk (Below.refl w.heap.size w)
  have hmf : ∀ (fn : Fn) (first cap : Array Value) (w : World), (Instr.makeFunc fn first cap).run Try.prog w = .ok (.func fn first cap) w := fun _ _ _ _ => rfl
  go_enter Try.func30, Try.ntmps30
  go_wp2_with (first | ((with_reducible refine gate_dst (N := 2) rfl ?_); refine box_event ?hg (N := 2) ?hd (cs := #[.slice A0 a.length c0]) (t := 32) ?hr ?_; (case hd => rfl); (case hg => rfl); (case hr => first | (go_simp; done) | (go_simp; rfl)); intro ga hg W_ga hbox hb; have n0_ := Aside0.mk (below_step (by repeat (first | (with_reducible first | exact HB.out | apply below_alloc | apply pw_below_drewN | apply below_drew1) | exact HB.out)) hb); have GEga := Aside0.mk (by rw [hg]; exact (below_size (by repeat (first | (with_reducible first | exact HB.out | apply below_alloc | apply pw_below_drewN | apply below_drew1) | exact HB.out))) : w.heap.size ≤ ga); have GNga := Aside0.mk hg; clear HB; have HB := n0_; have BKga := Aside0.mk hbox; have hcga_0 := blk_cell BKga.out 0; have hfga_0 := blk_frozen BKga.out 0; simp only [List.getElem?_toArray, List.getElem?_cons_zero, List.getElem?_cons_succ] at hcga_0; clear n0_ hb hbox hg) | ((with_reducible refine gate_dst (N := 3) rfl ?_); refine box_event ?hg (N := 3) ?hd (cs := #[.slice A1 b.length c1]) (t := 32) ?hr ?_; (case hd => rfl); (case hg => rfl); (case hr => first | (go_simp; done) | (go_simp; rfl)); intro gb hg W_gb hbox hb; have n0_ := Aside0.mk (below_step (by repeat (first | (with_reducible first | exact HB.out | apply below_alloc | apply pw_below_drewN | apply below_drew1) | exact HB.out)) hb); have GEgb := Aside0.mk (by rw [hg]; exact (below_size (by repeat (first | (with_reducible first | exact HB.out | apply below_alloc | apply pw_below_drewN | apply below_drew1) | exact HB.out))) : w.heap.size ≤ gb); have GNgb := Aside0.mk hg; clear HB; have HB := n0_; have BKgb := Aside0.mk hbox; have hcgb_0 := blk_cell BKgb.out 0; have hfgb_0 := blk_frozen BKgb.out 0; simp only [List.getElem?_toArray, List.getElem?_cons_zero, List.getElem?_cons_succ] at hcgb_0; have n1_ := Aside0.mk (blk_below BKga.out hb); clear BKga hcga_0 hfga_0; have BKga := n1_; clear n1_; have hcga_0 := blk_cell BKga.out 0; have hfga_0 := blk_frozen BKga.out 0; simp only [List.getElem?_toArray, List.getElem?_cons_zero, List.getElem?_cons_succ] at hcga_0; clear n0_ hb hbox hg))
  go_ret
  exact ⟨ga, gb, rfl, ⟨hcga_0, hcgb_0, Kd.C_below HR0.out HB.out, Kd.C_below HR1.out HB.out⟩, GEga.out, GEgb.out, HB.out⟩

set_option maxHeartbeats 400000 in
theorem clone_calls (A0 : Option Addr) (c0 : Nat) (l0 : List Ent) (w : World) (hr0 : Kd.C kEnt w A0 l0.length l0) (hc0 : l0.length ≤ c0) (hl : l0.length < 2513169434916) :
    Calls Try.prog 24 #[.slice A0 l0.length c0] w fun e w' => ∃ v, e = .returned v ∧ Kd.R kEnt 31 w' w.heap.size (fun _ => True) v l0 ∧ Below w.heap.size w w' := by
  have huE := Try.underlying31
  have HR0 := Aside0.mk hr0
  have HC0 := Aside0.mk hc0
  have HL := Aside0.mk hl
  clear hr0 hc0 hl
  have HB := Aside0.mk (Below.refl w.heap.size w)
  have hq := fun (a : Option Addr) (n c n' c' : Nat) (w : World) => Lib.run_eql_slice_nil w 32 31 a n c n' c' Try.underlying32
  rcases A0 with _ | ad
  · have h0 : l0 = [] := by
      rcases l0 with _ | ⟨x, xs⟩
      · rfl
      · obtain ⟨ad, h, _⟩ := HR0.out.2.2 (by simp); cases h
    go_enter Try.func24, Try.ntmps24
    go_wp2
    go_ret
    exact ⟨_, rfl, by rw [h0]; exact Kd.R_nil _ _ _ _ _, HB.out⟩
  · obtain ⟨y135, hy135⟩ : ∃ y_ : List Ent, y_ = ([] : List Ent) := ⟨_, rfl⟩
    have Ny135 := Aside0.mk hy135
    clear hy135
    go_enter Try.func24, Try.ntmps24
    go_wp2_with (first | ((with_reducible refine gate_dst (N := 5) rfl ?_); refine Kd.R_lit kEnt _ 31 ?hg (N := 5) ?hd (xs := ([] : List Ent)) (inner := []) (ok := fun _ => True) (okp := fun _ => True) ?hr ?hp (fun _ hk => hk) trivial (Below.refl _ _) (Nat.le_refl _) (by simp) ?_; (case hd => rfl); (case hg => rfl); (case hr => first | (go_simp; done) | (go_simp; rfl)); (case hp => exact (Reps.none _ _)); intro v136 w4 ho5 hb hg_ hnew_; clear hg_ hnew_; rw [← Ny135.out] at ho5; have HO := Aside0.mk ho5; clear HB; have HB := Aside0.mk hb; clear hb ho5) | ((with_reducible refine gate_builtin (b := .append) (xs := #[.tmp 5, .tmp 6]) rfl ?_); at_builtin; refine Kd.R_append_rows kEnt (w0 := w) w.heap.size rfl (.tmp 5) (.tmp 6) 32 31 (.agg #[(.string ⟨#[]⟩), (.int .i64 0), (.int .i64 0), (.string ⟨#[]⟩), (.bool false)]) 56 rfl Try.underlying32 infoEnt rfl (by decide) (by omega) v136 y135 l0 _ _ _ (fun _ => True) (fun _ => False) rfl rfl ?aO ?aR (fun _ _ h => h) (fun _ h => h.elim) ?aF ?aB ?aS ?aL ?_; (case aR => repeat (first | exact (Kd.C_below HR0.out HB.out) | (with_reducible refine Kd.C_alloc ?_ _) | (with_reducible refine Kd.C_drewN ?_ _) | (with_reducible refine Kd.C_drew ?_))); (case aB => exact HB.out); (case aF => exact (fun _ _ => trivial)); (case aO => exact HO.out); (case aS => exact HB.out.size); (case aL => rw [Ny135.out]; have := HL.out; simp; omega); intro v139 w6 ho hb hg hat; rw [Ny135.out] at ho; have n0_ := Aside0.mk (hb); have n1_ := Aside0.mk (ho); clear HB; clear HO; have HB := n0_; have HO := n1_; clear n0_ n1_; clear ho hb hg hat))
    go_ret
    exact ⟨_, rfl, HO.out, HB.out⟩

/-- what a row of the call's own is, as a slice that reads -/
theorem own_form {w : World} {base : Nat} {ok : Nat → Prop} {v : Value} {l : List Ent} (h : Kd.R kEnt 31 w base ok v l) :
    ∃ A c, v = .slice A l.length c ∧ l.length ≤ c ∧ Kd.C kEnt w A l.length l ∧ (∀ ad, A = some ad → base ≤ ad.block ∧ ok ad.block) := by
  obtain ⟨A, c, rfl, hc, hC⟩ := Kd.R_reads h
  refine ⟨A, c, rfl, hc, hC, fun ad e => ?_⟩
  subst e
  exact ⟨Kd.R_base h _ rfl, h.1 _ rfl⟩

/-- is an entry newer than another one? -/
def newerE (x y : Ent) : Bool := decide (y.f1.f0 < x.f1.f0 ∨ (x.f1.f0 = y.f1.f0 ∧ y.f1.f1 < x.f1.f1))
def cmpI (a b : Int) : Int := if a < b then -1 else if b < a then 1 else 0
theorem cmpCompare_f (a b : Int) : cmp_Compare_int.f a b = some (cmpI a b) := by
  unfold cmp_Compare_int.f cmp_isNaN_int.f cmpI
  simp
  split <;> simp_all
  split <;> simp_all
theorem cmpOr_f (a b : Int) : cmp_Or_int.f 3 [a, b] = some (if a = 0 then b else a) := by
  have w1 : wrap64 1 = 1 := by unfold wrap64; omega
  have w2 : wrap64 (1 + 1) = 2 := by unfold wrap64; omega
  have w3 : wrap64 2 = 2 := by unfold wrap64; omega
  unfold cmp_Or_int.f
  simp only [cmp_Or_int.l0, List.length_cons, List.length_nil, rd]
  by_cases ha : a = 0
  · by_cases hb : b = 0 <;> simp [ha, hb, w1, w2, w3]
  · simp [ha]
theorem itemCompare_f (x y : Ent) : item_Compare.f 3 x.f1.f0 x.f1.f1 y.f1.f0 y.f1.f1 = some (if cmpI x.f1.f0 y.f1.f0 = 0 then cmpI x.f1.f1 y.f1.f1 else cmpI x.f1.f0 y.f1.f0) := by
  unfold item_Compare.f
  simp [cmpCompare_f, cmpOr_f]
theorem itemNewer_f (x y : Ent) : item_Newer.f 3 x.f0 x.f1.f0 x.f1.f1 x.f2 x.f3 y.f0 y.f1.f0 y.f1.f1 y.f2 y.f3 = some (newerE x y) := by
  unfold item_Newer.f
  rw [itemCompare_f]
  simp only [Option.bind_some, newerE, cmpI]
  congr 1
  rw [Bool.eq_iff_iff]
  simp only [decide_eq_true_eq, gt_iff_lt]
  repeat' split
  all_goals omega
theorem itemNewer_calls (x y : Ent) (w : World) :
    Calls Try.prog 28 #[vEnt x, vEnt y] w fun e w' => e = .returned (.bool (newerE x y)) ∧ Below w.heap.size w w' :=
  item_Newer.calls 3 _ _ _ _ _ _ _ _ _ _ _ w (itemNewer_f x y)

theorem mergecheck_calls (A0 : Option Addr) (c0 : Nat) (l0 : List Ent) (A1 : Option Addr) (c1 : Nat) (l1 : List Ent) (w : World) (hr0 : Kd.C kEnt w A0 l0.length l0) (hc0 : l0.length ≤ c0) (hr1 : Kd.C kEnt w A1 l1.length l1) (hc1 : l1.length ≤ c1) :
    Calls Try.prog 29 #[.slice A0 l0.length c0, .slice A1 l1.length c1] w fun e w' => e = .returned (.int .i64 (if ckFrom none l0 = 0 then ckFrom none l1 else ckFrom none l0)) ∧ Below w.heap.size w w' :=
  merge_check.calls 0 A0 c0 l0 A1 c1 l1 _ w hr0 hc0 hr1 hc1 (by
    unfold merge_check.f merge_Check.f
    simp only [Option.bind_some]
    split <;> rfl)
end Go.Proofs.Ytplnofodmgddmaa
