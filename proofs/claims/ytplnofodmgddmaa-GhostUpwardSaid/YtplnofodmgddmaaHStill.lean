import Derived.Test.YtplnofodmgddmaaHRefSees
import Derived.Test.YtplnofodmgddmaaHAbove
import Derived.Test.YtplnofodmgddmaaHRefH
import Derived.Test.YtplnofodmgddmaaQA3
/- The law's still: what was lent is as it was; then it is written over. -/
set_option linter.unusedVariables false
set_option linter.unusedSimpArgs false
namespace Go.Proofs.Ytplnofodmgddmaa
open Go.RowKit Go.Proofs.YtplnofodmgddmaaW.PrintWords Go.Proofs.YtplnofodmgddmaaW.PrintLast Go.Proofs.YtplnofodmgddmaaW.PrintMore
attribute [local go_sem] Oper.semAt_some

theorem addr_zero_add (g k : Nat) : (⟨g, 0, none⟩ : Addr).add k = ⟨g, k, none⟩ := by
  unfold Addr.add
  split <;> simp_all
theorem eqE5_iff (x y : Ent) : ((!(x.f0.toList == y.f0.toList)) || (((!(x.f1.f0 == y.f1.f0)) || (!(x.f1.f1 == y.f1.f1))) || ((!(x.f2.toList == y.f2.toList)) || (!(x.f3 == y.f3))))) = decide (x ≠ y) := by
  have h := eqE_iff x y
  by_cases hxy : x = y
  · subst hxy
    simp
  · have := eqE_false hxy
    rw [show decide (x ≠ y) = true by simpa using hxy]
    cases h0 : (x.f0.toList == y.f0.toList) <;> cases h1 : (x.f1.f0 == y.f1.f0) <;> cases h2 : (x.f1.f1 == y.f1.f1) <;> cases h3 : (x.f2.toList == y.f2.toList) <;> cases h4 : (x.f3 == y.f3) <;> simp_all
theorem same_l0 (a b : List Ent) (h0 : a.length < 4611686018427387904) (hl : a.length = b.length) : ∀ (n i : Nat) (k : Nat), a.length - i ≤ n → i ≤ a.length → n + 1 ≤ k →
    tidelinelaw19_same.l0 k a b (i : Int) = some (decide (a.drop i = b.drop i)) := by
  intro n
  induction n with
  | zero =>
    intro i k hn hi hk
    obtain ⟨k, rfl⟩ : ∃ q, k = q + 1 := ⟨k - 1, by omega⟩
    rw [tidelinelaw19_same.l0, if_neg (by omega), List.drop_of_length_le (by omega), List.drop_of_length_le (by omega)]
    rfl
  | succ n ih =>
    intro i k hn hi hk
    obtain ⟨k, rfl⟩ : ∃ q, k = q + 1 := ⟨k - 1, by omega⟩
    by_cases hi2 : i < a.length
    · have hxa := drop_cons hi2 rfl
      have hxb := drop_cons (l := b) (i := i) (by omega) rfl
      rw [tidelinelaw19_same.l0, if_pos (by omega), if_pos (by omega), if_pos (by omega), eqE5_iff, wrap_succ (by omega)]
      by_cases hxy : rd_TEnt a i = rd_TEnt b i
      · rw [if_neg (by simp [hxy]), ih (i + 1) k (by omega) (by omega) (by omega), hxa, hxb, hxy]
        simp
      · rw [if_pos (by simp [hxy]), hxa, hxb]
        simp [hxy]
    · rw [tidelinelaw19_same.l0, if_neg (by omega), List.drop_of_length_le (by omega), List.drop_of_length_le (by omega)]
      rfl
theorem same_f (a b : List Ent) (h0 : a.length < 4611686018427387904) : tidelinelaw19_same.f (a.length + 1) a b = some (decide (a = b)) := by
  unfold tidelinelaw19_same.f
  split
  · rename_i h
    have := same_l0 a b h0 (by omega) a.length 0 (a.length + 1) (by omega) (by omega) (by omega)
    simpa using this
  · rename_i h
    have hne : a ≠ b := fun e => h (by rw [e])
    simp [hne]
theorem same_calls (A0 : Option Addr) (c0 : Nat) (a : List Ent) (A1 : Option Addr) (c1 : Nat) (b : List Ent) (w : World) (hr0 : Kd.C kEnt w A0 a.length a) (hc0 : a.length ≤ c0) (hr1 : Kd.C kEnt w A1 b.length b) (hc1 : b.length ≤ c1) (h0 : a.length < 4611686018427387904) :
    Calls Try.prog 9 #[.slice A0 a.length c0, .slice A1 b.length c1] w fun e w' => e = .returned (.bool (decide (a = b))) ∧ Drawn0 w w' :=
  tidelinelaw19_same.calls _ A0 c0 a A1 c1 b _ w hr0 hc0 hr1 hc1 (same_f a b h0)
def markE : Ent := ⟨⟨#[109, 97, 114, 107]⟩, ⟨0, 0⟩, ⟨#[]⟩, false⟩
def behindE : Ent := ⟨⟨#[98, 101, 104, 105, 110, 100]⟩, ⟨0, 0⟩, ⟨#[]⟩, false⟩
theorem lent_f (l : List Ent) (h : l.length < 2513169434912) : tidelinelaw19_lent.f l = some (l ++ [markE, behindE]) := by
  unfold tidelinelaw19_lent.f
  simp [markE, behindE]
  omega
set_option maxHeartbeats 1000000 in
theorem still_calls (v : Value) (l : List Ent) (A : Option Addr) (c : Nat) (B : Nat) (ok : Nat → Prop) (w : World) (hR : Kd.R kEnt 31 w B ok v (l ++ [markE, behindE])) (hl : Kd.C kEnt w A l.length l) (hc : l.length ≤ c) (hlen : l.length < 4611686018427387900) :
    Calls Try.prog 21 #[v, .slice A l.length c] w fun e w' => e = .returned (.bool true) ∧ Frm (fun k => v.ownBlock = some k) w w' := by
  have huE := Try.underlying31
  obtain ⟨xs, hxs⟩ : ∃ xs, xs = l ++ [markE, behindE] := ⟨_, rfl⟩
  rw [← hxs] at hR
  have hn : xs.length = l.length + 2 := by rw [hxs]; simp
  obtain ⟨g, cap, rfl, hg, hgl, _⟩ := Kd.R_form hR (by omega)
  obtain ⟨_, inner, ho, _⟩ := id hR
  obtain ⟨_, hcase⟩ := ho
  obtain ⟨_, hx0, hC⟩ := Kd.R_reads' hR
  have hCt : Kd.C kEnt w (some ⟨g, 0, none⟩) l.length l := by
    have h := Kd.C_take hC (m := l.length) (by omega)
    rw [hxs, List.take_left'] at h
    · exact h
    · rfl
  rcases hcase with ⟨h, _⟩ | ⟨g', cap', cur, hv, _, hcur, hnc, _, hcs, _⟩
  · cases h
  · injection hv with h1 h2 h3
    injection h1 with h1
    injection h1 with h1
    subst h1 h3
    have HCUR := Aside0.mk hcur
    have HLL := Aside0.mk hl
    have HC := Aside0.mk hc
    have HT := Aside0.mk hCt
    have HX := Aside0.mk hC
    have HXS := Aside0.mk hxs
    have HCS := Aside0.mk hcs
    have hcapn : l.length + 2 ≤ cap := by omega
    obtain ⟨ad0, ead0, hm0, _⟩ := at_TEnt HX.out (l.length : Int) (by omega) (by omega)
    obtain ⟨ad1, ead1, hm1, _⟩ := at_TEnt HX.out ((l.length + 1 : Nat) : Int) (by omega) (by omega)
    cases ead0
    cases ead1
    have e0 : rd_TEnt xs (l.length : Int) = markE := by rw [hxs]; simp [rd_TEnt]
    have e1 : rd_TEnt xs ((l.length + 1 : Nat) : Int) = behindE := by rw [hxs]; simp [rd_TEnt, List.getElem?_append]
    rw [e0] at hm0
    rw [e1] at hm1
    have HM0 := Aside0.mk (show w.cell? ⟨g, l.length * 5, none⟩ = some (.string ⟨#[109, 97, 114, 107]⟩) by rw [addr_zero_add] at hm0; exact hm0)
    have HM1 := Aside0.mk (show w.cell? ⟨g, (l.length + 1) * 5, none⟩ = some (.string ⟨#[98, 101, 104, 105, 110, 100]⟩) by rw [addr_zero_add] at hm1; exact hm1)
    have hxl : (xs.length : Int) = (l.length : Int) + 2 := by omega
    obtain ⟨nx, hnx⟩ : ∃ nx, nx = xs.length := ⟨_, rfl⟩
    rw [← hnx] at hn hxl ⊢
    have HNX := Aside0.mk hnx
    clear hC hR hCt hm0 hm1 e0 e1 hcs hcur hxs hnx hl hc
    have hsub : IntKind.i64.wrap ((nx : Int) - 2) = (l.length : Int) := by rw [IntKind.wrap_i64]; omega
    have hn2 : (nx : Int) - 2 = (l.length : Int) := by omega
    subst hn
    go_enter Try.func21, Try.ntmps21
    go_wp2_with (go_at_call 9; (with_reducible refine (same_calls (some ⟨g, 0, none⟩) cap l A c l _ HT.out (by omega) HLL.out HC.out (by omega)).mono ?_); rintro e2 w2 ⟨rfl, hb0⟩; have hb := Drawn0.below hb0; rw [show decide (l = l) = true by simp]; have hm0 := pw_cell_below hb HM0.out; have hm1 := pw_cell_below hb HM1.out; have HB := Aside0.mk hb; clear hb hb0)
    go_loopw [7] (fun v7 w' => ∃ i : Nat, v7 = .int .i64 i ∧ i ≤ l.length + 2 ∧ Aside0 (∃ cur : Array Value, w'.heap[g]? = some (.cells cur 31 (0, 0)) ∧ (l.length + 2) * 5 ≤ cur.size) ∧ Aside0 (Frm (fun k => k = g) w w')) (fun v7 _ => l.length + 2 - (intOf v7).toNat)
    case atStart => exact ⟨0, rfl, Nat.zero_le _, ⟨cur, blk_below HCUR.out HB.out, by rw [HCS.out]; exact Nat.mul_le_mul_right _ hcapn⟩, ⟨Frm.of_below HB.out _⟩⟩
    case round =>
      clear HB
      obtain ⟨i, rfl, hi, HG, HF⟩ := hrel
      obtain ⟨cu, hcu, hcz⟩ := HG.out
      by_cases hlt : i < l.length + 2
      · have hlt' : (i : Int) < ((l.length + 2 : Nat) : Int) := by omega
        have hlt0 : (0 : Int) ≤ (i : Int) := by omega
        have hc0 : wr.cell? ⟨g, i * 5, none⟩ = some (cu[i * 5]'(by omega)) := by rw [blk_cell hcu]; simp
        have hc1 : wr.cell? ⟨g, i * 5 + 1, none⟩ = some (cu[i * 5 + 1]'(by omega)) := by rw [blk_cell hcu]; simp
        have hc2 : wr.cell? ⟨g, i * 5 + 2, none⟩ = some (cu[i * 5 + 2]'(by omega)) := by rw [blk_cell hcu]; simp
        have hc3 : wr.cell? ⟨g, i * 5 + 3, none⟩ = some (cu[i * 5 + 3]'(by omega)) := by rw [blk_cell hcu]; simp
        have hc4 : wr.cell? ⟨g, i * 5 + 4, none⟩ = some (cu[i * 5 + 4]'(by omega)) := by rw [blk_cell hcu]; simp
        have hf0 := blk_frozen hcu (i * 5)
        have hf1 := blk_frozen hcu (i * 5 + 1)
        have hf2 := blk_frozen hcu (i * 5 + 2)
        have hf3 := blk_frozen hcu (i * 5 + 3)
        have hf4 := blk_frozen hcu (i * 5 + 4)
        generalize (cu[i * 5]'(by omega)) = x0 at hc0
        generalize (cu[i * 5 + 1]'(by omega)) = x1 at hc1
        generalize (cu[i * 5 + 2]'(by omega)) = x2 at hc2
        generalize (cu[i * 5 + 3]'(by omega)) = x3 at hc3
        generalize (cu[i * 5 + 4]'(by omega)) = x4 at hc4
        have HCU := Aside0.mk hcu
        have HCZ := Aside0.mk hcz
        clear hcu hcz
        go_wp2_with (fail)
        refine ⟨⟨i + 1, by simp, by omega, ⟨⟨_, heap_setCell_same _ _ _ _ _ _ (heap_setCell_same _ _ _ _ _ _ (heap_setCell_same _ _ _ _ _ _ (heap_setCell_same _ _ _ _ _ _ (heap_setCell_same _ _ _ _ _ _ HCU.out)))), by simpa using HCZ.out⟩⟩, ⟨(((((HF.out.setCell (p := ⟨g, _, none⟩) (.inl rfl) _).setCell (p := ⟨g, _, none⟩) (.inl rfl) _).setCell (p := ⟨g, _, none⟩) (.inl rfl) _).setCell (p := ⟨g, _, none⟩) (.inl rfl) _).setCell (p := ⟨g, _, none⟩) (.inl rfl) _)⟩⟩, by simp [intOf]; omega⟩
      · have hge : ¬ (i : Int) < ((l.length + 2 : Nat) : Int) := by omega
        go_wp2_with (fail)
        go_ret
        exact ⟨rfl, HF.out.mono (fun k hk => by rw [hk]; rfl)⟩
theorem own_only {w : World} {B : Nat} {ok : Nat → Prop} {v : Value} {l : List Ent} (h : Kd.R kEnt 31 w B ok v l) : Kd.R kEnt 31 w B (fun k => v.ownBlock = some k) v l := by
  obtain ⟨h0, inner, ho, hr⟩ := h
  refine ⟨fun k hk => hk, inner, ho, hr.imp_ (fun x cs hp => ?_)⟩
  obtain rfl := kEnt_openM hp
  exact kEnt_mkM _ _ _ _
theorem spoil_l1 : ∀ (n : Nat) (k : Nat) (l : List Ent) (i : Nat), 5 - i ≤ n → i ≤ 5 → n + 1 ≤ k → l.length + n < 2513169434916 → tidelinelaw19_spoil.l1 k l (i : Int) = some () := by
  intro n
  induction n with
  | zero =>
    intro k l i h1 h2 h3 h4
    obtain ⟨k, rfl⟩ : ∃ q, k = q + 1 := ⟨k - 1, by omega⟩
    rw [tidelinelaw19_spoil.l1, if_neg (by omega)]
  | succ n ih =>
    intro k l i h1 h2 h3 h4
    obtain ⟨k, rfl⟩ : ∃ q, k = q + 1 := ⟨k - 1, by omega⟩
    rw [tidelinelaw19_spoil.l1]
    by_cases h5 : i < 5
    · rw [if_pos (by omega), if_pos (by omega), wrap_succ (by omega)]
      exact ih k _ (i + 1) (by omega) (by omega) (by omega) (by simp; omega)
    · rw [if_neg (by omega)]
theorem spoil_l0 : ∀ (n : Nat) (k : Nat) (l : List Ent) (i : Nat), l.length - i ≤ n → i ≤ l.length → n + 7 ≤ k → l.length < 251316943491 → tidelinelaw19_spoil.l0 k l (i : Int) = some () := by
  intro n
  induction n with
  | zero =>
    intro k l i h1 h2 h3 h4
    obtain ⟨k, rfl⟩ : ∃ q, k = q + 1 := ⟨k - 1, by omega⟩
    rw [tidelinelaw19_spoil.l0, if_neg (by omega)]
    exact spoil_l1 5 k l 0 (by omega) (by omega) (by omega) (by omega)
  | succ n ih =>
    intro k l i h1 h2 h3 h4
    obtain ⟨k, rfl⟩ : ∃ q, k = q + 1 := ⟨k - 1, by omega⟩
    rw [tidelinelaw19_spoil.l0]
    by_cases h5 : i < l.length
    · rw [if_pos (by omega), if_pos (by omega), wrap_succ (by omega)]
      exact ih k _ (i + 1) (by simp; omega) (by simp; omega) (by omega) (by simp; omega)
    · rw [if_neg (by omega)]
      exact spoil_l1 5 k l 0 (by omega) (by omega) (by omega) (by omega)
theorem spoil_calls (v : Value) (l : List Ent) (ok : Nat → Prop) (w0 w : World) (hB : Below w0.heap.size w0 w) (hR : Kd.R kEnt 31 w w0.heap.size ok v l) (hl : l.length < 251316943491) :
    Calls Try.prog 22 #[v] w fun e w' => e = .returned (.tuple #[]) ∧ Frm (fun k => v.ownBlock = some k) w w' :=
  (tidelinelaw19_spoil.calls (l.length + 7) (fun k => v.ownBlock = some k) v l w0 w hB (own_only hR) (spoil_l0 l.length _ l 0 (by omega) (by omega) (by omega) hl)).mono
    (fun _ _ h => ⟨h.1, Frm.of_kept h.2.2 hB h.2.1⟩)
end Go.Proofs.Ytplnofodmgddmaa
