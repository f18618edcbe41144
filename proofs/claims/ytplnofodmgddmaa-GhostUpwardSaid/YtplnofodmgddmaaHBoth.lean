import Derived.Test.YtplnofodmgddmaaHRng
import Derived.Shelf.Abstract
/- merge.Both; the range over the pairs of two maps, as one law. -/
set_option linter.unusedVariables false
set_option linter.unusedSimpArgs false
namespace Go.Proofs.Ytplnofodmgddmaa
open Go.RowKit Go.Proofs.YtplnofodmgddmaaW.PrintWords Go.Proofs.YtplnofodmgddmaaW.PrintLast Go.Proofs.YtplnofodmgddmaaW.PrintMore

def ckBoth (a b : List Ent) : Int := if ckFrom none a = 0 then ckFrom none b else ckFrom none a
/-- the blocks in which the iterator's data lie -/
structure PFresh (B : Nat) (Ba Bb : Nat) (A0 : Option Addr) (n0 : Nat) (A1 : Option Addr) (n1 : Nat) : Prop where
  ba : B ≤ Ba
  bb : B ≤ Bb
  a0 : ∀ ad, A0 = some ad → 0 < n0 → B ≤ ad.block
  a1 : ∀ ad, A1 = some ad → 0 < n1 → B ≤ ad.block
def bothL (a b l : List Ent) : List Ent := if ckBoth a b = 0 then l else []
set_option maxHeartbeats 400000 in
theorem both_calls (A0 : Option Addr) (c0 : Nat) (a : List Ent) (A1 : Option Addr) (c1 : Nat) (b : List Ent) (w : World) (hr0 : Kd.C kEnt w A0 a.length a) (hc0 : a.length ≤ c0) (hr1 : Kd.C kEnt w A1 b.length b) (hc1 : b.length ≤ c1)
    (hl0 : a.length < 2513169434916) (hl1 : b.length < 2513169434916) :
    Calls Try.prog 27 #[.slice A0 a.length c0, .slice A1 b.length c1] w fun e w' => ∃ Ba Bb A0' c0' A1' c1', e = .returned (.func (.func 37) #[] #[.pointer (some ⟨Ba, 0, none⟩), .pointer (some ⟨Bb, 0, none⟩)]) ∧
      PInv Ba Bb A0' c0' (bothL a b a) A1' c1' (bothL a b b) w' ∧ PFresh w.heap.size Ba Bb A0' (bothL a b a).length A1' (bothL a b b).length ∧ Below w.heap.size w w' := by
  have HR0 := Aside0.mk hr0
  have HR1 := Aside0.mk hr1
  have HC0 := Aside0.mk hc0
  have HC1 := Aside0.mk hc1
  have HL0 := Aside0.mk hl0
  have HL1 := Aside0.mk hl1
  clear hr0 hr1 hc0 hc1 hl0 hl1
  have HB := Aside0.mk (Below.refl w.heap.size w)
  by_cases hck : ckBoth a b = 0
  · have hb1 : (ckBoth a b != 0) = false := by simp [hck]
    have HCK := Aside0.mk hck
    clear hck
    go_enter Try.func27, Try.ntmps27
    go_wp2_with (fail)
    refine (mergecheck_calls A0 c0 a A1 c1 b _ HR0.out HC0.out HR1.out HC1.out).mono ?_
    rw [show (if ckFrom none a = 0 then ckFrom none b else ckFrom none a) = ckBoth a b from rfl]
    rintro e w1 ⟨rfl, hb⟩
    have n0_ := Aside0.mk (below_step (by repeat (first | (with_reducible first | exact HB.out | apply below_alloc | apply pw_below_drewN | apply below_drew1) | exact HB.out)) hb); clear HB; have HB := n0_; clear n0_
    clear hb
    go_wp2_with (fail)
    refine (clone_calls A0 c0 a _ (Kd.C_below HR0.out HB.out) HC0.out HL0.out).mono ?_
    rintro e w2 ⟨v, rfl, hR, hb⟩
    obtain ⟨A0', c0', rfl, hcc0, hC0, hfr0⟩ := own_form hR
    have HF0 := Aside0.mk (And.intro hC0 hfr0)
    have HS0 := Aside0.mk HB.out.size
    have n0_ := Aside0.mk (below_step (by repeat (first | (with_reducible first | exact HB.out | apply below_alloc | apply pw_below_drewN | apply below_drew1) | exact HB.out)) hb); clear HB; have HB := n0_; clear n0_
    clear hb hR hC0 hfr0
    go_wp2_with (fail)
    refine (clone_calls A1 c1 b _ (Kd.C_below HR1.out HB.out) HC1.out HL1.out).mono ?_
    rintro e w3 ⟨v, rfl, hR, hb⟩
    obtain ⟨A1', c1', rfl, hcc1, hC1, hfr1⟩ := own_form hR
    have HF1 := Aside0.mk (And.intro hC1 hfr1)
    have HS1 := Aside0.mk HB.out.size
    have HF00 := Aside0.mk (Kd.C_below HF0.out.1 hb)
    have n0_ := Aside0.mk (below_step (by repeat (first | (with_reducible first | exact HB.out | apply below_alloc | apply pw_below_drewN | apply below_drew1) | exact HB.out)) hb); clear HB; have HB := n0_; clear n0_
    clear hb hR hC1 hfr1
    go_wp2_with (fail)
    refine (pairs_calls A0' c0' a A1' c1' b _ HF00.out HF1.out.1).mono ?_
    rintro e w4 ⟨Ba, Bb, rfl, hI, hBa, hBb, hb⟩
    have HII := Aside0.mk hI
    have HBa := Aside0.mk (Nat.le_trans HB.out.size hBa)
    have HBb := Aside0.mk (Nat.le_trans HB.out.size hBb)
    have n0_ := Aside0.mk (below_step (by repeat (first | (with_reducible first | exact HB.out | apply below_alloc | apply pw_below_drewN | apply below_drew1) | exact HB.out)) hb); clear HB; have HB := n0_; clear n0_
    clear hb hI hBa hBb
    go_wp2
    go_ret
    have e1 : bothL a b a = a := by rw [bothL, if_pos HCK.out]
    have e2 : bothL a b b = b := by rw [bothL, if_pos HCK.out]
    rw [e1, e2]
    exact ⟨Ba, Bb, A0', c0', A1', c1', rfl, HII.out, ⟨HBa.out, HBb.out, fun ad h _ => Nat.le_trans HS0.out (HF0.out.2 ad h).1, fun ad h _ => Nat.le_trans HS1.out (HF1.out.2 ad h).1⟩, HB.out⟩
  · have hb1 : (ckBoth a b != 0) = true := by simp [hck]
    have HCK := Aside0.mk hck
    clear hck
    go_enter Try.func27, Try.ntmps27
    go_wp2_with (fail)
    refine (mergecheck_calls A0 c0 a A1 c1 b _ HR0.out HC0.out HR1.out HC1.out).mono ?_
    rw [show (if ckFrom none a = 0 then ckFrom none b else ckFrom none a) = ckBoth a b from rfl]
    rintro e w1 ⟨rfl, hb⟩
    have n0_ := Aside0.mk (below_step (by repeat (first | (with_reducible first | exact HB.out | apply below_alloc | apply pw_below_drewN | apply below_drew1) | exact HB.out)) hb); clear HB; have HB := n0_; clear n0_
    clear hb
    go_wp2_with (fail)
    refine (pairs_calls none 0 [] none 0 [] _ (Kd.C_nil _ _) (Kd.C_nil _ _)).mono ?_
    rintro e w4 ⟨Ba, Bb, rfl, hI, hBa, hBb, hb⟩
    have HII := Aside0.mk hI
    have HBa := Aside0.mk (Nat.le_trans HB.out.size hBa)
    have HBb := Aside0.mk (Nat.le_trans HB.out.size hBb)
    have n0_ := Aside0.mk (below_step (by repeat (first | (with_reducible first | exact HB.out | apply below_alloc | apply pw_below_drewN | apply below_drew1) | exact HB.out)) hb); clear HB; have HB := n0_; clear n0_
    clear hb hI hBa hBb
    go_wp2
    go_ret
    have e1 : bothL a b a = [] := by rw [bothL, if_neg HCK.out]
    have e2 : bothL a b b = [] := by rw [bothL, if_neg HCK.out]
    rw [e1, e2]
    exact ⟨Ba, Bb, none, 0, none, 0, rfl, HII.out, ⟨HBa.out, HBb.out, (fun ad h => by cases h), (fun ad h => by cases h)⟩, HB.out⟩

/-- A RANGE OVER THE PAIRS: what holds between two rounds is I; S are the blocks of the loop's own that its body may write. -/
theorem wp_range_pairs {g : Operand} {ps : Array Tmp} {assign body : Code} {Q : Exit → Act → World → Prop} {a : Act} {w : World} {n : Nat}
    {Ba Bb : Nat} {A0 : Option Addr} {c0 : Nat} {la : List Ent} {A1 : Option Addr} {c1 : Nat} {lb : List Ent} (hn : 1 ≤ n)
    (hg : a.eval g = .func (.func 37) #[] #[.pointer (some ⟨Ba, 0, none⟩), .pointer (some ⟨Bb, 0, none⟩)]) (hI0 : PInv Ba Bb A0 c0 la A1 c1 lb w)
    (S : Nat → Prop) (hS : ∀ k, S k → k < w.heap.size) (hSa : ¬ S Ba) (hSb : ¬ S Bb) (hS0 : ∀ ad, A0 = some ad → 0 < la.length → ¬ S ad.block) (hS1 : ∀ ad, A1 = some ad → 0 < lb.length → ¬ S ad.block) (hps : ps.size = 2)
    (I : List PairE → World → Prop) (Ix : Code → List PairE → World → Prop) (hIs : ∀ pre W, I pre W → w.heap.size ≤ W.heap.size) (hI : ∀ pre W W', Below w.heap.size W W' → I pre W → I pre W')
    (hIxs : ∀ c pre W, Ix c pre W → w.heap.size ≤ W.heap.size) (hIx : ∀ c pre W W', Below w.heap.size W W' → Ix c pre W → Ix c pre W') (h0 : I [] w)
    (Ax : PairE → Act → World → Prop) (hAxs : ∀ x a' W, Ax x a' W → w.heap.size ≤ W.heap.size) (hAx : ∀ x a' W W' row, Ax x a' W → W.grownBy W' row → (∀ r, row = some r → w.heap.size ≤ r ∧ ∃ o : Obj, W.heap[r]? = some o ∧ o.isCells = false) → Ax x a' W')
    (hassign : ∀ (l : Nat) (pre : List PairE) (x : PairE) (W : World) (K : Act → World → Prop), I pre W → (∀ a' W', Frm S W W' → I pre W' → Ax x a' W' → K a' W') →
      assign.wpIn (Fence.wide.inRound l) (n - 1 - 1) Try.prog (Exit.then K (fun _ _ _ => False)) { tmps := (ps.zip (encP x)).foldl (fun t (p, v) => t.setIfInBounds p v) a.tmps, defers := [] } W)
    (hbody : ∀ (l : Nat) (pre : List PairE) (x : PairE) (a' : Act) (W : World), I pre W → Ax x a' W → pre.length < (pairsL la lb).length →
      body.wpIn (Fence.wide.inRound l) (n - 1 - 1) Try.prog (fun e _ W' => Frm S W W' ∧ (match e with | .normal => I (pre ++ [x]) W' | .ret => Ix .ret (pre ++ [x]) W' | .exit id => Ix (.exit id) (pre ++ [x]) W' | .goto t => Ix (.goto t) (pre ++ [x]) W' | _ => False)) a' W)
    (hdone : ∀ (D : Nat) (W : World), w.heap.size ≤ D → I (pairsL la lb) W → W.heap[D]? = some (.deferred (some [])) → Q .normal { a with defers := { target := .collected D, args := #[] } :: a.defers } W)
    (hstop : ∀ (D : Nat) (c : Code) (pre : List PairE) (W : World), w.heap.size ≤ D → pre <+: pairsL la lb → Ix c pre W → W.heap[D]? = some (.deferred (some [])) → c.wp Try.prog Q { a with defers := { target := .collected D, args := #[] } :: a.defers } W) :
    (Code.rangeFunc g ps assign body).wp Try.prog Q a w := by
  refine (wpIn_wide (n := n)).1 ?_
  refine wpIn_rangeFunc_ownH (F := Fence.wide) (n := n) rfl hn (gf := 37) (lb := #[.pointer (some ⟨Ba, 0, none⟩), .pointer (some ⟨Bb, 0, none⟩)]) hg trivial (enters_of Try.func37 (by kernel_rfl) rfl)
    (encs := encP) (Kp := KpB w.heap.size S) (pairs1_stops (n - 1) Ba Bb A0 c0 la A1 c1 lb (KpB w.heap.size S) w hI0 ?keep) (fun h k => kpB_t h k) (kpB_b (Nat.le_refl _)) (Below.refl _ _) (fun x => by simp [encP, hps]) I Ix
    (ownFrom_of_below hIs hI) (fun c => ownFrom_of_below (hIxs c) (hIx c)) h0 Ax (fun x a' _ W W' row hs hg hr => hAx x a' W W' row hs hg hr) ?assign ?body ?done ?stop
  case keep =>
    intro W W' hk hi
    refine ⟨?_, ?_, ?_, ?_⟩
    · exact (World.cell?_of_block (hk Ba (World.block_lt_of_cell? w _ hI0.ba) hSa)).trans hi.ba
    · exact (World.cell?_of_block (hk Bb (World.block_lt_of_cell? w _ hI0.bb) hSb)).trans hi.bb
    · exact C_same kEnt_flat hi.ca (fun ad e hn => hk _ (C_lt kEnt_szpos hI0.ca e hn) (hS0 ad e hn))
    · exact C_same kEnt_flat hi.cb (fun ad e hn => hk _ (C_lt kEnt_szpos hI0.cb e hn) (hS1 ad e hn))
  case assign =>
    intro l pre x W K hi hK
    exact hassign l pre x W K hi (fun a' W' hf hi' hax => hK a' W' (keepsFrom_of_frm hf hS) (kpB_of_frm hf (hIs _ _ hi)) hi' hax)
  case body =>
    intro l pre x a' W hl _ hi hax hlt
    refine Code.wpIn_mono (fun e a2 W2 h => ?_) (hbody l pre x a' W hi hax hlt)
    have hk := keepsFrom_of_frm h.1 hS
    cases e with
    | normal => exact ⟨hk, kpB_of_frm h.1 (hIs _ _ hi), h.2⟩
    | ret => exact ⟨hk, h.2⟩
    | exit id => exact ⟨hk, h.2⟩
    | goto t => exact ⟨hk, h.2⟩
    | panic c => exact h.2
    | outgrown => exact h.2
  case done =>
    rintro D xs W hD rfl hi hK
    exact hdone D W hD hi hK
  case stop =>
    intro D c pre W hD hp hi hK
    exact (wpIn_wide (n := n)).2 (hstop D c pre W hD hp hi hK)
end Go.Proofs.Ytplnofodmgddmaa
