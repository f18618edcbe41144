import Derived.Test.YtplnofodmgddmaaHBoth
/- The range over the pairs of two maps, where both of the round's entries lie in boxes. -/
set_option linter.unusedVariables false
set_option linter.unusedSimpArgs false
namespace Go.Proofs.Ytplnofodmgddmaa
open Go.RowKit Go.Proofs.YtplnofodmgddmaaW.PrintWords Go.Proofs.YtplnofodmgddmaaW.PrintLast Go.Proofs.YtplnofodmgddmaaW.PrintMore

/-- the round's frame: both entries handed over, both boxes -/
def roundF (t : Array Value) (tx ty bx by_ : Nat) (x : PairE) (Bx By : Nat) : Array Value :=
  (((t.setIfInBounds tx (vEnt x.f0)).setIfInBounds ty (vEnt x.f1)).setIfInBounds bx (.pointer (some ⟨Bx, 0, none⟩))).setIfInBounds by_ (.pointer (some ⟨By, 0, none⟩))
def boxE (x : Ent) : Obj := .cells #[.string x.f0, .int .i64 x.f1.f0, .int .i64 x.f1.f1, .string x.f2, .bool x.f3] 31 (0, 0)

theorem wp_range_boxed {g : Operand} {tx ty : Tmp} {assign body : Code} {Q : Exit → Act → World → Prop} {a : Act} {w : World} (n : Nat) (bx by_ : Nat)
    {Ba Bb : Nat} {A0 : Option Addr} {c0 : Nat} {la : List Ent} {A1 : Option Addr} {c1 : Nat} {lb : List Ent} (hn : 1 ≤ n)
    (hg : a.eval g = .func (.func 37) #[] #[.pointer (some ⟨Ba, 0, none⟩), .pointer (some ⟨Bb, 0, none⟩)]) (hI0 : PInv Ba Bb A0 c0 la A1 c1 lb w)
    (S : Nat → Prop) (hS : ∀ k, S k → k < w.heap.size) (hSa : ¬ S Ba) (hSb : ¬ S Bb) (hS0 : ∀ ad, A0 = some ad → 0 < la.length → ¬ S ad.block) (hS1 : ∀ ad, A1 = some ad → 0 < lb.length → ¬ S ad.block)
    (I : List PairE → World → Prop) (Ix : Code → List PairE → World → Prop) (hIs : ∀ pre W, I pre W → w.heap.size ≤ W.heap.size) (hI : ∀ pre W W', Below w.heap.size W W' → I pre W → I pre W')
    (hIxs : ∀ c pre W, Ix c pre W → w.heap.size ≤ W.heap.size) (hIx : ∀ c pre W W', Below w.heap.size W W' → Ix c pre W → Ix c pre W') (h0 : I [] w)
    (hassign : ∀ (l : Nat) (pre : List PairE) (x : PairE) (W : World) (K : Act → World → Prop), I pre W →
      (∀ Bx By W', W.heap.size ≤ Bx → W.heap.size ≤ By → Bx ≠ By → Below W.heap.size W W' → W'.heap[Bx]? = some (boxE x.f0) → W'.heap[By]? = some (boxE x.f1) → K { tmps := roundF a.tmps tx ty bx by_ x Bx By, defers := [] } W') →
      assign.wpIn (Fence.wide.inRound l) (n - 1 - 1) Try.prog (Exit.then K (fun _ _ _ => False)) { tmps := (a.tmps.setIfInBounds tx (vEnt x.f0)).setIfInBounds ty (vEnt x.f1), defers := [] } W)
    (hbody : ∀ (l : Nat) (pre : List PairE) (x : PairE) (Bx By : Nat) (W : World), I pre W → w.heap.size ≤ Bx → w.heap.size ≤ By → Bx ≠ By → W.heap[Bx]? = some (boxE x.f0) → W.heap[By]? = some (boxE x.f1) → pre.length < (pairsL la lb).length →
      body.wpIn (Fence.wide.inRound l) (n - 1 - 1) Try.prog (fun e _ W' => Frm S W W' ∧ (match e with | .normal => I (pre ++ [x]) W' | .ret => Ix .ret (pre ++ [x]) W' | .exit id => Ix (.exit id) (pre ++ [x]) W' | .goto t => Ix (.goto t) (pre ++ [x]) W' | _ => False)) { tmps := roundF a.tmps tx ty bx by_ x Bx By, defers := [] } W)
    (hdone : ∀ (D : Nat) (W : World), w.heap.size ≤ D → I (pairsL la lb) W → W.heap[D]? = some (.deferred (some [])) → Q .normal { a with defers := { target := .collected D, args := #[] } :: a.defers } W)
    (hstop : ∀ (D : Nat) (c : Code) (pre : List PairE) (W : World), w.heap.size ≤ D → pre <+: pairsL la lb → Ix c pre W → W.heap[D]? = some (.deferred (some [])) → c.wp Try.prog Q { a with defers := { target := .collected D, args := #[] } :: a.defers } W) :
    (Code.rangeFunc g #[tx, ty] assign body).wp Try.prog Q a w := by
  refine wp_range_pairs (n := n) hn hg hI0 S hS hSa hSb hS0 hS1 rfl I Ix hIs hI hIxs hIx h0
    (fun x a' W => ∃ Bx By, w.heap.size ≤ Bx ∧ w.heap.size ≤ By ∧ Bx ≠ By ∧ W.heap[Bx]? = some (boxE x.f0) ∧ W.heap[By]? = some (boxE x.f1) ∧ a' = { tmps := roundF a.tmps tx ty bx by_ x Bx By, defers := [] })
    (fun x a' W h => ?_) (fun x a' W W' row h hg hr => ?_) ?_ ?_ hdone hstop
  · obtain ⟨Bx, By, h1, h2, h3, h4, h5, h6⟩ := h
    exact Nat.le_of_lt (Nat.lt_of_le_of_lt h1 (blk_lt h4))
  · obtain ⟨Bx, By, h1, h2, h3, h4, h5, h6⟩ := h
    have hne : ∀ (B : Nat) (e : Ent), W.heap[B]? = some (boxE e) → some B ≠ row := fun B e hb he => by
      obtain ⟨_, o, ho, hc⟩ := hr B he.symm
      rw [hb] at ho
      cases Option.some.inj ho
      simp [boxE, Obj.isCells] at hc
    exact ⟨Bx, By, h1, h2, h3, (hg.block Bx (blk_lt h4) (hne _ _ h4)).trans h4, (hg.block By (blk_lt h5) (hne _ _ h5)).trans h5, h6⟩
  · intro l pre x W K hi hK
    have e : (#[tx, ty].zip (encP x)).foldl (fun t (p, v) => t.setIfInBounds p v) a.tmps = (a.tmps.setIfInBounds tx (vEnt x.f0)).setIfInBounds ty (vEnt x.f1) := by simp [encP]
    rw [e]
    refine hassign l pre x W K hi (fun Bx By W' h1 h2 h3 hb h4 h5 => hK _ _ (Frm.of_below hb S) (hI _ _ _ (hb.mono (hIs _ _ hi)) hi) ⟨Bx, By, Nat.le_trans (hIs _ _ hi) h1, Nat.le_trans (hIs _ _ hi) h2, h3, h4, h5, rfl⟩)
  · rintro l pre x a' W hi ⟨Bx, By, h1, h2, h3, h4, h5, rfl⟩ hlt
    exact hbody l pre x Bx By W hi h1 h2 h3 h4 h5 hlt
end Go.Proofs.Ytplnofodmgddmaa
