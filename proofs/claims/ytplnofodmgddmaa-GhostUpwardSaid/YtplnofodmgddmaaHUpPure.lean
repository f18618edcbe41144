import Derived.Test.YtplnofodmgddmaaHWeigh
/- What a node's map, as a ghost saw it, is: written, and above what was seen before: in plain Lean. -/
set_option linter.unusedVariables false
set_option linter.unusedSimpArgs false
namespace Go.Proofs.Ytplnofodmgddmaa
open Go.RowKit Go.Proofs.YtplnofodmgddmaaW.PrintWords Go.Proofs.YtplnofodmgddmaaW.PrintLast Go.Proofs.YtplnofodmgddmaaW.PrintMore

def swapP (p : PairE) : PairE := ⟨p.f1, p.f0⟩
theorem pairsL_swap (a b : List Ent) : pairsL b a = (pairsL a b).map swapP := by
  induction a, b using pairsL.induct with
  | case1 => rw [pairsL_nil]; rfl
  | case2 x r ih => rw [pairsL_left, pairsL_right, ih]; rfl
  | case3 y s ih => rw [pairsL_left, pairsL_right, ih]; rfl
  | case4 x r y s h ih =>
    have h' : lessE y x = false := bytesLess_asymm _ _ h
    rw [pairsL_lt h, pairsL_gt h' h, ih]
    rfl
  | case5 x r y s h h' ih =>
    rw [pairsL_gt (Bool.eq_false_iff.2 h) h', pairsL_lt h', ih]
    rfl
  | case6 x r y s h h' ih =>
    rw [pairsL_eq (Bool.eq_false_iff.2 h) (Bool.eq_false_iff.2 h'), pairsL_eq (Bool.eq_false_iff.2 h') (Bool.eq_false_iff.2 h), ih]
    rfl
theorem pairsL_self : ∀ (a : List Ent), pairsL a a = a.map (fun x => ⟨x, x⟩)
  | [] => pairsL_nil
  | x :: r => by
    have h : lessE x x = false := bytesLess_irrefl _
    rw [pairsL_eq h h, pairsL_self r]
    rfl
theorem mem_pairsL (a b : List Ent) : ∀ y, y ∈ b → ∃ p ∈ pairsL a b, p.f1 = y := by
  induction a, b using pairsL.induct with
  | case1 => intro y hy; simp at hy
  | case2 x r ih => intro y hy; simp at hy
  | case3 z s ih =>
    intro y hy
    rw [pairsL_right]
    rcases List.mem_cons.1 hy with rfl | hy
    · exact ⟨_, List.mem_cons_self, rfl⟩
    · obtain ⟨p, hp, h⟩ := ih y hy
      exact ⟨p, List.mem_cons_of_mem _ hp, h⟩
  | case4 x r z s h ih =>
    intro y hy
    rw [pairsL_lt h]
    obtain ⟨p, hp, h⟩ := ih y hy
    exact ⟨p, List.mem_cons_of_mem _ hp, h⟩
  | case5 x r z s h h' ih =>
    intro y hy
    rw [pairsL_gt (Bool.eq_false_iff.2 h) h']
    rcases List.mem_cons.1 hy with rfl | hy
    · exact ⟨_, List.mem_cons_self, rfl⟩
    · obtain ⟨p, hp, h⟩ := ih y hy
      exact ⟨p, List.mem_cons_of_mem _ hp, h⟩
  | case6 x r z s h h' ih =>
    intro y hy
    rw [pairsL_eq (Bool.eq_false_iff.2 h) (Bool.eq_false_iff.2 h')]
    rcases List.mem_cons.1 hy with rfl | hy
    · exact ⟨_, List.mem_cons_self, rfl⟩
    · obtain ⟨p, hp, h⟩ := ih y hy
      exact ⟨p, List.mem_cons_of_mem _ hp, h⟩
theorem seesP_all {wr : Ent → Bool} : ∀ {l : List PairE}, (seesP wr l).2 = 0 → ∀ p ∈ l, newerE p.f0 p.f1 = false ∧ wr p.f1 = true
  | [], _, p, hp => by simp at hp
  | x :: r, h, p, hp => by
    rw [seesP] at h
    split at h
    · simp at h
    · split at h
      · rename_i h1 h2
        rcases List.mem_cons.1 hp with rfl | hp
        · exact ⟨Bool.eq_false_iff.2 h1, h2⟩
        · exact seesP_all h p hp
      · simp at h
theorem newerE_irrefl (x : Ent) : newerE x x = false := by
  unfold newerE
  simp
theorem up_self (a : List Ent) : upL (pairsL a a) = true := by
  rw [pairsL_self]
  unfold upL
  rw [List.all_eq_true]
  intro p hp
  obtain ⟨x, _, rfl⟩ := List.mem_map.1 hp
  simp [newerE_irrefl]
/-- the map held before and the one held behind a look: what the law asks of them -/
theorem sees_up (wr : Ent → Bool) (ls : Nat → List Ent) (node : Int) (l : List Ent) (hck : ∀ i, ckFrom none (ls i) = 0) (hw : ∀ e ∈ heldL ls node, wr e = true) :
    let r := seesR wr ls node l
    let now := heldL (seesL wr ls node l) node
    ckBoth now (heldL ls node) = 0 ∧ upL (pairsL now (heldL ls node)) = true ∧ (r.2 = 0 → now = l) ∧ (r.2 ≠ 0 → now = heldL ls node) ∧ (∀ e ∈ now, wr e = true) := by
  intro r now
  have h0 : ckFrom none (heldL ls node) = 0 := by
    unfold heldL
    split
    · exact hck _
    · rfl
  by_cases hr : r.2 = 0
  · have hn : isN node = true := by
      cases hb : isN node
      · exfalso
        have : r.2 = 1 := by simp [r, seesR, hb]
        omega
      · rfl
    have hcl : ckFrom none l = 0 := seesR_ck hr
    have hnow : now = l := by
      show heldL (seesL wr ls node l) node = l
      have hr' : (seesR wr ls node l).2 = 0 := hr
      simp [heldL, hn, seesL, hr']
    have hP : (seesP wr (pairsL (heldL ls node) l)).2 = 0 := by
      have hr' : (seesR wr ls node l).2 = 0 := hr
      unfold seesR at hr'
      rw [if_pos hn, if_pos hcl] at hr'
      simpa [heldL, hn] using hr'
    have hall := seesP_all hP
    rw [hnow]
    refine ⟨by unfold ckBoth; rw [if_pos hcl]; exact h0, ?_, fun _ => rfl, fun h => absurd hr h, fun e he => ?_⟩
    · rw [pairsL_swap (heldL ls node) l]
      unfold upL
      rw [List.all_eq_true]
      intro p hp
      obtain ⟨x, hx, rfl⟩ := List.mem_map.1 hp
      simp [swapP, (hall x hx).1]
    · obtain ⟨p, hp, rfl⟩ := mem_pairsL (heldL ls node) l e he
      exact (hall p hp).2
  · have hnow : now = heldL ls node := by
      show heldL (seesL wr ls node l) node = heldL ls node
      have hr' : ¬ (seesR wr ls node l).2 = 0 := hr
      rw [seesL, if_neg hr']
    rw [hnow]
    exact ⟨by unfold ckBoth; rw [if_pos h0]; exact h0, up_self _, fun h => absurd h hr, fun _ => rfl, hw⟩
end Go.Proofs.Ytplnofodmgddmaa
