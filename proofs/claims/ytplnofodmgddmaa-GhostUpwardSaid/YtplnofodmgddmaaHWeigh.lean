import Derived.Test.YtplnofodmgddmaaHStep
/- The bounds that the laws set: weigh, beyond. -/
set_option linter.unusedVariables false
set_option linter.unusedSimpArgs false
namespace Go.Proofs.Ytplnofodmgddmaa
open Go.RowKit Go.Proofs.YtplnofodmgddmaaW.PrintWords Go.Proofs.YtplnofodmgddmaaW.PrintLast Go.Proofs.YtplnofodmgddmaaW.PrintMore

theorem mn_le (a b : Int) (ha : 0 ≤ a) (hb : 0 ≤ b) : 0 ≤ mn a b ∧ mn a b ≤ b := by
  unfold mn
  split <;> omega
theorem wrap_id {x : Int} (h0 : -9223372036854775808 ≤ x) (h1 : x < 9223372036854775808) : wrap64 x = x := by
  unfold wrap64
  omega
theorem weigh_l0 (x0 : List Ent) : ∀ (n k i : Nat) (x3 : Int), (1073741824 - x3).toNat ≤ n → n + 1 ≤ k → i ≤ x0.length → (i : Int) ≤ x3 → x3 ≤ 3221225472 →
    ∃ r, tidelinelaw19_weigh.l0 k x0 x3 (i : Int) = some r ∧ 0 ≤ r ∧ r ≤ 3221225472 ∧ (r < 1073741824 → (x0.length : Int) ≤ r) := by
  intro n
  induction n with
  | zero =>
    intro k i x3 h1 h2 h3 h4 h5
    obtain ⟨k, rfl⟩ : ∃ q, k = q + 1 := ⟨k - 1, by omega⟩
    refine ⟨x3, ?_, by omega, h5, by omega⟩
    rw [tidelinelaw19_weigh.l0, if_neg (show ¬ x3 < 1073741824 by omega)]
    split <;> rfl
  | succ n ih =>
    intro k i x3 h1 h2 h3 h4 h5
    obtain ⟨k, rfl⟩ : ∃ q, k = q + 1 := ⟨k - 1, by omega⟩
    rw [tidelinelaw19_weigh.l0]
    by_cases hi : i < x0.length
    · rw [if_pos (by omega)]
      by_cases hx : x3 < 1073741824
      · have m1 := mn_le (((rd_TEnt x0 (i : Int)).f0).size : Int) 1073741824 (by omega) (by omega)
        have m2 := mn_le (((rd_TEnt x0 (i : Int)).f2).size : Int) 1073741824 (by omega) (by omega)
        rw [if_pos hx, if_pos (by omega), wrap_succ (by omega), wrap_id (by omega) (by omega)]
        exact ih k (i + 1) _ (by omega) (by omega) (by omega) (by omega) (by omega)
      · rw [if_neg hx]
        exact ⟨x3, rfl, by omega, h5, by omega⟩
    · rw [if_neg (by omega)]
      exact ⟨x3, rfl, by omega, h5, by omega⟩
theorem weigh_f (l : List Ent) (k : Nat) (hk : 1073741825 ≤ k) : ∃ r, tidelinelaw19_weigh.f k l = some r ∧ 0 ≤ r ∧ r ≤ 3221225472 ∧ (r < 1073741824 → (l.length : Int) ≤ r) :=
  weigh_l0 l 1073741824 k 0 0 (by omega) (by omega) (Nat.zero_le _) (by omega) (by omega)
theorem beyond_l0 (x0 : List GOp) : ∀ (n k i : Nat) (x3 : Int), (4194304 - x3).toNat ≤ n → n + 1073741826 ≤ k → i ≤ x0.length → (i : Int) ≤ x3 → x3 ≤ 17179869184 → (x3 < 4194304 → ∀ j, j < i → ((rd_TGOp x0 (j : Int)).f3.length : Int) ≤ x3) →
    ∃ b, tidelinelaw19_beyond.l0 k x0 x3 (i : Int) = some b ∧ (b = false → x0.length < 4194304 ∧ ∀ j, j < x0.length → (rd_TGOp x0 (j : Int)).f3.length < 4194304) := by
  intro n
  induction n with
  | zero =>
    intro k i x3 h1 h2 h3 h4 h5 h6
    obtain ⟨k, rfl⟩ : ∃ q, k = q + 1 := ⟨k - 1, by omega⟩
    refine ⟨true, ?_, by simp⟩
    rw [tidelinelaw19_beyond.l0, if_neg (show ¬ x3 < 4194304 by omega)]
    split <;> simp <;> omega
  | succ n ih =>
    intro k i x3 h1 h2 h3 h4 h5 h6
    obtain ⟨k, rfl⟩ : ∃ q, k = q + 1 := ⟨k - 1, by omega⟩
    rw [tidelinelaw19_beyond.l0]
    by_cases hi : i < x0.length
    · rw [if_pos (by omega)]
      by_cases hx : x3 < 4194304
      · have m1 := mn_le (((rd_TGOp x0 (i : Int)).f2.f0).size : Int) 1073741824 (by omega) (by omega)
        have m2 := mn_le (((rd_TGOp x0 (i : Int)).f2.f2).size : Int) 1073741824 (by omega) (by omega)
        obtain ⟨r, hr, r0, r1, r2⟩ := weigh_f (rd_TGOp x0 (i : Int)).f3 k (by omega)
        rw [if_pos hx, if_pos (by omega), hr]
        simp only [Option.bind_some]
        rw [wrap_succ (by omega), wrap_id (x := 1 + r) (by omega) (by omega), wrap_id (x := 1 + r + _) (by omega) (by omega), wrap_id (x := 1 + r + _ + _) (by omega) (by omega), wrap_id (x := x3 + _) (by omega) (by omega)]
        refine ih k (i + 1) _ (by omega) (by omega) (by omega) (by omega) (by omega) (fun hlt j hj => ?_)
        by_cases hji : j = i
        · subst hji
          have := r2 (by omega)
          omega
        · have := h6 hx j (by omega)
          omega
      · rw [if_neg hx]
        exact ⟨_, rfl, by simp; omega⟩
    · rw [if_neg (by omega)]
      refine ⟨_, rfl, fun hb => ?_⟩
      have hlt : x3 < 4194304 := by simpa using hb
      refine ⟨by omega, fun j hj => ?_⟩
      have := h6 hlt j (by omega)
      omega
theorem beyond_f (l : List GOp) : ∃ b, tidelinelaw19_beyond.f 1077936130 l = some b ∧ (b = false → l.length < 4194304 ∧ ∀ j, j < l.length → (rd_TGOp l (j : Int)).f3.length < 4194304) :=
  beyond_l0 l 4194304 1077936130 0 0 (by omega) (by omega) (Nat.zero_le _) (by omega) (by omega) (fun _ j hj => by omega)
end Go.Proofs.Ytplnofodmgddmaa
