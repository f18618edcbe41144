import Derived.Test.YtplnofodmgddmaaHSees
import Derived.Test.YtplnofodmgddmaaQB2
/- The reference's pairs, in plain Lean. -/
set_option linter.unusedVariables false
set_option linter.unusedSimpArgs false
namespace Go.Proofs.Ytplnofodmgddmaa
open Go.RowKit Go.Proofs.YtplnofodmgddmaaW.PrintWords Go.Proofs.YtplnofodmgddmaaW.PrintLast Go.Proofs.YtplnofodmgddmaaW.PrintMore

theorem wrap_succ {i : Nat} (h : i < 4611686018427387904) : wrap64 ((i : Int) + 1) = ((i + 1 : Nat) : Int) := by
  unfold wrap64
  omega
theorem refPairs_l0 (x0 x1 : List Ent) (h0 : x0.length < 4611686018427387904) (h1 : x1.length < 4611686018427387904) : ∀ (n i j : Nat) (acc : List PairE) (k : Nat), (x0.length - i) + (x1.length - j) ≤ n → i ≤ x0.length → j ≤ x1.length →
    3 * n + 2 ≤ k → acc.length + n ≤ 1256584717458 → tidelineref09_Pairs.l0 k x0 x1 acc (i : Int) (j : Int) = some (acc ++ pairsL (x0.drop i) (x1.drop j)) := by
  intro n
  induction n with
  | zero =>
    intro i j acc k hn hi hj hk ha
    obtain ⟨k, rfl⟩ : ∃ q, k = q + 2 := ⟨k - 2, by omega⟩
    have hi' : i = x0.length := by omega
    have hj' : j = x1.length := by omega
    subst hi' hj'
    rw [tidelineref09_Pairs.l0, if_neg (by omega), tidelineref09_Pairs.j1, if_neg (by simp), List.drop_length, List.drop_length, pairsL_nil, List.append_nil]
  | succ n ih =>
    intro i j acc k hn hi hj hk ha
    by_cases hm : (x0.length - i) + (x1.length - j) ≤ n
    · exact ih i j acc k hm hi hj (by omega) (by omega)
    obtain ⟨k, rfl⟩ : ∃ q, k = q + 3 := ⟨k - 3, by omega⟩
    have hacc : acc.length < 1256584717458 := by omega
    have hL : ∀ y : PairE, (acc ++ [y]).length + n ≤ 1256584717458 := fun y => by simp; omega
    rw [tidelineref09_Pairs.l0]
    by_cases hi2 : i < x0.length
    · have hxi := drop_cons hi2 rfl
      rw [if_pos (by omega), tidelineref09_Pairs.j1, if_pos rfl]
      by_cases hj2 : j = x1.length
      · subst hj2
        rw [if_pos rfl, tidelineref09_Pairs.j2, if_pos rfl, if_pos (by omega), if_pos (by omega), if_pos hacc, wrap_succ (by omega)]
        rw [ih (i + 1) x1.length _ k (by omega) (by omega) (by omega) (by omega) (hL _), hxi, List.drop_length, pairsL_left, List.append_assoc]
        rfl
      · have hj3 : j < x1.length := by omega
        have hyj := drop_cons hj3 rfl
        rw [if_neg (by omega), if_pos (by omega), if_pos (by omega), if_pos (by omega), if_pos (by omega), tidelineref09_Pairs.j2]
        by_cases hlt : lessE (rd_TEnt x0 i) (rd_TEnt x1 j) = true
        · rw [if_pos (show Op.bytesLess _ _ = true from hlt), if_pos (by omega), if_pos (by omega), if_pos hacc, wrap_succ (by omega)]
          rw [ih (i + 1) j _ k (by omega) (by omega) (by omega) (by omega) (hL _), hxi, hyj, pairsL_lt hlt, List.append_assoc]
          rfl
        · rw [if_neg (show ¬ Op.bytesLess _ _ = true from hlt), if_neg (by omega), if_pos (by omega), if_pos (by omega), if_pos (by omega), if_pos (by omega)]
          by_cases hgt : lessE (rd_TEnt x1 j) (rd_TEnt x0 i) = true
          · rw [if_pos (show Op.bytesLess _ _ = true from hgt), if_pos hacc, wrap_succ (by omega)]
            rw [ih i (j + 1) _ k (by omega) (by omega) (by omega) (by omega) (hL _), hxi, hyj, pairsL_gt (Bool.eq_false_iff.2 hlt) hgt, List.append_assoc]
            rfl
          · rw [if_neg (show ¬ Op.bytesLess _ _ = true from hgt), if_pos hacc, wrap_succ (by omega), wrap_succ (by omega)]
            rw [ih (i + 1) (j + 1) _ k (by omega) (by omega) (by omega) (by omega) (hL _), hxi, hyj, pairsL_eq (Bool.eq_false_iff.2 hlt) (Bool.eq_false_iff.2 hgt), List.append_assoc]
            rfl
    · have hi' : i = x0.length := by omega
      subst hi'
      have hj3 : j < x1.length := by omega
      have hyj := drop_cons hj3 rfl
      rw [if_neg (by omega), tidelineref09_Pairs.j1, if_pos (by simp; omega), if_neg (by omega), if_neg (by omega), tidelineref09_Pairs.j2, if_neg (by simp), if_pos rfl, if_pos (by omega), if_pos (by omega), if_pos hacc, wrap_succ (by omega)]
      rw [ih x0.length (j + 1) _ k (by omega) (by omega) (by omega) (by omega) (hL _), hyj, List.drop_length, pairsL_right, List.append_assoc]
      rfl
theorem refPairs_f (a b : List Ent) (hl : a.length + b.length < 1256584717458) (hck : ckBoth a b = 0) : ∃ k, tidelineref09_Pairs.f k a b = some (pairsL a b) := by
  refine ⟨3 * (a.length + b.length) + 2, ?_⟩
  have h := refPairs_l0 a b (by omega) (by omega) _ 0 0 [] (3 * (a.length + b.length) + 2) (Nat.le_refl _) (by omega) (by omega) (by omega) (by simp; omega)
  unfold tidelineref09_Pairs.f tidelineref09_check.f tidelineref09_Check.f
  unfold ckBoth at hck
  simp only [Option.bind_some]
  split at hck
  · rename_i h0
    rw [if_pos h0]
    simp only [Option.bind_some]
    rw [if_pos hck]
    simpa using h
  · rename_i h0
    exact absurd hck h0
end Go.Proofs.Ytplnofodmgddmaa
