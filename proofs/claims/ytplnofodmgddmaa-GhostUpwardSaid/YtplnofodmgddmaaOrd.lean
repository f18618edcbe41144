import GoSem.Op.String
/- The order of texts, byte by byte: it is a whole order. -/
namespace Go.Proofs.Ytplnofodmgddmaa
theorem bytesLess_irrefl (a : List UInt8) : Op.bytesLess a a = false := by
  induction a with
  | nil => rfl
  | cons x r ih => simp [Op.bytesLess, ih]
theorem bytesLess_nil (a : List UInt8) : Op.bytesLess a [] = false := by cases a <;> rfl
theorem bytesLess_cons (x y : UInt8) (r s : List UInt8) : Op.bytesLess (x :: r) (y :: s) = true ↔ x < y ∨ (x = y ∧ Op.bytesLess r s = true) := by
  simp [Op.bytesLess]
theorem bytesLess_total : ∀ (a b : List UInt8), Op.bytesLess a b = false → Op.bytesLess b a = true ∨ a = b := by
  intro a
  induction a with
  | nil => intro b h; cases b with
    | nil => exact .inr rfl
    | cons y s => simp [Op.bytesLess] at h
  | cons x r ih => intro b h; cases b with
    | nil => exact .inl rfl
    | cons y s =>
      have h' : ¬ (x < y ∨ (x = y ∧ Op.bytesLess r s = true)) := fun hh => by rw [(bytesLess_cons x y r s).2 hh] at h; cases h
      by_cases hxy : x = y
      · subst hxy
        rcases ih s (by cases hh : Op.bytesLess r s; rfl; exact absurd (.inr ⟨rfl, hh⟩) h') with h1 | rfl
        · exact .inl ((bytesLess_cons _ _ _ _).2 (.inr ⟨rfl, h1⟩))
        · exact .inr rfl
      · refine .inl ((bytesLess_cons _ _ _ _).2 (.inl ?_))
        have h1 : ¬ x < y := fun h1 => h' (.inl h1)
        have h2 : x.toNat ≠ y.toNat := fun h2 => hxy (UInt8.toNat_inj.1 h2)
        rw [UInt8.lt_iff_toNat_lt] at h1 ⊢
        omega
theorem bytesLess_trans : ∀ (a b c : List UInt8), Op.bytesLess a b = true → Op.bytesLess b c = true → Op.bytesLess a c = true := by
  intro a
  induction a with
  | nil => intro b c h1 h2; cases c with
    | nil => simp [bytesLess_nil] at h2
    | cons z t => rfl
  | cons x r ih => intro b c h1 h2; cases b with
    | nil => simp [bytesLess_nil] at h1
    | cons y s => cases c with
      | nil => simp [bytesLess_nil] at h2
      | cons z t =>
        rw [bytesLess_cons] at h1 h2 ⊢
        rcases h1 with h1 | ⟨rfl, h1⟩
        · rcases h2 with h2 | ⟨rfl, h2⟩
          · exact .inl (UInt8.lt_trans h1 h2)
          · exact .inl h1
        · rcases h2 with h2 | ⟨rfl, h2⟩
          · exact .inl h2
          · exact .inr ⟨rfl, ih _ _ h1 h2⟩
theorem bytesLess_asymm (a b : List UInt8) (h : Op.bytesLess a b = true) : Op.bytesLess b a = false := by
  cases hb : Op.bytesLess b a
  · rfl
  · have := bytesLess_trans a b a h hb
    rw [bytesLess_irrefl] at this
    cases this
theorem le_of_not_less {a b : List UInt8} (h : Op.bytesLess a b = false) : (Op.bytesLess b a || b == a) = true := by
  rcases bytesLess_total a b h with h | rfl
  · simp [h]
  · simp
theorem not_le_of_less {a b : List UInt8} (h : Op.bytesLess a b = true) : (Op.bytesLess b a || b == a) = false := by
  have h1 := bytesLess_asymm a b h
  have h2 : b ≠ a := by rintro rfl; rw [bytesLess_irrefl] at h; cases h
  simp [h1, h2]
end Go.Proofs.Ytplnofodmgddmaa
