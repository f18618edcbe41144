import Derived.Test.YtplnofodmgddmaaBase
import Derived.Test.YtplnofodmgddmaaOrd
/- Two maps side by side: the pairs, in plain Lean. -/
namespace Go.Proofs.Ytplnofodmgddmaa
def noEnt : Ent := ⟨⟨#[]⟩, ⟨0, 0⟩, ⟨#[]⟩, false⟩
def lessE (x y : Ent) : Bool := Op.bytesLess x.f0.toList y.f0.toList
def pairsL : List Ent → List Ent → List PairE
  | [], [] => []
  | x :: r, [] => ⟨x, noEnt⟩ :: pairsL r []
  | [], y :: s => ⟨noEnt, y⟩ :: pairsL [] s
  | x :: r, y :: s =>
    if lessE x y = true then ⟨x, noEnt⟩ :: pairsL r (y :: s)
    else if lessE y x = true then ⟨noEnt, y⟩ :: pairsL (x :: r) s
    else ⟨x, y⟩ :: pairsL r s
termination_by a b => a.length + b.length
theorem pairsL_nil : pairsL [] [] = [] := by simp [pairsL]
theorem pairsL_left (x : Ent) (r : List Ent) : pairsL (x :: r) [] = ⟨x, noEnt⟩ :: pairsL r [] := by rw [pairsL]
theorem pairsL_right (y : Ent) (s : List Ent) : pairsL [] (y :: s) = ⟨noEnt, y⟩ :: pairsL [] s := by rw [pairsL]
theorem pairsL_lt {x y : Ent} {r s : List Ent} (h : lessE x y = true) : pairsL (x :: r) (y :: s) = ⟨x, noEnt⟩ :: pairsL r (y :: s) := by rw [pairsL, if_pos h]
theorem pairsL_gt {x y : Ent} {r s : List Ent} (h : lessE x y = false) (h' : lessE y x = true) : pairsL (x :: r) (y :: s) = ⟨noEnt, y⟩ :: pairsL (x :: r) s := by
  rw [pairsL, if_neg (by simp [h]), if_pos h']
theorem pairsL_eq {x y : Ent} {r s : List Ent} (h : lessE x y = false) (h' : lessE y x = false) : pairsL (x :: r) (y :: s) = ⟨x, y⟩ :: pairsL r s := by
  rw [pairsL, if_neg (by simp [h]), if_neg (by simp [h'])]
end Go.Proofs.Ytplnofodmgddmaa
