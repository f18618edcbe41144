import Derived.Test.YtplnofodmgddmaaQA0
import Derived.Deep.Slices
import Derived.Deep.Fields
import Derived.ChangeSame
/- Arguments as they come in: the reading of a slice of structs, as the words that the walks speak. -/
set_option linter.unusedVariables false
set_option linter.unusedSimpArgs false
namespace Go.Proofs.Ytplnofodmgddmaa
open Go.RowKit Go.Proofs.YtplnofodmgddmaaW.PrintWords Go.Proofs.YtplnofodmgddmaaW.PrintLast Go.Proofs.YtplnofodmgddmaaW.PrintMore Go.ChangeShapes Go.WideShapes Go.Deep

/-- whatever is read at the type is of the kind -/
def TrK {α : Type} (t : TypeId) (d : Kd α) : Prop :=
  ∀ (H : Type) (enc : TypeId × Value → H) (w : World) (base : Nat) (spare : Nat → Bool) (held : Bool) (fuel : Nat) (cs : List Value) (x : DataW H × List MemPlace), DataW.trod enc Try.prog w base spare held fuel t cs = some x → ∃ a, d.K w a cs
theorem TrK.row {α : Type} {t e : TypeId} {d : Kd α} (ht : Try.prog.underlying t = some (.slice e)) (hC : Try.prog.cellsOf e = d.sz) (he : TrK e d) {H : Type} {enc : TypeId × Value → H} {w : World} {base : Nat} {spare : Nat → Bool} {held : Bool} {fuel : Nat} {cs : List Value} {x : DataW H × List MemPlace}
    (h : DataW.trod enc Try.prog w base spare held fuel t cs = some x) : ∃ (xs : List α) (A : Option Addr) (c : Nat), cs = [.slice A xs.length c] ∧ xs.length ≤ c ∧ Kd.C d w A xs.length xs := by
  rcases open_slice ht h with ⟨rfl, _⟩ | ⟨a, len, cap, m, n, D, Pl, rfl, hb, hl, hm, hmm, hx, hi⟩
  · exact ⟨[], none, 0, rfl, Nat.le_refl _, Kd.C_nil d w⟩
  · have hlm : len ≤ m := by rw [hmm]; split <;> omega
    have hex : ∀ i, i < len → ∃ (p : α) (cs' : List Value), w.cells? base (a.add (i * d.sz)) d.sz = some cs' ∧ d.K w p cs' := fun i hil => by
      obtain ⟨cs', hc, ht'⟩ := hi i (by omega)
      rw [hC] at hc
      obtain ⟨p, hp⟩ := he H enc w base spare held n cs' _ ht'
      exact ⟨p, cs', hc, hp⟩
    refine ⟨List.ofFn (fun i : Fin len => Classical.choose (hex i.1 i.2)), some a, cap, by simp, by simpa using hl, by simp, ?_, fun _ => ⟨a, rfl, fun j p hj => ?_⟩⟩
    · rw [List.length_ofFn]
      have : maxLen = 9223372036854775807 := rfl
      omega
    · obtain ⟨hjl, hjp⟩ := List.getElem?_eq_some_iff.1 hj
      rw [List.length_ofFn] at hjl
      rw [List.getElem_ofFn] at hjp
      subst hjp
      obtain ⟨cs', hc, hk⟩ := Classical.choose_spec (hex j hjl)
      obtain ⟨_, hlen, hat⟩ := World.cells?_some hc
      refine ⟨cs', hlen, hk, fun i u hu => ?_⟩
      have hil : i < d.sz := by
        rw [← hlen]
        exact (List.getElem?_eq_some_iff.1 hu).1
      have := hat i hil
      rw [Go.Deep.add_add, hu] at this
      exact this
theorem TrK.slice {α : Type} {t e : TypeId} {d : Kd α} (ht : Try.prog.underlying t = some (.slice e)) (hC : Try.prog.cellsOf e = d.sz) (he : TrK e d) : TrK t (Kd.slice e d) := by
  intro H enc w base spare held fuel cs x h
  obtain ⟨xs, A, c, h1, h2, h3⟩ := TrK.row ht hC he h
  exact ⟨xs, A, c, h1, h2, h3⟩
theorem len5 {cs : List Value} (h : cs.length = 5) : ∃ c0 c1 c2 c3 c4, cs = [c0, c1, c2, c3, c4] := by
  match cs, h with
  | [c0, c1, c2, c3, c4], _ => exact ⟨c0, c1, c2, c3, c4, rfl⟩
theorem trEnt : TrK 31 kEnt := by
  intro H enc w base spare held fuel cs x h
  obtain ⟨xs, n, _, _, hl, hxl, hf⟩ := DataW.trod_struct Try.underlying31 h
  rw [show Try.prog.cellsOf 31 = 5 by kernel_rfl] at hl
  obtain ⟨c0, c1, c2, c3, c4, rfl⟩ := len5 hl
  simp only [List.size_toArray, List.length_cons, List.length_nil] at hxl
  obtain ⟨y0, hy0⟩ : ∃ y, xs[0]? = some y := ⟨_, List.getElem?_eq_getElem (by omega)⟩
  obtain ⟨y1, hy1⟩ : ∃ y, xs[1]? = some y := ⟨_, List.getElem?_eq_getElem (by omega)⟩
  obtain ⟨y2, hy2⟩ : ∃ y, xs[2]? = some y := ⟨_, List.getElem?_eq_getElem (by omega)⟩
  obtain ⟨y3, hy3⟩ : ∃ y, xs[3]? = some y := ⟨_, List.getElem?_eq_getElem (by omega)⟩
  have h0 : DataW.trod enc Try.prog w base spare held n 9 (([c0, c1, c2, c3, c4].drop 0).take (Try.prog.cellsOf 9)) = xs[0]? := hf 0 _ rfl
  have h1 : DataW.trod enc Try.prog w base spare held n 29 (([c0, c1, c2, c3, c4].drop 1).take (Try.prog.cellsOf 29)) = xs[1]? := hf 1 _ rfl
  have h2 : DataW.trod enc Try.prog w base spare held n 9 (([c0, c1, c2, c3, c4].drop 3).take (Try.prog.cellsOf 9)) = xs[2]? := hf 2 _ rfl
  have h3 : DataW.trod enc Try.prog w base spare held n 4 (([c0, c1, c2, c3, c4].drop 4).take (Try.prog.cellsOf 4)) = xs[3]? := hf 3 _ rfl
  rw [hy0] at h0
  rw [hy1] at h1
  rw [hy2] at h2
  rw [hy3] at h3
  simp only [show Try.prog.cellsOf 9 = 1 by kernel_rfl, show Try.prog.cellsOf 29 = 2 by kernel_rfl, show Try.prog.cellsOf 4 = 1 by kernel_rfl, List.drop_zero, List.take_succ_cons, List.take_zero, List.drop_succ_cons] at h0 h1 h2 h3
  obtain ⟨s0, e0, _, _⟩ := DataW.trod_string Try.underlying9 h0
  obtain ⟨s2, e2, _, _⟩ := DataW.trod_string Try.underlying9 h2
  obtain ⟨b3, e3, _⟩ := DataW.trod_bool Try.underlying4 h3
  obtain ⟨zs, n2, _, _, _, hzl, hg⟩ := DataW.trod_struct Try.underlying29 h1
  simp only [List.size_toArray, List.length_cons, List.length_nil] at hzl
  obtain ⟨z0, hz0⟩ : ∃ y, zs[0]? = some y := ⟨_, List.getElem?_eq_getElem (by omega)⟩
  obtain ⟨z1, hz1⟩ : ∃ y, zs[1]? = some y := ⟨_, List.getElem?_eq_getElem (by omega)⟩
  have g0 : DataW.trod enc Try.prog w base spare held n2 3 (([c1, c2].drop 0).take (Try.prog.cellsOf 3)) = zs[0]? := hg 0 _ rfl
  have g1 : DataW.trod enc Try.prog w base spare held n2 3 (([c1, c2].drop 1).take (Try.prog.cellsOf 3)) = zs[1]? := hg 1 _ rfl
  rw [hz0] at g0
  rw [hz1] at g1
  simp only [show Try.prog.cellsOf 3 = 1 by kernel_rfl, List.drop_zero, List.take_succ_cons, List.take_zero, List.drop_succ_cons] at g0 g1
  obtain ⟨i0, f0, _, _⟩ := DataW.trod_int Try.underlying3 g0
  obtain ⟨i1, f1, _, _⟩ := DataW.trod_int Try.underlying3 g1
  obtain ⟨rfl, _⟩ := List.cons.inj e0
  obtain ⟨rfl, _⟩ := List.cons.inj e2
  obtain ⟨rfl, _⟩ := List.cons.inj e3
  obtain ⟨rfl, _⟩ := List.cons.inj f0
  obtain ⟨rfl, _⟩ := List.cons.inj f1
  exact ⟨⟨s0, ⟨i0, i1⟩, s2, b3⟩, kEnt_mk w _⟩
theorem trEnts : TrK 32 (Kd.slice 31 kEnt) := TrK.slice Try.underlying32 (by kernel_rfl) trEnt
theorem len9 {cs : List Value} (h : cs.length = 9) : ∃ c0 c1 c2 c3 c4 c5 c6 c7 c8, cs = [c0, c1, c2, c3, c4, c5, c6, c7, c8] := by
  match cs, h with
  | [c0, c1, c2, c3, c4, c5, c6, c7, c8], _ => exact ⟨c0, c1, c2, c3, c4, c5, c6, c7, c8, rfl⟩
theorem trGOp : TrK 34 kGOp := by
  intro H enc w base spare held fuel cs x h
  obtain ⟨xs, n, _, _, hl, hxl, hf⟩ := DataW.trod_struct Try.underlying34 h
  rw [show Try.prog.cellsOf 34 = 9 by kernel_rfl] at hl
  obtain ⟨c0, c1, c2, c3, c4, c5, c6, c7, c8, rfl⟩ := len9 hl
  simp only [List.size_toArray, List.length_cons, List.length_nil] at hxl
  obtain ⟨y0, hy0⟩ : ∃ y, xs[0]? = some y := ⟨_, List.getElem?_eq_getElem (by omega)⟩
  obtain ⟨y1, hy1⟩ : ∃ y, xs[1]? = some y := ⟨_, List.getElem?_eq_getElem (by omega)⟩
  obtain ⟨y2, hy2⟩ : ∃ y, xs[2]? = some y := ⟨_, List.getElem?_eq_getElem (by omega)⟩
  obtain ⟨y3, hy3⟩ : ∃ y, xs[3]? = some y := ⟨_, List.getElem?_eq_getElem (by omega)⟩
  obtain ⟨y4, hy4⟩ : ∃ y, xs[4]? = some y := ⟨_, List.getElem?_eq_getElem (by omega)⟩
  have h0 : DataW.trod enc Try.prog w base spare held n 3 (([c0, c1, c2, c3, c4, c5, c6, c7, c8].drop 0).take (Try.prog.cellsOf 3)) = xs[0]? := hf 0 _ rfl
  have h1 : DataW.trod enc Try.prog w base spare held n 3 (([c0, c1, c2, c3, c4, c5, c6, c7, c8].drop 1).take (Try.prog.cellsOf 3)) = xs[1]? := hf 1 _ rfl
  have h2 : DataW.trod enc Try.prog w base spare held n 31 (([c0, c1, c2, c3, c4, c5, c6, c7, c8].drop 2).take (Try.prog.cellsOf 31)) = xs[2]? := hf 2 _ rfl
  have h3 : DataW.trod enc Try.prog w base spare held n 32 (([c0, c1, c2, c3, c4, c5, c6, c7, c8].drop 7).take (Try.prog.cellsOf 32)) = xs[3]? := hf 3 _ rfl
  have h4 : DataW.trod enc Try.prog w base spare held n 4 (([c0, c1, c2, c3, c4, c5, c6, c7, c8].drop 8).take (Try.prog.cellsOf 4)) = xs[4]? := hf 4 _ rfl
  rw [hy0] at h0
  rw [hy1] at h1
  rw [hy2] at h2
  rw [hy3] at h3
  rw [hy4] at h4
  simp only [show Try.prog.cellsOf 3 = 1 by kernel_rfl, show Try.prog.cellsOf 31 = 5 by kernel_rfl, show Try.prog.cellsOf 32 = 1 by kernel_rfl, show Try.prog.cellsOf 4 = 1 by kernel_rfl, List.drop_zero, List.take_succ_cons, List.take_zero, List.drop_succ_cons] at h0 h1 h2 h3 h4
  obtain ⟨i0, e0, _, _⟩ := DataW.trod_int Try.underlying3 h0
  obtain ⟨i1, e1, _, _⟩ := DataW.trod_int Try.underlying3 h1
  obtain ⟨en, e2⟩ := trEnt H enc w base spare held _ _ _ h2
  obtain ⟨l, A, c, e3, hc, hC⟩ := trEnts H enc w base spare held _ _ _ h3
  obtain ⟨b4, e4, _⟩ := DataW.trod_bool Try.underlying4 h4
  have e2' := kEnt_open e2
  obtain ⟨rfl, _⟩ := List.cons.inj e0
  obtain ⟨rfl, _⟩ := List.cons.inj e1
  obtain ⟨rfl, _⟩ := List.cons.inj e3
  obtain ⟨rfl, _⟩ := List.cons.inj e4
  simp only [List.cons.injEq, and_true] at e2'
  obtain ⟨rfl, rfl, rfl, rfl, rfl⟩ := e2'
  exact ⟨⟨i0, i1, en, l, b4⟩, kGOp_mk w _ hc hC⟩
theorem trGOps {H : Type} {enc : TypeId × Value → H} {w : World} {base : Nat} {spare : Nat → Bool} {held : Bool} {fuel : Nat} {cs : List Value} {x : DataW H × List MemPlace} (h : DataW.trod enc Try.prog w base spare held fuel 22 cs = some x) :
    ∃ (xs : List GOp) (A : Option Addr) (c : Nat), cs = [.slice A xs.length c] ∧ xs.length ≤ c ∧ Kd.C kGOp w A xs.length xs :=
  TrK.row Try.underlying22 (by kernel_rfl) trGOp h
end Go.Proofs.Ytplnofodmgddmaa
