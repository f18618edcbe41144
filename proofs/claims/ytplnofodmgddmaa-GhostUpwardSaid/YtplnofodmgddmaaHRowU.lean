/- GhostUpward returns true, without a panic, for every input, and the input reads behind the call as it read before. No condition. -/
import Derived.Test.YtplnofodmgddmaaRows
import Derived.Test.YtplnofodmgddmaaHUpward
import Derived.Test.YtplnofodmgddmaaHRead
import Derived.WalkKit
import Derived.ProofKit
import Derived.OpenShut
import Derived.ShutString
import Derived.ChangeOld
import Derived.Below
namespace Go.Proofs.Ytplnofodmgddmaa.ghostUpward
open Go.ChangeShapes Go.WideShapes Go.ChangeAt Go.RowKit
set_option linter.unusedVariables false
theorem own : ownKnob Try.prog.godebug = none := by kernel_rfl
theorem laidOut : laidOutB Try.prog = true := by kernel_rfl
set_option maxRecDepth 100000 in
theorem lifted (os : Os) (started : os.Started) (H : Type) (enc : TypeId × Value → H) :
    ReturnsInHanded {} Try.checked os 4 .any (Rows.ghostUpwardSpec.pre6 enc Try.prog Try.f4 Rows.ghostUpwardRow.domain false) (Rows.ghostUpwardSpec.post enc Try.prog Try.f4 false true false false) := by
  refine returnsInHanded_of_change (C := Try.checked) own started (by kernel_rfl) Try.func4
    (ChangeSpec.witness6 (enc := enc) (C := Try.checked) false ⟨#[], #[.slice none 0 0, .slice none 0 0, .int .i64 0], []⟩ 8 (by kernel_rfl) (by kernel_rfl) (by kernel_rfl) (by kernel_rfl)) ?_
  intro W base args ds gs before hval0 hW hcnd _
  have hval : ∀ (j : Nat) t v, Try.f4.params[j]? = some t → args[j]? = some v → Value.okWide Try.prog W .any base t v := hval0
  have hW' := hW
  obtain ⟨p, q, hA0, hV, rfl, hfz, hnd⟩ := hW
  have hA : DataW.TrodAll enc Try.prog W 0 (fun _ => true) true Try.f4.params.toList args.toList ds p := hA0
  rw [Try.params4] at hA hval
  obtain ⟨v0, vs0, d0, ds0, p0, q0, hargs, rfl, rfl, h0, r0⟩ := trodAll_cons hA
  obtain ⟨v1, vs1, d1, ds1, p1, q1, rfl, rfl, rfl, h1, r1⟩ := trodAll_cons r0
  obtain ⟨v2, vs2, d2, ds2, p2, q2, rfl, rfl, rfl, h2, r2⟩ := trodAll_cons r1
  obtain ⟨rfl, rfl, rfl⟩ := trodAll_nil r2
  obtain rfl : args = #[v0, v1, v2] := by cases args; simp_all
  obtain ⟨rfl, rfl⟩ := trodVars_none hV
  obtain ⟨a0, len0, cap0, rfl⟩ := okWide_slice Try.underlying32 (hval 0 32 v0 rfl rfl)
  obtain ⟨a1, len1, cap1, rfl⟩ := okWide_slice Try.underlying38 (hval 1 38 v1 rfl rfl)
  have k0 := h0
  have k1 := h1
  have lt0 : ∀ x ∈ p0, x.block < W.heap.size := by
    obtain ⟨m, hm⟩ := k0
    exact DataW.trod_lt m _ _ _ hm
  have lt1 : ∀ x ∈ p1, x.block < W.heap.size := by
    obtain ⟨m, hm⟩ := k1
    exact DataW.trod_lt m _ _ _ hm
  obtain ⟨node, rfl, rfl, rfl, wn⟩ := open_int Try.underlying3 (hval 2 3 v2 rfl rfl) h2
  obtain ⟨fuel, hf⟩ := h0
  obtain ⟨l, A, c, e, hc, hC⟩ := TrK.row Try.underlying32 (by kernel_rfl) trEnt hf
  obtain ⟨e, _⟩ := List.cons.inj (show [Value.slice a0 len0 cap0] = [Value.slice A l.length c] from e)
  injection e with e1 e2 e3
  subst e1 e2 e3
  obtain ⟨fuel1, hf1⟩ := h1
  obtain ⟨l1, A1, c1, e, hc1, hC1⟩ := TrK.row Try.underlying38 (by kernel_rfl) trEnts hf1
  obtain ⟨e, _⟩ := List.cons.inj (show [Value.slice a1 len1 cap1] = [Value.slice A1 l1.length c1] from e)
  injection e with e1 e2 e3
  subst e1 e2 e3
  clear hA0 hval0
  refine (upward_calls a0 cap0 l a1 cap1 l1 node W hC hc hC1 hc1).mono fun e W' ⟨he, bel⟩ => ?_
  subst he
  exact ⟨_, rfl, _, _, _, [], _, [], hW', trodAll_mk1 (shut_bool Try.underlying4 _), (trodAll_cons_mk (Below.trod laidOut (by kernel_rfl) (of_decide_eq_true (by kernel_rfl)) k0 bel lt0) (trodAll_cons_mk (Below.trod laidOut (by kernel_rfl) (of_decide_eq_true (by kernel_rfl)) k1 bel lt1) (trodAll_cons_mk (shut_int Try.underlying3 wn) trodAll_mk0))), rfl, bel.frame _, fun h => by cases h⟩
theorem over : Rows.ghostUpwardRow.holds Try.pinned (OpenSpec.ofChange Rows.ghostUpwardSpec) :=
  OpenClaim.holds_of_wide 4 Try.f4 rfl rfl rfl rfl rfl rfl rfl ⟨rfl, rfl, rfl, rfl, rfl⟩ rfl rfl rfl rfl rfl (by kernel_rfl) Try.func4 (by kernel_rfl)
    (of_decide_eq_true (by kernel_rfl)) (by unfold Func.isWrapper; first | (rw [if_pos (by decide +kernel)]; kernel_rfl) | (rw [if_neg (by decide +kernel)]; exact ⟨rfl, rfl⟩))
    (fun os started H enc _ => lifted os started H enc)
theorem proved : Rows.GhostUpwardSaid := over
#print axioms proved
end Go.Proofs.Ytplnofodmgddmaa.ghostUpward
namespace Go.Proofs.Ytplnofodmgddmaa
/-- The row, under a short name, for the claim. -/
theorem ghostUpward_holds : Rows.GhostUpwardSaid := ghostUpward.proved
end Go.Proofs.Ytplnofodmgddmaa
