import Derived.Test.YtplnofodmgddmaaHRefW
/- The document's ghost: Held. -/
set_option linter.unusedVariables false
set_option linter.unusedSimpArgs false
namespace Go.Proofs.Ytplnofodmgddmaa
open Go.RowKit Go.Proofs.YtplnofodmgddmaaW.PrintWords Go.Proofs.YtplnofodmgddmaaW.PrintLast Go.Proofs.YtplnofodmgddmaaW.PrintMore

set_option maxHeartbeats 400000 in
theorem refheld_calls (q : Nat) (ws : List Ent) (ls : Nat → List Ent) (B : Nat) (ok : Nat → Prop) (node : Int) (w : World) (hG : RefAt w B ok q ws ls) (hl : ∀ i, (ls i).length < 2513169434916) :
    Calls Try.prog 11 #[.pointer (some ⟨q, 0, none⟩), .int .i64 node] w fun r w' => ∃ v, r = .returned v ∧ Kd.R kEnt 31 w' w.heap.size (fun _ => True) v (heldL ls node) ∧ Below w.heap.size w w' := by
  obtain ⟨cs, v, hq, hcs, hv, hR, hokq, hBq, hls⟩ := hG
  have huE := Try.underlying31
  have HP := Aside0.mk hq
  have HL := Aside0.mk hl
  have HB := Aside0.mk (Below.refl w.heap.size w)
  obtain ⟨y135, hy135⟩ : ∃ y_ : List Ent, y_ = ([] : List Ent) := ⟨_, rfl⟩
  have Ny135 := Aside0.mk hy135
  clear hy135
  cases hn : isN node
  · have e1 : heldL ls node = [] := by simp [heldL, hn]
    have HE := Aside0.mk e1
    have hr : ¬ (0 ≤ node ∧ node < 8) := by simpa [isN] using hn
    clear hq hls e1 hl hv hR
    by_cases h0 : node < 0
    · have b1 : decide (node < 0) = true := by simpa using h0
      go_enter Try.func11, Try.ntmps11
      go_wp2_with (first | ((with_reducible refine gate_dst (N := 6) rfl ?_); refine Kd.R_lit kEnt _ 31 ?hg (N := 6) ?hd (xs := ([] : List Ent)) (inner := []) (ok := fun _ => True) (okp := fun _ => True) ?hr ?hp (fun _ hk => hk) trivial (Below.refl _ _) (Nat.le_refl _) (by simp) ?_; (case hd => rfl); (case hg => rfl); (case hr => first | (go_simp; done) | (go_simp; rfl)); (case hp => exact (Reps.none _ _)); intro v136 w4 ho5 hb hg_ hnew_; clear hg_ hnew_; rw [← Ny135.out] at ho5; have HO := Aside0.mk ho5; clear HB; have HB := Aside0.mk hb; clear hb ho5 ))
      go_ret
      rw [HE.out]
      exact ⟨_, rfl, by have := HO.out; rw [Ny135.out] at this; exact this, HB.out⟩
    · have b1 : decide (node < 0) = false := by simpa using h0
      have b2 : decide (8 ≤ node) = true := by simp; omega
      have h8 : 8 ≤ node := by omega
      go_enter Try.func11, Try.ntmps11
      go_wp2_with (first | ((with_reducible refine gate_dst (N := 6) rfl ?_); refine Kd.R_lit kEnt _ 31 ?hg (N := 6) ?hd (xs := ([] : List Ent)) (inner := []) (ok := fun _ => True) (okp := fun _ => True) ?hr ?hp (fun _ hk => hk) trivial (Below.refl _ _) (Nat.le_refl _) (by simp) ?_; (case hd => rfl); (case hg => rfl); (case hr => first | (go_simp; done) | (go_simp; rfl)); (case hp => exact (Reps.none _ _)); intro v136 w4 ho5 hb hg_ hnew_; clear hg_ hnew_; rw [← Ny135.out] at ho5; have HO := Aside0.mk ho5; clear HB; have HB := Aside0.mk hb; clear hb ho5 ))
      go_ret
      rw [HE.out]
      exact ⟨_, rfl, by have := HO.out; rw [Ny135.out] at this; exact this, HB.out⟩
  · have hr := hn
    simp only [isN, decide_eq_true_eq] at hr
    obtain ⟨v, hv, A, c, rfl, hc, hC, hA⟩ := hls node.toNat (by omega)
    have e1 : heldL ls node = ls node.toNat := by simp [heldL, hn]
    have HE := Aside0.mk e1
    have HV := Aside0.mk hv
    have HC := Aside0.mk hC
    have HCc := Aside0.mk hc
    obtain ⟨k, rfl⟩ : ∃ k : Nat, node = (k : Int) := ⟨node.toNat, by omega⟩
    simp only [Int.toNat_natCast] at HV HC HCc HE
    obtain ⟨l, hll⟩ : ∃ l, ls k = l := ⟨_, rfl⟩
    rw [hll] at HV HC HCc HE
    have HLK := Aside0.mk (hll ▸ HL.out k)
    have hk : k < 8 := by omega
    have b1 : decide ((k : Int) < 0) = false := by simp <;> omega
    have b2 : decide ((8 : Int) ≤ (k : Int)) = false := by simp; omega
    have b3 : decide (8 ≤ k) = false := by simp; omega
    clear hq hls e1 hl hv hC hc hr hA hll HL
    go_enter Try.func11, Try.ntmps11
    go_wp2_with (first | ((with_reducible refine gate_dst (N := 6) rfl ?_); refine Kd.R_lit kEnt _ 31 ?hg (N := 6) ?hd (xs := ([] : List Ent)) (inner := []) (ok := fun _ => True) (okp := fun _ => True) ?hr ?hp (fun _ hk => hk) trivial (Below.refl _ _) (Nat.le_refl _) (by simp) ?_; (case hd => rfl); (case hg => rfl); (case hr => first | (go_simp; done) | (go_simp; rfl)); (case hp => exact (Reps.none _ _)); intro v136 w4 ho5 hb hg_ hnew_; clear hg_ hnew_; rw [← Ny135.out] at ho5; have HO := Aside0.mk ho5; clear HB; have HB := Aside0.mk hb; clear hb ho5 ; have hcell : w4.cell? ⟨q, 1 + k, none⟩ = some (.slice A l.length c) := (blk_cell (blk_below HP.out HB.out) (1 + k)).trans HV.out) | ((with_reducible refine gate_builtin (b := .append) (xs := #[.tmp 14, .tmp 20]) rfl ?_); at_builtin; refine Kd.R_append_rows kEnt (w0 := w) w.heap.size rfl (.tmp 14) (.tmp 20) 32 31 (.agg #[(.string ⟨#[]⟩), (.int .i64 0), (.int .i64 0), (.string ⟨#[]⟩), (.bool false)]) 56 rfl Try.underlying32 infoEnt rfl (by decide) (by omega) v136 y135 l _ _ _ (fun _ => True) (fun _ => False) rfl rfl ?aO ?aR (fun _ _ h => h) (fun _ h => h.elim) ?aF ?aB ?aS ?aL ?_; (case aR => repeat (first | exact (Kd.C_below HC.out HB.out) | (with_reducible refine Kd.C_alloc ?_ _) | (with_reducible refine Kd.C_drewN ?_ _) | (with_reducible refine Kd.C_drew ?_))); (case aB => exact HB.out); (case aF => exact (fun _ _ => trivial)); (case aO => exact HO.out); (case aS => exact HB.out.size); (case aL => rw [Ny135.out]; have := HLK.out; simp; omega); intro v139 w6 ho hb hg hat; rw [Ny135.out] at ho; have n0_ := Aside0.mk (hb); have n1_ := Aside0.mk (ho); clear HB; clear HO; have HB := n0_; have HO := n1_; clear n0_ n1_; clear ho hb hg hat))
    go_ret
    rw [HE.out]
    exact ⟨_, rfl, HO.out, HB.out⟩
end Go.Proofs.Ytplnofodmgddmaa
