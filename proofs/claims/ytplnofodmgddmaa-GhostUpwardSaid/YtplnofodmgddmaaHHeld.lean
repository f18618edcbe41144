import Derived.Test.YtplnofodmgddmaaHWrote
/- A ghost: New, Written, Held. -/
set_option linter.unusedVariables false
set_option linter.unusedSimpArgs false
namespace Go.Proofs.Ytplnofodmgddmaa
open Go.RowKit Go.Proofs.YtplnofodmgddmaaW.PrintWords Go.Proofs.YtplnofodmgddmaaW.PrintLast Go.Proofs.YtplnofodmgddmaaW.PrintMore

def writtenB (ws : List Ent) (e : Ent) : Bool := match ws.find? (sameN e) with | some x => decide (x = e) | none => false
attribute [local go_sem high] eqEnt in
set_option maxHeartbeats 1000000 in
theorem written_calls (p : Nat) (ws : List Ent) (ls : Nat → List Ent) (ok : Nat → Prop) (e : Ent) (w : World) (hG : GhostAt w ok p ws ls) :
    Calls Try.prog 16 #[.pointer (some ⟨p, 0, none⟩), vEnt e] w fun r w' => r = .returned (.bool (writtenB ws e)) ∧ Below w.heap.size w w' := by
  have huE := Try.underlying31
  have huN := Try.underlying58
  obtain ⟨m, cs, hp, hcs, hm0, hM, hokp, hokm, hls⟩ := hG
  have HP := Aside0.mk hp
  have HM := Aside0.mk hM
  have HM0 := Aside0.mk hm0
  clear hp hM hm0 hls hcs
  have HB := Aside0.mk (Below.refl w.heap.size w)
  unfold vEnt
  go_enter Try.func16, Try.ntmps16
  go_upto_region 1 with (first | ((with_reducible refine gate_dst (N := 3) rfl ?_); refine box_event ?hg (N := 3) ?hd (cs := #[.string e.f0, .int .i64 e.f1.f0, .int .i64 e.f1.f1, .string e.f2, .bool e.f3]) (t := 31) ?hr ?_; (case hd => rfl); (case hg => rfl); (case hr => first | (go_simp; done) | (go_simp; rfl)); intro ge hg W_ge hbox hb; have n0_ := Aside0.mk (below_step (by repeat (first | (with_reducible first | exact HB.out | apply below_alloc | apply pw_below_drewN | apply below_drew1) | exact HB.out)) hb); have GEge := Aside0.mk (by rw [hg]; exact (below_size (by repeat (first | (with_reducible first | exact HB.out | apply below_alloc | apply pw_below_drewN | apply below_drew1) | exact HB.out))) : w.heap.size ≤ ge); have GNge := Aside0.mk hg; clear HB; have HB := n0_; have BKge := Aside0.mk hbox; have hcge_0 := blk_cell BKge.out 0; have hfge_0 := blk_frozen BKge.out 0; have hcge_1 := blk_cell BKge.out 1; have hfge_1 := blk_frozen BKge.out 1; have hcge_2 := blk_cell BKge.out 2; have hfge_2 := blk_frozen BKge.out 2; have hcge_3 := blk_cell BKge.out 3; have hfge_3 := blk_frozen BKge.out 3; have hcge_4 := blk_cell BKge.out 4; have hfge_4 := blk_frozen BKge.out 4; simp only [List.getElem?_toArray, List.getElem?_cons_zero, List.getElem?_cons_succ] at hcge_0 hcge_1 hcge_2 hcge_3 hcge_4; clear n0_ hb hbox hg))
  have hpc : W_ge.cell? ⟨p, 0, none⟩ = some (.map (some m)) := (blk_cell (blk_below HP.out HB.out) 0).trans HM0.out
  have hlk0 := look_run e m ws W_ge (HM.out.same (HB.out.block m HM.out.lt))
  have hlk1 := look_run e m ws W_ge.drew (HM.out.same (HB.out.block m HM.out.lt))
  have hlk2 := look_run e m ws (W_ge.alloc (.cells #[.string ⟨#[]⟩, .int .i64 0, .int .i64 0, .string ⟨#[]⟩, .bool false] 31)).drew (HM.out.same ((below_drew (below_alloc HB.out _)).block m HM.out.lt))
  have l1 := blk_lt BKge.out
  have l3 := Nat.lt_of_lt_of_le (blk_lt HP.out) HB.out.size
  unfold vName at hlk0 hlk1 hlk2
  cases hfd : ws.find? (sameN e) with
  | none =>
    have e1 : writtenB ws e = false := by simp [writtenB, hfd]
    have HE := Aside0.mk e1
    rw [hfd] at hlk0 hlk1 hlk2
    simp only [Option.map_none, Option.getD_none, Option.isSome_none, vNone] at hlk0 hlk1 hlk2
    clear e1
    go_region
    all_goals
      go_wp2
      go_ret
      rw [HE.out]
      exact ⟨rfl, by repeat (with_reducible first | exact HB.out | apply pw_below_drewN | apply below_drew1 | apply below_drew | apply below_alloc)⟩
  | some x =>
    rw [hfd] at hlk0 hlk1 hlk2
    have e1 : writtenB ws e = decide (x = e) := by simp [writtenB, hfd]
    have HE := Aside0.mk e1
    have hq := eqE_iff x e
    simp only [Option.map_some, Option.getD_some, Option.isSome_some, vEnt] at hlk0 hlk1 hlk2
    clear e1
    go_region
    all_goals
      go_wp2
      go_ret
      rw [HE.out]
      exact ⟨by first | rfl | (simp [hq]; done) | (congr 2; simpa using hq), by repeat (with_reducible first | exact HB.out | apply pw_below_drewN | apply below_drew1 | apply below_drew | apply below_alloc)⟩

def isN (node : Int) : Bool := decide (0 ≤ node ∧ node < 8)
theorem isNode_f (node : Int) : ghost_isNode.f node = some (isN node) := by
  unfold ghost_isNode.f isN
  split <;> simp_all <;> omega
def heldL (ls : Nat → List Ent) (node : Int) : List Ent := if isN node = true then ls node.toNat else []
set_option maxHeartbeats 400000 in
theorem held_calls (p : Nat) (ws : List Ent) (ls : Nat → List Ent) (ok : Nat → Prop) (node : Int) (w : World) (hG : GhostAt w ok p ws ls) (hl : ∀ i, (ls i).length < 2513169434916) :
    Calls Try.prog 10 #[.pointer (some ⟨p, 0, none⟩), .int .i64 node] w fun r w' => ∃ v, r = .returned v ∧ Kd.R kEnt 31 w' w.heap.size (fun _ => True) v (heldL ls node) ∧ Below w.heap.size w w' := by
  obtain ⟨m, cs, hp, hcs, hm0, hM, hokp, hokm, hls⟩ := hG
  have HP := Aside0.mk hp
  have HL := Aside0.mk hl
  have HB := Aside0.mk (Below.refl w.heap.size w)
  cases hn : isN node
  · have e1 : heldL ls node = [] := by simp [heldL, hn]
    have HE := Aside0.mk e1
    clear hp hls hm0 e1 hl
    go_enter Try.func10, Try.ntmps10
    go_wp2_with (go_at_call 23; (with_reducible refine (ghost_isNode.calls node (isN node) _ (isNode_f node)).mono ?_); rintro e2 w2 ⟨rfl, hb⟩; have HB2 := Aside0.mk (Drawn0.below hb); clear hb)
    go_ret
    rw [HE.out]
    exact ⟨_, rfl, Kd.R_nil _ _ _ _ _, HB2.out⟩
  · have hr := hn
    simp only [isN, decide_eq_true_eq] at hr
    obtain ⟨v, hv, A, c, rfl, hc, hC, hA⟩ := hls node.toNat (by omega)
    have e1 : heldL ls node = ls node.toNat := by simp [heldL, hn]
    have HE := Aside0.mk e1
    have HV := Aside0.mk hv
    have HC := Aside0.mk hC
    have HCc := Aside0.mk hc
    obtain ⟨k, rfl⟩ : ∃ k : Nat, node = (k : Int) := ⟨node.toNat, by omega⟩
    simp only [Int.toNat_natCast] at HV HC HCc HE
    have hk : k < 8 := by omega
    clear hp hls hm0 e1 hl hv hC hc hr
    go_enter Try.func10, Try.ntmps10
    go_wp2_with (go_at_call 23; (with_reducible refine (ghost_isNode.calls (k : Int) (isN (k : Int)) _ (isNode_f _)).mono ?_); rintro e2 w2 ⟨rfl, hb⟩; have HB2 := Aside0.mk (Drawn0.below hb); have hcell : w2.cell? ⟨p, 1 + k, none⟩ = some (.slice A (ls k).length c) := (blk_cell (blk_below HP.out HB2.out) (1 + k)).trans HV.out; clear hb)
    refine (clone_calls A c (ls k) _ (Kd.C_below HC.out HB2.out) HCc.out (HL.out k)).mono ?_
    rintro e3 w3 ⟨v, rfl, hR, hb⟩
    have HR := Aside0.mk (Kd.R_lower hR HB2.out.size)
    have HB3 := Aside0.mk (below_step HB2.out hb)
    clear hb hR
    go_wp2
    go_ret
    rw [HE.out]
    exact ⟨_, rfl, HR.out, HB3.out⟩

/-- the document's ghost -/
def RefAt (w : World) (B : Nat) (ok : Nat → Prop) (q : Nat) (ws : List Ent) (ls : Nat → List Ent) : Prop :=
  ∃ cs v, w.heap[q]? = some (.cells cs 53 (0, 0)) ∧ cs.size = 9 ∧ cs[0]? = some v ∧ Kd.R kEnt 31 w B (fun k => ok k ∧ k ≠ q) v ws ∧ ok q ∧ B ≤ q ∧
    ∀ i, i < 8 → ∃ u, cs[1 + i]? = some u ∧ SliceAt w (fun k => ok k ∧ k ≠ q ∧ some k ≠ v.ownBlock) u (ls i)
theorem RefAt.same {w w' : World} {B : Nat} {ok : Nat → Prop} {q : Nat} {ws : List Ent} {ls : Nat → List Ent} (h : RefAt w B ok q ws ls) (hs : ∀ k, ok k → k < w.heap.size → w'.heap[k]? = w.heap[k]?) : RefAt w' B ok q ws ls := by
  obtain ⟨cs, v, h1, h2, h3, h4, h5, h6, h7⟩ := h
  refine ⟨cs, v, (hs q h5 (blk_lt h1)).trans h1, h2, h3, Kd.R_step h4 (fun k hk hlt => hs k hk.1 hlt), h5, h6, fun i hi => ?_⟩
  obtain ⟨u, hu, hS⟩ := h7 i hi
  exact ⟨u, hu, hS.same (fun k hk hlt => hs k hk.1 hlt) (fun _ hk => hk)⟩
theorem RefAt.mono {w : World} {B : Nat} {ok ok' : Nat → Prop} {q : Nat} {ws : List Ent} {ls : Nat → List Ent} (h : RefAt w B ok q ws ls) (hm : ∀ k, ok k → ok' k) : RefAt w B ok' q ws ls := by
  obtain ⟨cs, v, h1, h2, h3, h4, h5, h6, h7⟩ := h
  refine ⟨cs, v, h1, h2, h3, Kd.R_mono h4 (fun k hk => ⟨hm _ hk.1, hk.2⟩), hm _ h5, h6, fun i hi => ?_⟩
  obtain ⟨u, hu, hS⟩ := h7 i hi
  exact ⟨u, hu, hS.same (fun _ _ _ => rfl) (fun k hk => ⟨hm _ hk.1, hk.2⟩)⟩

theorem sliceAt_nil (w : World) (ok : Nat → Prop) : SliceAt w ok (.slice none 0 0) [] := ⟨none, 0, rfl, Nat.le_refl _, Kd.C_nil _ _, fun ad h => by cases h⟩
theorem nils (i : Nat) (x : Value) (hi : i < 8) : (#[x, Value.slice none 0 0, Value.slice none 0 0, Value.slice none 0 0, Value.slice none 0 0, Value.slice none 0 0, Value.slice none 0 0, Value.slice none 0 0, Value.slice none 0 0])[1 + i]? = some (Value.slice none 0 0) := by
  rcases i with _ | _ | _ | _ | _ | _ | _ | _ | i
  all_goals first | rfl | omega
theorem new_calls (w : World) :
    Calls Try.prog 6 #[] w fun r w' => ∃ p, r = .returned (.pointer (some ⟨p, 0, none⟩)) ∧ GhostAt w' (fun k => w.heap.size ≤ k ∧ k < w'.heap.size) p [] (fun _ => []) ∧ Below w.heap.size w w' := by
  have HB := Aside0.mk (Below.refl w.heap.size w)
  have hmm := @run_makeMap Try.prog
  go_enter Try.func6, Try.ntmps6
  go_wp2_with (fail)
  go_ret
  refine ⟨_, rfl, ⟨w.heap.size, _, (by have := blk_new (w.alloc (.map #[] 0)) (.cells #[Value.map (some w.heap.size), Value.slice none 0 0, Value.slice none 0 0, Value.slice none 0 0, Value.slice none 0 0, Value.slice none 0 0, Value.slice none 0 0, Value.slice none 0 0, Value.slice none 0 0] 51); rw [World.size_alloc] at this; exact this), rfl, rfl, ?_, ?_, ?_, fun i hi => ⟨_, nils i _ hi, sliceAt_nil _ _⟩⟩, below_alloc (below_alloc (Below.refl _ _) _) _⟩
  · exact ⟨#[], 0, blk_alloc (blk_new w _) _, rfl⟩
  · simp
  · constructor
    · omega
    · simp; omega
theorem refnew_calls (w : World) (B : Nat) (hB : B ≤ w.heap.size) :
    Calls Try.prog 7 #[] w fun r w' => ∃ q, r = .returned (.pointer (some ⟨q, 0, none⟩)) ∧ RefAt w' B (fun k => w.heap.size ≤ k ∧ k < w'.heap.size) q [] (fun _ => []) ∧ Below w.heap.size w w' := by
  have HB := Aside0.mk (Below.refl w.heap.size w)
  go_enter Try.func7, Try.ntmps7
  go_wp2_with (fail)
  go_ret
  refine ⟨_, rfl, ⟨_, .slice none 0 0, blk_new w _, rfl, rfl, Kd.R_nil _ _ _ _ _, ?_, hB, fun i hi => ⟨_, nils i _ hi, sliceAt_nil _ _⟩⟩, below_alloc (Below.refl _ _) _⟩
  simp
end Go.Proofs.Ytplnofodmgddmaa
