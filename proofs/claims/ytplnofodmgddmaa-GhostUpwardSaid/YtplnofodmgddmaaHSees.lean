import Derived.Test.YtplnofodmgddmaaHAbove
import Derived.Test.YtplnofodmgddmaaHRefH
import Derived.Deep.RegionWith
/- Ghost.Sees. -/
set_option linter.unusedVariables false
set_option linter.unusedSimpArgs false
namespace Go.Proofs.Ytplnofodmgddmaa
open Go.RowKit Go.Proofs.YtplnofodmgddmaaW.PrintWords Go.Proofs.YtplnofodmgddmaaW.PrintLast Go.Proofs.YtplnofodmgddmaaW.PrintMore
attribute [local go_sem] Oper.semAt_some

/-- what comes of the pairs of the map seen last and of the one seen now: the first fault's key and error; the error is 0 where there is none -/
def seesP (wr : Ent → Bool) : List PairE → ByteArray × Int
  | [] => (⟨#[]⟩, 0)
  | x :: r => if newerE x.f0 x.f1 = true then (x.f0.f0, 191) else if wr x.f1 = true then seesP wr r else (x.f1.f0, 192)
theorem seesP_ok {wr : Ent → Bool} : ∀ {l : List PairE}, (seesP wr l).2 = 0 → seesP wr l = (⟨#[]⟩, 0)
  | [], _ => rfl
  | x :: r, h => by
    unfold seesP at h ⊢
    split at h
    · simp at h
    · split at h
      · rename_i h1 h2
        rw [if_neg h1, if_pos h2]
        exact seesP_ok h
      · simp at h
theorem seesP_append (wr : Ent → Bool) : ∀ (p q : List PairE), seesP wr (p ++ q) = if (seesP wr p).2 = 0 then seesP wr q else seesP wr p
  | [], q => by simp [seesP]
  | x :: r, q => by
    rw [List.cons_append, seesP, seesP]
    split
    · simp
    · split
      · exact seesP_append wr r q
      · simp
theorem seesP_prefix {wr : Ent → Bool} {p q : List PairE} (h : p <+: q) (hp : (seesP wr p).2 ≠ 0) : seesP wr q = seesP wr p := by
  obtain ⟨r, rfl⟩ := h
  rw [seesP_append, if_neg hp]
def seesR (wr : Ent → Bool) (ls : Nat → List Ent) (node : Int) (l : List Ent) : ByteArray × Int :=
  if isN node = true then (if ckFrom none l = 0 then seesP wr (pairsL (ls node.toNat) l) else (⟨#[]⟩, ckFrom none l)) else (⟨#[]⟩, 1)
def seesL (wr : Ent → Bool) (ls : Nat → List Ent) (node : Int) (l : List Ent) : Nat → List Ent :=
  if (seesR wr ls node l).2 = 0 then fun i => if i = node.toNat then l else ls i else ls
theorem wp_quietly {P : Program} {c : Code} {K : Act → World → Prop} {Q : Exit → Act → World → Prop} {a : Act} {w : World} (h : c.wp P (Exit.then K (fun _ _ _ => False)) a w) : c.wp P (Exit.then K Q) a w :=
  wp_mono h (fun e a w h => by cases e <;> first | exact h | exact h.elim)
theorem below_undrew {W w' : World} (h : Below W.drew.heap.size W.drew w') : Below W.heap.size W w' := ⟨h.os, h.tape, h.output, h.size, h.block⟩
theorem ghost_last {w0 w' : World} {ok : Nat → Prop} {p : Nat} {ws : List Ent} {ls : Nat → List Ent} {k : Nat} {v : Value} {l : List Ent} (hG : GhostAt w0 ok p ws ls) (hk : k < 8) (hf : Frm (fun q => q = p) w0 w')
    (hp : ∀ cs, w0.heap[p]? = some (.cells cs 51 (0, 0)) → w'.heap[p]? = some (.cells (cs.setIfInBounds (1 + k) v) 51 (0, 0))) (hS : SliceAt w' (fun q => w0.heap.size ≤ q ∧ q < w'.heap.size) v l) :
    GhostAt w' (fun q => ok q ∨ (w0.heap.size ≤ q ∧ q < w'.heap.size)) p ws (fun i => if i = k then l else ls i) := by
  obtain ⟨m, cs, h1, h2, h3, h4, h5, h6, h7⟩ := hG
  have hpm : m ≠ p := by
    rintro rfl
    obtain ⟨es, clk, h, _⟩ := h4
    rw [h1] at h
    cases h
  have hpl := blk_lt h1
  have hml := h4.lt
  refine ⟨m, _, hp cs h1, by simpa using h2, ?_, h4.same (hf.block m hml hpm), .inl h5, .inl h6, fun i hi => ?_⟩
  · rw [Array.getElem?_setIfInBounds_ne (by omega)]
    exact h3
  · by_cases hik : i = k
    · subst hik
      refine ⟨v, by rw [Array.getElem?_setIfInBounds_self_of_lt (by omega)], ?_⟩
      simp only [if_true]
      exact hS.same (fun _ _ _ => rfl) (fun q hq => ⟨.inr hq, by omega, by omega⟩)
    · obtain ⟨u, hu, hSu⟩ := h7 i hi
      refine ⟨u, by rw [Array.getElem?_setIfInBounds_ne (by omega)]; exact hu, ?_⟩
      simp only [if_neg hik]
      exact hSu.same (fun q hq hlt => hf.block q hlt hq.2.1) (fun q hq => ⟨.inl hq.1, hq.2⟩)
theorem gen_world {X : World → Prop} {W : World} (F : World → Prop) (h : F W) (k : ∀ WF, F WF → X WF) : X W := k W h
set_option maxHeartbeats 1000000 in
theorem sees_calls (p : Nat) (ws : List Ent) (ls : Nat → List Ent) (ok : Nat → Prop) (node : Int) (A : Option Addr) (c : Nat) (l : List Ent) (w : World) (hG : GhostAt w ok p ws ls)
    (hs : ∀ i, ckFrom none (ls i) = 0) (hls : ∀ i, (ls i).length < 2513169434916) (hr : Kd.C kEnt w A l.length l) (hc : l.length ≤ c) (hl : l.length < 2513169434916) :
    Calls Try.prog 14 #[.pointer (some ⟨p, 0, none⟩), .int .i64 node, .slice A l.length c] w fun r w' =>
      r = .returned (.tuple #[.string (seesR (writtenB ws) ls node l).1, .int .i64 (seesR (writtenB ws) ls node l).2]) ∧
      GhostAt w' (fun k => ok k ∨ (w.heap.size ≤ k ∧ k < w'.heap.size)) p ws (seesL (writtenB ws) ls node l) ∧ Frm (fun k => k = p) w w' := by
  have HG := Aside0.mk hG
  have HS := Aside0.mk hs
  have HLS := Aside0.mk hls
  have HR := Aside0.mk hr
  have HC := Aside0.mk hc
  have HL := Aside0.mk hl
  clear hG hs hls hr hc hl
  have HB := Aside0.mk (Below.refl w.heap.size w)
  have huE := Try.underlying31
  cases hn : isN node
  · have HE := Aside0.mk (show seesR (writtenB ws) ls node l = (⟨#[]⟩, 1) by simp [seesR, hn])
    have HEL := Aside0.mk (show seesL (writtenB ws) ls node l = ls by simp [seesL, HE.out])
    go_enter Try.func14, Try.ntmps14
    go_wp2_with (first | ((with_reducible refine gate_dst (N := 3) rfl ?_); refine box_event ?hg (N := 3) ?hd (cs := #[.pointer (some ⟨p, 0, none⟩)]) (t := 24) ?hr ?_; (case hd => rfl); (case hg => rfl); (case hr => first | (go_simp; done) | (go_simp; rfl)); intro g3 hg W_g3 hbox hb; have n0_ := Aside0.mk (below_step (by repeat (first | (with_reducible first | exact HB.out | apply below_alloc | apply pw_below_drewN | apply below_drew1) | exact HB.out)) hb); have GEg3 := Aside0.mk (by rw [hg]; exact (below_size (by repeat (first | (with_reducible first | exact HB.out | apply below_alloc | apply pw_below_drewN | apply below_drew1) | exact HB.out))) : w.heap.size ≤ g3); have GNg3 := Aside0.mk hg; clear HB; have HB := n0_; have BKg3 := Aside0.mk hbox; have hcg3_0 := blk_cell BKg3.out 0; have hfg3_0 := blk_frozen BKg3.out 0; simp only [List.getElem?_toArray, List.getElem?_cons_zero, List.getElem?_cons_succ] at hcg3_0; clear n0_ hb hbox hg) | ((with_reducible refine gate_dst (N := 6) rfl ?_); refine box_event ?hg (N := 6) ?hd (cs := #[.string (⟨#[]⟩ : ByteArray)]) (t := 9) ?hr ?_; (case hd => rfl); (case hg => rfl); (case hr => first | (go_simp; done) | (go_simp; rfl)); intro g6 hg W_g6 hbox hb; have n0_ := Aside0.mk (below_step (by repeat (first | (with_reducible first | exact HB.out | apply below_alloc | apply pw_below_drewN | apply below_drew1) | exact HB.out)) hb); have GEg6 := Aside0.mk (by rw [hg]; exact (below_size (by repeat (first | (with_reducible first | exact HB.out | apply below_alloc | apply pw_below_drewN | apply below_drew1) | exact HB.out))) : w.heap.size ≤ g6); have GNg6 := Aside0.mk hg; clear HB; have HB := n0_; have BKg6 := Aside0.mk hbox; have hcg6_0 := blk_cell BKg6.out 0; have hfg6_0 := blk_frozen BKg6.out 0; simp only [List.getElem?_toArray, List.getElem?_cons_zero, List.getElem?_cons_succ] at hcg6_0; have Hne36 := Aside0.mk (show g3 ≠ g6 by rw [hg]; exact Nat.ne_of_lt (blk_lt BKg3.out)); have n1_ := Aside0.mk (blk_below BKg3.out hb); clear BKg3 hcg3_0 hfg3_0; have BKg3 := n1_; clear n1_; have hcg3_0 := blk_cell BKg3.out 0; have hfg3_0 := blk_frozen BKg3.out 0; simp only [List.getElem?_toArray, List.getElem?_cons_zero, List.getElem?_cons_succ] at hcg3_0; clear n0_ hb hbox hg) | ((with_reducible refine gate_dst (N := 7) rfl ?_); refine box_event ?hg (N := 7) ?hd (cs := #[.int .i64 0]) (t := 40) ?hr ?_; (case hd => rfl); (case hg => rfl); (case hr => first | (go_simp; done) | (go_simp; rfl)); intro g7 hg W_g7 hbox hb; have n0_ := Aside0.mk (below_step (by repeat (first | (with_reducible first | exact HB.out | apply below_alloc | apply pw_below_drewN | apply below_drew1) | exact HB.out)) hb); have GEg7 := Aside0.mk (by rw [hg]; exact (below_size (by repeat (first | (with_reducible first | exact HB.out | apply below_alloc | apply pw_below_drewN | apply below_drew1) | exact HB.out))) : w.heap.size ≤ g7); have GNg7 := Aside0.mk hg; clear HB; have HB := n0_; have BKg7 := Aside0.mk hbox; have hcg7_0 := blk_cell BKg7.out 0; have hfg7_0 := blk_frozen BKg7.out 0; simp only [List.getElem?_toArray, List.getElem?_cons_zero, List.getElem?_cons_succ] at hcg7_0; have Hne37 := Aside0.mk (show g3 ≠ g7 by rw [hg]; exact Nat.ne_of_lt (blk_lt BKg3.out)); have Hne67 := Aside0.mk (show g6 ≠ g7 by rw [hg]; exact Nat.ne_of_lt (blk_lt BKg6.out)); have n1_ := Aside0.mk (blk_below BKg3.out hb); clear BKg3 hcg3_0 hfg3_0; have BKg3 := n1_; clear n1_; have hcg3_0 := blk_cell BKg3.out 0; have hfg3_0 := blk_frozen BKg3.out 0; simp only [List.getElem?_toArray, List.getElem?_cons_zero, List.getElem?_cons_succ] at hcg3_0; have n1_ := Aside0.mk (blk_below BKg6.out hb); clear BKg6 hcg6_0 hfg6_0; have BKg6 := n1_; clear n1_; have hcg6_0 := blk_cell BKg6.out 0; have hfg6_0 := blk_frozen BKg6.out 0; simp only [List.getElem?_toArray, List.getElem?_cons_zero, List.getElem?_cons_succ] at hcg6_0; clear n0_ hb hbox hg) | (go_at_call 23; (with_reducible refine (ghost_isNode.calls _ _ _ (isNode_f _)).mono ?_); rintro e1 w1 ⟨rfl, hb0⟩; have hb := Drawn0.below hb0; have n0_ := Aside0.mk (below_step (by repeat (first | (with_reducible first | exact HB.out | apply below_alloc | apply pw_below_drewN | apply below_drew1) | exact HB.out)) hb); clear HB; have HB := n0_; clear n0_; have n1_ := Aside0.mk (blk_below BKg3.out hb); clear BKg3 hcg3_0 hfg3_0; have BKg3 := n1_; clear n1_; have hcg3_0 := blk_cell BKg3.out 0; have hfg3_0 := blk_frozen BKg3.out 0; simp only [List.getElem?_toArray, List.getElem?_cons_zero, List.getElem?_cons_succ] at hcg3_0; have n1_ := Aside0.mk (blk_below BKg6.out hb); clear BKg6 hcg6_0 hfg6_0; have BKg6 := n1_; clear n1_; have hcg6_0 := blk_cell BKg6.out 0; have hfg6_0 := blk_frozen BKg6.out 0; simp only [List.getElem?_toArray, List.getElem?_cons_zero, List.getElem?_cons_succ] at hcg6_0; have n1_ := Aside0.mk (blk_below BKg7.out hb); clear BKg7 hcg7_0 hfg7_0; have BKg7 := n1_; clear n1_; have hcg7_0 := blk_cell BKg7.out 0; have hfg7_0 := blk_frozen BKg7.out 0; simp only [List.getElem?_toArray, List.getElem?_cons_zero, List.getElem?_cons_succ] at hcg7_0; clear hb hb0; have hs7 := fun v => (World.cell?_setCell_far w1 ⟨g6, 0, none⟩ ⟨g7, 0, none⟩ v Hne67.out).trans hcg7_0) | (go_at_call 26; (with_reducible refine (mergeCheck_calls A c l _ (Kd.C_below HR.out HB.out) HC.out).mono ?_); clear hs7; rintro e2 w2 ⟨rfl, hb⟩; have n0_ := Aside0.mk (below_step (by repeat (first | (with_reducible first | exact HB.out | apply below_alloc | apply pw_below_drewN | apply below_drew1) | exact HB.out)) hb); clear HB; have HB := n0_; clear n0_; have n1_ := Aside0.mk (blk_below BKg3.out hb); clear BKg3 hcg3_0 hfg3_0; have BKg3 := n1_; clear n1_; have hcg3_0 := blk_cell BKg3.out 0; have hfg3_0 := blk_frozen BKg3.out 0; simp only [List.getElem?_toArray, List.getElem?_cons_zero, List.getElem?_cons_succ] at hcg3_0; have n1_ := Aside0.mk (blk_below BKg6.out hb); clear BKg6 hcg6_0 hfg6_0; have BKg6 := n1_; clear n1_; have hcg6_0 := blk_cell BKg6.out 0; have hfg6_0 := blk_frozen BKg6.out 0; simp only [List.getElem?_toArray, List.getElem?_cons_zero, List.getElem?_cons_succ] at hcg6_0; have n1_ := Aside0.mk (blk_below BKg7.out hb); clear BKg7 hcg7_0 hfg7_0; have BKg7 := n1_; clear n1_; have hcg7_0 := blk_cell BKg7.out 0; have hfg7_0 := blk_frozen BKg7.out 0; simp only [List.getElem?_toArray, List.getElem?_cons_zero, List.getElem?_cons_succ] at hcg7_0; clear hb; have hs7 := fun v => (World.cell?_setCell_far w2 ⟨g6, 0, none⟩ ⟨g7, 0, none⟩ v Hne67.out).trans hcg7_0))
    have hc6 : ((w1.setCell ⟨g6, 0, none⟩ (.string ⟨#[]⟩)).setCell ⟨g7, 0, none⟩ (.int .i64 1)).cell? ⟨g6, 0, none⟩ = some (.string ⟨#[]⟩) := blk_cell (blk_far (blk1 BKg6.out _) Hne67.out _) 0; have hc7 : ((w1.setCell ⟨g6, 0, none⟩ (.string ⟨#[]⟩)).setCell ⟨g7, 0, none⟩ (.int .i64 1)).cell? ⟨g7, 0, none⟩ = some (.int .i64 1) := blk_cell (blk1 (blk_far BKg7.out Hne67.out.symm _) _) 0; have hbw : Below w.heap.size w ((w1.setCell ⟨g6, 0, none⟩ (.string ⟨#[]⟩)).setCell ⟨g7, 0, none⟩ (.int .i64 1)) := below_set (below_set HB.out GEg6.out) GEg7.out; refine ⟨rfl, .tuple #[.string ⟨#[]⟩, .int .i64 1], ?_, ?_, ?_, Frm.of_below hbw _⟩; (simp [results, Try.f14, go_sem, hc6, hc7]); (rw [HE.out]); rw [HEL.out]; exact (HG.out.same (fun k _ hk => hbw.block k hk)).mono (fun _ h => .inl h)
  · by_cases hck : ckFrom none l = 0
    · have hb1 : (ckFrom none l != 0) = false := by simp [hck]
      have hrng := hn
      simp only [isN, decide_eq_true_eq] at hrng
      obtain ⟨k, rfl⟩ : ∃ k : Nat, node = (k : Int) := ⟨node.toNat, by omega⟩
      have hk : k < 8 := by omega
      obtain ⟨m, cs, hp, hcs, hm0, hM, hokp, hokm, hcl⟩ := HG.out
      obtain ⟨v0, hv, Av, cv, rfl, hcv, hCv, hAv⟩ := hcl k hk
      have HP := Aside0.mk hp
      have HV := Aside0.mk hv
      have HCV := Aside0.mk hCv
      have HCVc := Aside0.mk hcv
      have HB0 := Aside0.mk (show ckBoth (ls k) l = 0 by unfold ckBoth; rw [if_pos (HS.out k)]; exact hck)
      have HE := Aside0.mk (show seesR (writtenB ws) ls (k : Int) l = seesP (writtenB ws) (pairsL (ls k) l) by simp [seesR, hn, hck])
      have HCK := Aside0.mk hck
      clear hck hp hv hCv hcv hm0 hM hokp hokm hcl hcs hrng
      refine (callsIn_wide (n := 9)).1 (callsIn_of_wp_marks Try.func14 rfl trivial ?_ rfl)
      refine wpIn_wide.2 ?_
      simp only [Try.ntmps14, List.size_toArray, List.length_cons, List.length_nil, Nat.reduceAdd, Nat.reduceSub, Array.replicate_succ, Array.replicate_zero, List.push_toArray, List.append_toArray, List.nil_append, List.cons_append]
      go_upto_region 6 with (first | ((with_reducible refine gate_dst (N := 3) rfl ?_); refine box_event ?hg (N := 3) ?hd (cs := #[.pointer (some ⟨p, 0, none⟩)]) (t := 24) ?hr ?_; (case hd => rfl); (case hg => rfl); (case hr => first | (go_simp; done) | (go_simp; rfl)); intro g3 hg W_g3 hbox hb; have n0_ := Aside0.mk (below_step (by repeat (first | (with_reducible first | exact HB.out | apply below_alloc | apply pw_below_drewN | apply below_drew1) | exact HB.out)) hb); have GEg3 := Aside0.mk (by rw [hg]; exact (below_size (by repeat (first | (with_reducible first | exact HB.out | apply below_alloc | apply pw_below_drewN | apply below_drew1) | exact HB.out))) : w.heap.size ≤ g3); have GNg3 := Aside0.mk hg; clear HB; have HB := n0_; have BKg3 := Aside0.mk hbox; have hcg3_0 := blk_cell BKg3.out 0; have hfg3_0 := blk_frozen BKg3.out 0; simp only [List.getElem?_toArray, List.getElem?_cons_zero, List.getElem?_cons_succ] at hcg3_0; clear n0_ hb hbox hg) | ((with_reducible refine gate_dst (N := 6) rfl ?_); refine box_event ?hg (N := 6) ?hd (cs := #[.string (⟨#[]⟩ : ByteArray)]) (t := 9) ?hr ?_; (case hd => rfl); (case hg => rfl); (case hr => first | (go_simp; done) | (go_simp; rfl)); intro g6 hg W_g6 hbox hb; have n0_ := Aside0.mk (below_step (by repeat (first | (with_reducible first | exact HB.out | apply below_alloc | apply pw_below_drewN | apply below_drew1) | exact HB.out)) hb); have GEg6 := Aside0.mk (by rw [hg]; exact (below_size (by repeat (first | (with_reducible first | exact HB.out | apply below_alloc | apply pw_below_drewN | apply below_drew1) | exact HB.out))) : w.heap.size ≤ g6); have GNg6 := Aside0.mk hg; clear HB; have HB := n0_; have BKg6 := Aside0.mk hbox; have hcg6_0 := blk_cell BKg6.out 0; have hfg6_0 := blk_frozen BKg6.out 0; simp only [List.getElem?_toArray, List.getElem?_cons_zero, List.getElem?_cons_succ] at hcg6_0; have Hne36 := Aside0.mk (show g3 ≠ g6 by rw [hg]; exact Nat.ne_of_lt (blk_lt BKg3.out)); have n1_ := Aside0.mk (blk_below BKg3.out hb); clear BKg3 hcg3_0 hfg3_0; have BKg3 := n1_; clear n1_; have hcg3_0 := blk_cell BKg3.out 0; have hfg3_0 := blk_frozen BKg3.out 0; simp only [List.getElem?_toArray, List.getElem?_cons_zero, List.getElem?_cons_succ] at hcg3_0; clear n0_ hb hbox hg) | ((with_reducible refine gate_dst (N := 7) rfl ?_); refine box_event ?hg (N := 7) ?hd (cs := #[.int .i64 0]) (t := 40) ?hr ?_; (case hd => rfl); (case hg => rfl); (case hr => first | (go_simp; done) | (go_simp; rfl)); intro g7 hg W_g7 hbox hb; have n0_ := Aside0.mk (below_step (by repeat (first | (with_reducible first | exact HB.out | apply below_alloc | apply pw_below_drewN | apply below_drew1) | exact HB.out)) hb); have GEg7 := Aside0.mk (by rw [hg]; exact (below_size (by repeat (first | (with_reducible first | exact HB.out | apply below_alloc | apply pw_below_drewN | apply below_drew1) | exact HB.out))) : w.heap.size ≤ g7); have GNg7 := Aside0.mk hg; clear HB; have HB := n0_; have BKg7 := Aside0.mk hbox; have hcg7_0 := blk_cell BKg7.out 0; have hfg7_0 := blk_frozen BKg7.out 0; simp only [List.getElem?_toArray, List.getElem?_cons_zero, List.getElem?_cons_succ] at hcg7_0; have Hne37 := Aside0.mk (show g3 ≠ g7 by rw [hg]; exact Nat.ne_of_lt (blk_lt BKg3.out)); have Hne67 := Aside0.mk (show g6 ≠ g7 by rw [hg]; exact Nat.ne_of_lt (blk_lt BKg6.out)); have n1_ := Aside0.mk (blk_below BKg3.out hb); clear BKg3 hcg3_0 hfg3_0; have BKg3 := n1_; clear n1_; have hcg3_0 := blk_cell BKg3.out 0; have hfg3_0 := blk_frozen BKg3.out 0; simp only [List.getElem?_toArray, List.getElem?_cons_zero, List.getElem?_cons_succ] at hcg3_0; have n1_ := Aside0.mk (blk_below BKg6.out hb); clear BKg6 hcg6_0 hfg6_0; have BKg6 := n1_; clear n1_; have hcg6_0 := blk_cell BKg6.out 0; have hfg6_0 := blk_frozen BKg6.out 0; simp only [List.getElem?_toArray, List.getElem?_cons_zero, List.getElem?_cons_succ] at hcg6_0; clear n0_ hb hbox hg) | (go_at_call 23; (with_reducible refine (ghost_isNode.calls _ _ _ (isNode_f _)).mono ?_); rintro e1 w1 ⟨rfl, hb0⟩; have hb := Drawn0.below hb0; have n0_ := Aside0.mk (below_step (by repeat (first | (with_reducible first | exact HB.out | apply below_alloc | apply pw_below_drewN | apply below_drew1) | exact HB.out)) hb); clear HB; have HB := n0_; clear n0_; have n1_ := Aside0.mk (blk_below BKg3.out hb); clear BKg3 hcg3_0 hfg3_0; have BKg3 := n1_; clear n1_; have hcg3_0 := blk_cell BKg3.out 0; have hfg3_0 := blk_frozen BKg3.out 0; simp only [List.getElem?_toArray, List.getElem?_cons_zero, List.getElem?_cons_succ] at hcg3_0; have n1_ := Aside0.mk (blk_below BKg6.out hb); clear BKg6 hcg6_0 hfg6_0; have BKg6 := n1_; clear n1_; have hcg6_0 := blk_cell BKg6.out 0; have hfg6_0 := blk_frozen BKg6.out 0; simp only [List.getElem?_toArray, List.getElem?_cons_zero, List.getElem?_cons_succ] at hcg6_0; have n1_ := Aside0.mk (blk_below BKg7.out hb); clear BKg7 hcg7_0 hfg7_0; have BKg7 := n1_; clear n1_; have hcg7_0 := blk_cell BKg7.out 0; have hfg7_0 := blk_frozen BKg7.out 0; simp only [List.getElem?_toArray, List.getElem?_cons_zero, List.getElem?_cons_succ] at hcg7_0; clear hb hb0; have hs7 := fun v => (World.cell?_setCell_far w1 ⟨g6, 0, none⟩ ⟨g7, 0, none⟩ v Hne67.out).trans hcg7_0) | (go_at_call 26; (with_reducible refine (mergeCheck_calls A c l _ (Kd.C_below HR.out HB.out) HC.out).mono ?_); clear hs7; rintro e2 w2 ⟨rfl, hb⟩; have n0_ := Aside0.mk (below_step (by repeat (first | (with_reducible first | exact HB.out | apply below_alloc | apply pw_below_drewN | apply below_drew1) | exact HB.out)) hb); clear HB; have HB := n0_; clear n0_; have n1_ := Aside0.mk (blk_below BKg3.out hb); clear BKg3 hcg3_0 hfg3_0; have BKg3 := n1_; clear n1_; have hcg3_0 := blk_cell BKg3.out 0; have hfg3_0 := blk_frozen BKg3.out 0; simp only [List.getElem?_toArray, List.getElem?_cons_zero, List.getElem?_cons_succ] at hcg3_0; have n1_ := Aside0.mk (blk_below BKg6.out hb); clear BKg6 hcg6_0 hfg6_0; have BKg6 := n1_; clear n1_; have hcg6_0 := blk_cell BKg6.out 0; have hfg6_0 := blk_frozen BKg6.out 0; simp only [List.getElem?_toArray, List.getElem?_cons_zero, List.getElem?_cons_succ] at hcg6_0; have n1_ := Aside0.mk (blk_below BKg7.out hb); clear BKg7 hcg7_0 hfg7_0; have BKg7 := n1_; clear n1_; have hcg7_0 := blk_cell BKg7.out 0; have hfg7_0 := blk_frozen BKg7.out 0; simp only [List.getElem?_toArray, List.getElem?_cons_zero, List.getElem?_cons_succ] at hcg7_0; clear hb; have hs7 := fun v => (World.cell?_setCell_far w2 ⟨g6, 0, none⟩ ⟨g7, 0, none⟩ v Hne67.out).trans hcg7_0))
      clear hs7
      have hcell : w2.cell? ⟨p, 1 + k, none⟩ = some (.slice Av (ls k).length cv) := (blk_cell (blk_below HP.out HB.out) (1 + k)).trans HV.out
      go_wp2_with (fail)
      refine (both_calls Av cv (ls k) A c l _ (Kd.C_below HCV.out HB.out) HCVc.out (Kd.C_below HR.out HB.out) HC.out (HLS.out k) HL.out).mono ?_
      rintro e3 w3 ⟨Ba, Bb, A0', c0', A1', c1', rfl, hI, hF, hb⟩
      rw [bothL, bothL, if_pos HB0.out, if_pos HB0.out] at hI hF
      have h367 : g3 < w2.heap.size ∧ g6 < w2.heap.size ∧ g7 < w2.heap.size := ⟨blk_lt BKg3.out, blk_lt BKg6.out, blk_lt BKg7.out⟩
      have HII := Aside0.mk hI
      have HN := Aside0.mk (show ∀ q, w2.heap.size ≤ q → ¬ (q = g6 ∨ q = g7) from fun q hq hc => by omega)
      have HFF := Aside0.mk hF
      have n0_ := Aside0.mk (below_step (by repeat (first | (with_reducible first | exact HB.out | apply below_alloc | apply pw_below_drewN | apply below_drew1) | exact HB.out)) hb); clear HB; have HB := n0_; clear n0_
      have n1_ := Aside0.mk (blk_below BKg3.out hb); clear BKg3 hcg3_0 hfg3_0; have BKg3 := n1_; clear n1_; have hcg3_0 := blk_cell BKg3.out 0; have hfg3_0 := blk_frozen BKg3.out 0; simp only [List.getElem?_toArray, List.getElem?_cons_zero, List.getElem?_cons_succ] at hcg3_0
      have n1_ := Aside0.mk (blk_below BKg6.out hb); clear BKg6 hcg6_0 hfg6_0; have BKg6 := n1_; clear n1_; have hcg6_0 := blk_cell BKg6.out 0; have hfg6_0 := blk_frozen BKg6.out 0; simp only [List.getElem?_toArray, List.getElem?_cons_zero, List.getElem?_cons_succ] at hcg6_0
      have n1_ := Aside0.mk (blk_below BKg7.out hb); clear BKg7 hcg7_0 hfg7_0; have BKg7 := n1_; clear n1_; have hcg7_0 := blk_cell BKg7.out 0; have hfg7_0 := blk_frozen BKg7.out 0; simp only [List.getElem?_toArray, List.getElem?_cons_zero, List.getElem?_cons_succ] at hcg7_0
      have HS2 := Aside0.mk (And.intro (blk_lt BKg6.out) (blk_lt BKg7.out))
      clear hb hI hF h367 hcell
      go_wp2_with (fail)
      have HG3 := Aside0.mk (fun (W : World) (h : Frm (fun q => q = g6 ∨ q = g7) w3 W) => (show GhostAt W ok p ws ls from
        HG.out.same (fun q _ hq => (h.block q (Nat.lt_of_lt_of_le hq HB.out.size) (by have := GEg6.out; have := GEg7.out; omega)).trans (HB.out.block q hq))))
      refine wp_range_boxed (n := 9) 9 10 (by omega) rfl HII.out (fun q => q = g6 ∨ q = g7) (by rintro q (rfl | rfl); exact HS2.out.1; exact HS2.out.2) (HN.out _ HFF.out.ba) (HN.out _ HFF.out.bb)
        (fun ad e hn => HN.out _ (HFF.out.a0 ad e hn)) (fun ad e hn => HN.out _ (HFF.out.a1 ad e hn))
        (fun pre W => (seesP (writtenB ws) pre).2 = 0 ∧ Frm (fun q => q = g6 ∨ q = g7) w3 W ∧ W.heap[g6]? = some (.cells #[.string ⟨#[]⟩] 9 (0, 0)) ∧ W.heap[g7]? = some (.cells #[.int .i64 0] 40 (0, 0)))
        (fun c pre W => c = .ret ∧ (seesP (writtenB ws) pre).2 ≠ 0 ∧ Frm (fun q => q = g6 ∨ q = g7) w3 W ∧ W.heap[g6]? = some (.cells #[.string (seesP (writtenB ws) pre).1] 9 (0, 0)) ∧ W.heap[g7]? = some (.cells #[.int .i64 (seesP (writtenB ws) pre).2] 40 (0, 0)))
        (fun pre W h => h.2.1.size) ?hI (fun c pre W h => h.2.2.1.size) ?hIx ⟨rfl, Frm.refl _ _, BKg6.out, BKg7.out⟩ ?assign ?body ?done ?stop
      case hI =>
        rintro pre W W' hb ⟨h1, h2, h3, h4⟩
        exact ⟨h1, h2.then_ (Frm.of_blk hb h2.size) (fun k hk => .inr hk), (hb.block g6 HS2.out.1).trans h3, (hb.block g7 HS2.out.2).trans h4⟩
      case hIx =>
        rintro c pre W W' hb ⟨h0, h1, h2, h3, h4⟩
        exact ⟨h0, h1, h2.then_ (Frm.of_blk hb h2.size) (fun k hk => .inr hk), (hb.block g6 HS2.out.1).trans h3, (hb.block g7 HS2.out.2).trans h4⟩
      case assign =>
        rintro lp pre x W K ⟨hu, hF, hg6, hg7⟩ hK
        clear HB
        have HB := Aside0.mk (Below.refl W.heap.size W)
        unfold vEnt
        gi_wp2_with (first | ((with_reducible refine gate_dst (N := 9) rfl ?_); refine box_event ?hg (N := 9) ?hd (cs := #[.string x.f0.f0, .int .i64 x.f0.f1.f0, .int .i64 x.f0.f1.f1, .string x.f0.f2, .bool x.f0.f3]) (t := 31) ?hr ?_; (case hd => rfl); (case hg => rfl); (case hr => first | (go_simp; done) | (go_simp; rfl)); intro bx hg W_bx hbox hb; have n0_ := Aside0.mk (below_step (by repeat (first | (with_reducible first | exact HB.out | apply below_alloc | apply pw_below_drewN | apply below_drew1) | exact HB.out)) hb); have GEbx := Aside0.mk (by rw [hg]; exact (below_size (by repeat (first | (with_reducible first | exact HB.out | apply below_alloc | apply pw_below_drewN | apply below_drew1) | exact HB.out))) : W.heap.size ≤ bx); have GNbx := Aside0.mk hg; clear HB; have HB := n0_; have BKbx := Aside0.mk hbox; have hcbx_0 := blk_cell BKbx.out 0; have hfbx_0 := blk_frozen BKbx.out 0; have hcbx_1 := blk_cell BKbx.out 1; have hfbx_1 := blk_frozen BKbx.out 1; have hcbx_2 := blk_cell BKbx.out 2; have hfbx_2 := blk_frozen BKbx.out 2; have hcbx_3 := blk_cell BKbx.out 3; have hfbx_3 := blk_frozen BKbx.out 3; have hcbx_4 := blk_cell BKbx.out 4; have hfbx_4 := blk_frozen BKbx.out 4; simp only [List.getElem?_toArray, List.getElem?_cons_zero, List.getElem?_cons_succ] at hcbx_0 hcbx_1 hcbx_2 hcbx_3 hcbx_4; clear n0_ hb hbox hg) | ((with_reducible refine gate_dst (N := 10) rfl ?_); refine box_event ?hg (N := 10) ?hd (cs := #[.string x.f1.f0, .int .i64 x.f1.f1.f0, .int .i64 x.f1.f1.f1, .string x.f1.f2, .bool x.f1.f3]) (t := 31) ?hr ?_; (case hd => rfl); (case hg => rfl); (case hr => first | (go_simp; done) | (go_simp; rfl)); intro by_ hg W_by_ hbox hb; have n0_ := Aside0.mk (below_step (by repeat (first | (with_reducible first | exact HB.out | apply below_alloc | apply pw_below_drewN | apply below_drew1) | exact HB.out)) hb); have GEby_ := Aside0.mk (by rw [hg]; exact (below_size (by repeat (first | (with_reducible first | exact HB.out | apply below_alloc | apply pw_below_drewN | apply below_drew1) | exact HB.out))) : W.heap.size ≤ by_); have GNby_ := Aside0.mk hg; clear HB; have HB := n0_; have BKby_ := Aside0.mk hbox; have hcby__0 := blk_cell BKby_.out 0; have hfby__0 := blk_frozen BKby_.out 0; have hcby__1 := blk_cell BKby_.out 1; have hfby__1 := blk_frozen BKby_.out 1; have hcby__2 := blk_cell BKby_.out 2; have hfby__2 := blk_frozen BKby_.out 2; have hcby__3 := blk_cell BKby_.out 3; have hfby__3 := blk_frozen BKby_.out 3; have hcby__4 := blk_cell BKby_.out 4; have hfby__4 := blk_frozen BKby_.out 4; simp only [List.getElem?_toArray, List.getElem?_cons_zero, List.getElem?_cons_succ] at hcby__0 hcby__1 hcby__2 hcby__3 hcby__4; clear n0_ hb hbox hg))
        exact hK _ _ _ (Nat.le_refl _) (Nat.le_succ _) (by omega) (below_alloc (below_alloc (Below.refl _ _) _) _) (blk_alloc (blk_new _ _) _) (blk_new2 _ _ _)
      case body =>
        rintro lp pre x Bx By W ⟨hu, hF, hg6, hg7⟩ hBx hBy hne hbx hby hlt
        have BN3 := Aside0.mk (hF.blk BKg3.out (by have := Hne36.out; have := Hne37.out; omega)); clear BKg3 hcg3_0 hfg3_0; clear BKg6 hcg6_0 hfg6_0; clear BKg7 hcg7_0 hfg7_0; have BKg3 := BN3; clear BN3; have BKg6 := Aside0.mk hg6; have BKg7 := Aside0.mk hg7; clear hg6 hg7; have hcg3_0 := blk_cell BKg3.out 0; have hfg3_0 := blk_frozen BKg3.out 0; simp only [List.getElem?_toArray, List.getElem?_cons_zero, List.getElem?_cons_succ] at hcg3_0; have hcg6_0 := blk_cell BKg6.out 0; have hfg6_0 := blk_frozen BKg6.out 0; simp only [List.getElem?_toArray, List.getElem?_cons_zero, List.getElem?_cons_succ] at hcg6_0; have hcg7_0 := blk_cell BKg7.out 0; have hfg7_0 := blk_frozen BKg7.out 0; simp only [List.getElem?_toArray, List.getElem?_cons_zero, List.getElem?_cons_succ] at hcg7_0; have hs7 := fun v => (World.cell?_setCell_far W ⟨g6, 0, none⟩ ⟨g7, 0, none⟩ v Hne67.out).trans hcg7_0
        have BKbx := Aside0.mk hbx
        have BKby := Aside0.mk hby
        unfold boxE at BKbx BKby
        clear hbx hby
        have hcbx_0 := blk_cell BKbx.out 0; have hfbx_0 := blk_frozen BKbx.out 0; have hcbx_1 := blk_cell BKbx.out 1; have hfbx_1 := blk_frozen BKbx.out 1; have hcbx_2 := blk_cell BKbx.out 2; have hfbx_2 := blk_frozen BKbx.out 2; have hcbx_3 := blk_cell BKbx.out 3; have hfbx_3 := blk_frozen BKbx.out 3; have hcbx_4 := blk_cell BKbx.out 4; have hfbx_4 := blk_frozen BKbx.out 4; simp only [List.getElem?_toArray, List.getElem?_cons_zero, List.getElem?_cons_succ] at hcbx_0 hcbx_1 hcbx_2 hcbx_3 hcbx_4
        have hcby_0 := blk_cell BKby.out 0; have hfby_0 := blk_frozen BKby.out 0; have hcby_1 := blk_cell BKby.out 1; have hfby_1 := blk_frozen BKby.out 1; have hcby_2 := blk_cell BKby.out 2; have hfby_2 := blk_frozen BKby.out 2; have hcby_3 := blk_cell BKby.out 3; have hfby_3 := blk_frozen BKby.out 3; have hcby_4 := blk_cell BKby.out 4; have hfby_4 := blk_frozen BKby.out 4; simp only [List.getElem?_toArray, List.getElem?_cons_zero, List.getElem?_cons_succ] at hcby_0 hcby_1 hcby_2 hcby_3 hcby_4
        unfold roundF
        gi_wp2_with (fail)
        refine ⟨trivial, (CallsIn.inRound lp (callsIn_wide.2 (itemNewer_calls x.f0 x.f1 _))).mono ?_⟩
        rintro e4 w4 ⟨rfl, hb⟩
        have HB4 := Aside0.mk hb
        have n1_ := Aside0.mk (blk_below BKg3.out hb); clear BKg3 hcg3_0 hfg3_0; have BKg3 := n1_; clear n1_; have hcg3_0 := blk_cell BKg3.out 0; have hfg3_0 := blk_frozen BKg3.out 0; simp only [List.getElem?_toArray, List.getElem?_cons_zero, List.getElem?_cons_succ] at hcg3_0
        have n1_ := Aside0.mk (blk_below BKg6.out hb); clear BKg6 hcg6_0 hfg6_0; have BKg6 := n1_; clear n1_; have hcg6_0 := blk_cell BKg6.out 0; have hfg6_0 := blk_frozen BKg6.out 0; simp only [List.getElem?_toArray, List.getElem?_cons_zero, List.getElem?_cons_succ] at hcg6_0
        have n1_ := Aside0.mk (blk_below BKg7.out hb); clear BKg7 hcg7_0 hfg7_0; have BKg7 := n1_; clear n1_; have hcg7_0 := blk_cell BKg7.out 0; have hfg7_0 := blk_frozen BKg7.out 0; simp only [List.getElem?_toArray, List.getElem?_cons_zero, List.getElem?_cons_succ] at hcg7_0
        have n1_ := Aside0.mk (blk_below BKbx.out hb); clear BKbx hcbx_0 hfbx_0 hcbx_1 hfbx_1 hcbx_2 hfbx_2 hcbx_3 hfbx_3 hcbx_4 hfbx_4; have BKbx := n1_; clear n1_; have hcbx_0 := blk_cell BKbx.out 0; have hfbx_0 := blk_frozen BKbx.out 0; have hcbx_1 := blk_cell BKbx.out 1; have hfbx_1 := blk_frozen BKbx.out 1; have hcbx_2 := blk_cell BKbx.out 2; have hfbx_2 := blk_frozen BKbx.out 2; have hcbx_3 := blk_cell BKbx.out 3; have hfbx_3 := blk_frozen BKbx.out 3; have hcbx_4 := blk_cell BKbx.out 4; have hfbx_4 := blk_frozen BKbx.out 4; simp only [List.getElem?_toArray, List.getElem?_cons_zero, List.getElem?_cons_succ] at hcbx_0 hcbx_1 hcbx_2 hcbx_3 hcbx_4
        have n1_ := Aside0.mk (blk_below BKby.out hb); clear BKby hcby_0 hfby_0 hcby_1 hfby_1 hcby_2 hfby_2 hcby_3 hfby_3 hcby_4 hfby_4; have BKby := n1_; clear n1_; have hcby_0 := blk_cell BKby.out 0; have hfby_0 := blk_frozen BKby.out 0; have hcby_1 := blk_cell BKby.out 1; have hfby_1 := blk_frozen BKby.out 1; have hcby_2 := blk_cell BKby.out 2; have hfby_2 := blk_frozen BKby.out 2; have hcby_3 := blk_cell BKby.out 3; have hfby_3 := blk_frozen BKby.out 3; have hcby_4 := blk_cell BKby.out 4; have hfby_4 := blk_frozen BKby.out 4; simp only [List.getElem?_toArray, List.getElem?_cons_zero, List.getElem?_cons_succ] at hcby_0 hcby_1 hcby_2 hcby_3 hcby_4
        clear hb hs7
        have hs7 := fun v => (World.cell?_setCell_far w4 ⟨g6, 0, none⟩ ⟨g7, 0, none⟩ v Hne67.out).trans hcg7_0
        by_cases hnw : newerE x.f0 x.f1 = true
        · have hx1 : seesP (writtenB ws) [x] = (x.f0.f0, 191) := by simp [seesP, hnw]
          rw [hnw]
          gi_wp2_with (fail)
          have hf : Frm (fun q => q = g6 ∨ q = g7) W ((w4.setCell ⟨g6, 0, none⟩ (.string x.f0.f0)).setCell ⟨g7, 0, none⟩ (.int .i64 191)) := ((Frm.of_below HB4.out _).setCell (.inl (.inl rfl)) _).setCell (.inl (.inr rfl)) _; have hq : seesP (writtenB ws) (pre ++ [x]) = (x.f0.f0, 191) := (by rw [seesP_append, if_pos hu]; exact hx1); refine ⟨hf, ?_, hF.trans hf, ?_, ?_⟩; (rw [hq]; exact (show (191 : Int) ≠ 0 by decide)); (rw [hq]; exact blk_far (blk1 BKg6.out _) Hne67.out _); (rw [hq]; exact blk1 (blk_far BKg7.out Hne67.out.symm _) _)
        · have hnw' := Bool.eq_false_iff.2 hnw
          rw [hnw']
          gi_wp2_with (fail)
          refine ⟨trivial, (CallsIn.inRound lp (callsIn_wide.2 (written_calls p ws ls ok x.f1 _ (HG3.out _ (hF.trans (Frm.of_below HB4.out _)))))).mono ?_⟩
          rintro e5 w5 ⟨rfl, hb⟩
          have HB5 := Aside0.mk (HB4.out.trans (hb.mono HB4.out.size))
          have n1_ := Aside0.mk (blk_below BKg3.out hb); clear BKg3 hcg3_0 hfg3_0; have BKg3 := n1_; clear n1_; have hcg3_0 := blk_cell BKg3.out 0; have hfg3_0 := blk_frozen BKg3.out 0; simp only [List.getElem?_toArray, List.getElem?_cons_zero, List.getElem?_cons_succ] at hcg3_0
          have n1_ := Aside0.mk (blk_below BKg6.out hb); clear BKg6 hcg6_0 hfg6_0; have BKg6 := n1_; clear n1_; have hcg6_0 := blk_cell BKg6.out 0; have hfg6_0 := blk_frozen BKg6.out 0; simp only [List.getElem?_toArray, List.getElem?_cons_zero, List.getElem?_cons_succ] at hcg6_0
          have n1_ := Aside0.mk (blk_below BKg7.out hb); clear BKg7 hcg7_0 hfg7_0; have BKg7 := n1_; clear n1_; have hcg7_0 := blk_cell BKg7.out 0; have hfg7_0 := blk_frozen BKg7.out 0; simp only [List.getElem?_toArray, List.getElem?_cons_zero, List.getElem?_cons_succ] at hcg7_0
          have n1_ := Aside0.mk (blk_below BKbx.out hb); clear BKbx hcbx_0 hfbx_0 hcbx_1 hfbx_1 hcbx_2 hfbx_2 hcbx_3 hfbx_3 hcbx_4 hfbx_4; have BKbx := n1_; clear n1_; have hcbx_0 := blk_cell BKbx.out 0; have hfbx_0 := blk_frozen BKbx.out 0; have hcbx_1 := blk_cell BKbx.out 1; have hfbx_1 := blk_frozen BKbx.out 1; have hcbx_2 := blk_cell BKbx.out 2; have hfbx_2 := blk_frozen BKbx.out 2; have hcbx_3 := blk_cell BKbx.out 3; have hfbx_3 := blk_frozen BKbx.out 3; have hcbx_4 := blk_cell BKbx.out 4; have hfbx_4 := blk_frozen BKbx.out 4; simp only [List.getElem?_toArray, List.getElem?_cons_zero, List.getElem?_cons_succ] at hcbx_0 hcbx_1 hcbx_2 hcbx_3 hcbx_4
          have n1_ := Aside0.mk (blk_below BKby.out hb); clear BKby hcby_0 hfby_0 hcby_1 hfby_1 hcby_2 hfby_2 hcby_3 hfby_3 hcby_4 hfby_4; have BKby := n1_; clear n1_; have hcby_0 := blk_cell BKby.out 0; have hfby_0 := blk_frozen BKby.out 0; have hcby_1 := blk_cell BKby.out 1; have hfby_1 := blk_frozen BKby.out 1; have hcby_2 := blk_cell BKby.out 2; have hfby_2 := blk_frozen BKby.out 2; have hcby_3 := blk_cell BKby.out 3; have hfby_3 := blk_frozen BKby.out 3; have hcby_4 := blk_cell BKby.out 4; have hfby_4 := blk_frozen BKby.out 4; simp only [List.getElem?_toArray, List.getElem?_cons_zero, List.getElem?_cons_succ] at hcby_0 hcby_1 hcby_2 hcby_3 hcby_4
          clear hb hs7
          have hs7 := fun v => (World.cell?_setCell_far w5 ⟨g6, 0, none⟩ ⟨g7, 0, none⟩ v Hne67.out).trans hcg7_0
          by_cases hwr : writtenB ws x.f1 = true
          · rw [hwr]
            gi_wp2_with (fail)
            have hf : Frm (fun q => q = g6 ∨ q = g7) W w5 := Frm.of_below HB5.out _
            refine ⟨hf, ?_, hF.trans hf, BKg6.out, BKg7.out⟩
            rw [seesP_append, if_pos hu]
            simp [seesP, hnw, hwr]
          · have hx1 : seesP (writtenB ws) [x] = (x.f1.f0, 192) := by simp [seesP, hnw, hwr]
            rw [Bool.eq_false_iff.2 hwr]
            gi_wp2_with (fail)
            have hf : Frm (fun q => q = g6 ∨ q = g7) W ((w5.setCell ⟨g6, 0, none⟩ (.string x.f1.f0)).setCell ⟨g7, 0, none⟩ (.int .i64 192)) := ((Frm.of_below HB5.out _).setCell (.inl (.inl rfl)) _).setCell (.inl (.inr rfl)) _; have hq : seesP (writtenB ws) (pre ++ [x]) = (x.f1.f0, 192) := (by rw [seesP_append, if_pos hu]; exact hx1); refine ⟨hf, ?_, hF.trans hf, ?_, ?_⟩; (rw [hq]; exact (show (192 : Int) ≠ 0 by decide)); (rw [hq]; exact blk_far (blk1 BKg6.out _) Hne67.out _); (rw [hq]; exact blk1 (blk_far BKg7.out Hne67.out.symm _) _)
      case done =>
        rintro D W hD ⟨hu, hF, hg6, hg7⟩ hd
        have BN3 := Aside0.mk (hF.blk BKg3.out (by have := Hne36.out; have := Hne37.out; omega)); clear BKg3 hcg3_0 hfg3_0; clear BKg6 hcg6_0 hfg6_0; clear BKg7 hcg7_0 hfg7_0; have BKg3 := BN3; clear BN3; have BKg6 := Aside0.mk hg6; have BKg7 := Aside0.mk hg7; clear hg6 hg7; have hcg3_0 := blk_cell BKg3.out 0; have hfg3_0 := blk_frozen BKg3.out 0; simp only [List.getElem?_toArray, List.getElem?_cons_zero, List.getElem?_cons_succ] at hcg3_0; have hcg6_0 := blk_cell BKg6.out 0; have hfg6_0 := blk_frozen BKg6.out 0; simp only [List.getElem?_toArray, List.getElem?_cons_zero, List.getElem?_cons_succ] at hcg6_0; have hcg7_0 := blk_cell BKg7.out 0; have hfg7_0 := blk_frozen BKg7.out 0; simp only [List.getElem?_toArray, List.getElem?_cons_zero, List.getElem?_cons_succ] at hcg7_0; have hs7 := fun v => (World.cell?_setCell_far W ⟨g6, 0, none⟩ ⟨g7, 0, none⟩ v Hne67.out).trans hcg7_0
        have hD6 : g6 ≠ D := Nat.ne_of_lt (Nat.lt_of_lt_of_le HS2.out.1 hD)
        have hD7 : g7 ≠ D := Nat.ne_of_lt (Nat.lt_of_lt_of_le HS2.out.2 hD)
        go_upto_region 13 with (fail)
        have hrE := HE.out
        rw [seesP_ok (by rw [← hrE]; rw [hrE]; exact hu)] at hrE
        have HE := Aside0.mk hrE
        have HEL := Aside0.mk (show seesL (writtenB ws) ls (k : Int) l = fun i => if i = k then l else ls i by simp [seesL, hrE])
        clear hrE
        have hw : Below w.heap.size w W := HB.out.trans (hF.below HB.out.size (by rintro k (rfl | rfl); exact GEg6.out; exact GEg7.out))
        have HW := Aside0.mk hw
        have HWd := Aside0.mk (below_drew hw)
        have HPW := Aside0.mk (blk_below HP.out hw)
        have HD := Aside0.mk hd
        have hcp := (blk_cell HPW.out (1 + k)).trans HV.out
        have hfp := blk_frozen HPW.out (1 + k)
        have hDl : D < W.heap.size := blk_lt hd
        clear hw hs7 hd
        refine wp_quietly ?_
        go_region_with (first | (go_at_call 24; (with_reducible refine (clone_calls A c l _ (Kd.C_below HR.out (by first | exact HW.out | exact HWd.out)) HC.out HL.out).mono ?_); rintro e6 w6 ⟨v6, rfl, hR6, hb6⟩; have hb := below_undrew hb6; clear hb6; obtain ⟨A6, c6, rfl, hc6, hC6, hA6⟩ := own_form hR6; have HB6 := Aside0.mk hb; have HC6 := Aside0.mk hC6; have HCc6 := Aside0.mk hc6; have HA6 := Aside0.mk hA6; clear hc6 hC6 hA6; have n1_ := Aside0.mk (blk_below BKg3.out hb); clear BKg3 hcg3_0 hfg3_0; have BKg3 := n1_; clear n1_; have hcg3_0 := blk_cell BKg3.out 0; have hfg3_0 := blk_frozen BKg3.out 0; simp only [List.getElem?_toArray, List.getElem?_cons_zero, List.getElem?_cons_succ] at hcg3_0; have n1_ := Aside0.mk (blk_below BKg6.out hb); clear BKg6 hcg6_0 hfg6_0; have BKg6 := n1_; clear n1_; have hcg6_0 := blk_cell BKg6.out 0; have hfg6_0 := blk_frozen BKg6.out 0; simp only [List.getElem?_toArray, List.getElem?_cons_zero, List.getElem?_cons_succ] at hcg6_0; have n1_ := Aside0.mk (blk_below BKg7.out hb); clear BKg7 hcg7_0 hfg7_0; have BKg7 := n1_; clear n1_; have hcg7_0 := blk_cell BKg7.out 0; have hfg7_0 := blk_frozen BKg7.out 0; simp only [List.getElem?_toArray, List.getElem?_cons_zero, List.getElem?_cons_succ] at hcg7_0; clear hcp hfp; have n0_ := Aside0.mk (blk_below HPW.out hb); clear HPW; have HPW := n0_; clear n0_; have n0_ := Aside0.mk ((hb.block D (blk_lt HD.out)).trans HD.out); clear HD; have HD := n0_; clear n0_; have hcp := (blk_cell HPW.out (1 + k)).trans HV.out; have hfp := blk_frozen HPW.out (1 + k); clear hb hR6))
        all_goals
          have hpl := blk_lt HP.out
          have hB0 := HW.out.trans (HB6.out.mono HW.out.size)
          have hS6 : SliceAt w6 (fun q => W.heap.size ≤ q ∧ q < w6.heap.size) (.slice A6 l.length c6) l := ⟨A6, c6, rfl, HCc6.out, HC6.out, fun ad e hn => ⟨(HA6.out ad e).1, C_lt kEnt_szpos HC6.out e hn⟩⟩
          refine gen_world (X := Exit.then _ _ _ _) (F := fun W7 => W7.heap[p]? = some (.cells (cs.setIfInBounds (1 + k) (.slice A6 l.length c6)) 51 (0, 0)) ∧ Frm (fun q => q = p) w W7 ∧ W7.heap[g6]? = some (.cells #[.string ⟨#[]⟩] 9 (0, 0)) ∧ W7.heap[g7]? = some (.cells #[.int .i64 0] 40 (0, 0)) ∧ W7.heap[D]? = some (.deferred (some [])) ∧
            W.heap.size ≤ W7.heap.size ∧ SliceAt W7 (fun q => W.heap.size ≤ q ∧ q < W7.heap.size) (.slice A6 l.length c6) l)
            ⟨heap_setCell_same _ _ _ _ _ _ HPW.out, (Frm.of_below hB0 (fun q => q = p)).setCell (p := ⟨p, 1 + k, none⟩) (.inl rfl) _, blk_far BKg6.out (show g6 ≠ p by have := GEg6.out; omega) _,
              blk_far BKg7.out (show g7 ≠ p by have := GEg7.out; omega) _, (Below.heap_setCell _ _ _ _ (show D ≠ p by have := HB.out.size; omega)).trans HD.out, by rw [World.size_setCell]; exact HB6.out.size,
              hS6.same (fun q hq hlt => Below.heap_setCell _ _ _ _ (show q ≠ p by have := HW.out.size; omega)) (fun q hq => by rw [World.size_setCell]; exact hq)⟩ ?_
          clear hS6 hB0
          clear BKg6 hcg6_0 hfg6_0
          clear BKg7 hcg7_0 hfg7_0
          clear BKg3 hcg3_0 hfg3_0
          clear HPW HD HW HWd
          rintro W7 ⟨hp7, hf7, hb6, hb7, hd7, hz7, hS7⟩
          have BKg6 := Aside0.mk hb6
          have BKg7 := Aside0.mk hb7
          have hcg6_0 := blk_cell BKg6.out 0; have hfg6_0 := blk_frozen BKg6.out 0; simp only [List.getElem?_toArray, List.getElem?_cons_zero, List.getElem?_cons_succ] at hcg6_0
          have hcg7_0 := blk_cell BKg7.out 0; have hfg7_0 := blk_frozen BKg7.out 0; simp only [List.getElem?_toArray, List.getElem?_cons_zero, List.getElem?_cons_succ] at hcg7_0
          have hs7 := fun v => (World.cell?_setCell_far W7 ⟨g6, 0, none⟩ ⟨g7, 0, none⟩ v Hne67.out).trans hcg7_0
          have HP7 := Aside0.mk hp7
          have HF7 := Aside0.mk hf7
          have HD7 := Aside0.mk hd7
          have HS7 := Aside0.mk hS7
          clear hb6 hb7 hp7 hf7 hd7 hS7
          go_wp2_with (fail)
          have hsz := hF.size
          have hBs := HB.out.size
          have hq6 := HS2.out.1
          have hq7 := HS2.out.2
          have he6 := GEg6.out
          have he7 := GEg7.out
          have hd8 : ((W7.setCell ⟨g6, 0, none⟩ (.string ⟨#[]⟩)).setCell ⟨g7, 0, none⟩ (.int .i64 0)).heap[D]? = some (.deferred (some [])) := (Below.heap_setCell _ _ _ _ hD7.symm).trans ((Below.heap_setCell _ _ _ _ hD6.symm).trans HD7.out)
          rw [HE.out, HEL.out]
          refine ⟨by simp, .inl ⟨_, _, rfl, run_takeDeferred hd8, ?_⟩⟩
          have hc6 := put_cell (.deferred none) (show ((W7.setCell ⟨g6, 0, none⟩ (.string ⟨#[]⟩)).setCell ⟨g7, 0, none⟩ (.int .i64 0)).cell? ⟨g6, 0, none⟩ = _ from blk_cell (blk_far (blk1 BKg6.out _) Hne67.out _) 0) hD6
          have hc7 := put_cell (.deferred none) (show ((W7.setCell ⟨g6, 0, none⟩ (.string ⟨#[]⟩)).setCell ⟨g7, 0, none⟩ (.int .i64 0)).cell? ⟨g7, 0, none⟩ = _ from blk_cell (blk1 (blk_far BKg7.out Hne67.out.symm _) _) 0) hD7
          have hf8 : Frm (fun q => q = g6 ∨ q = g7 ∨ q = D) W7 (((W7.setCell ⟨g6, 0, none⟩ (.string ⟨#[]⟩)).setCell ⟨g7, 0, none⟩ (.int .i64 0)).putObj D (.deferred none)) :=
            (((Frm.refl _ W7).setCell (p := ⟨g6, 0, none⟩) (.inl (.inl rfl)) _).setCell (p := ⟨g7, 0, none⟩) (.inl (.inr (.inl rfl))) _).trans (Frm.of_grown (grownBy_putObj' _ _ _) (fun q hq => .inl (.inr (.inr (Option.some.inj hq).symm))))
          have hf9 := HF7.out.then_ hf8 (fun q hq => by right; rcases hq with rfl | rfl | rfl <;> omega)
          refine ⟨.tuple #[.string ⟨#[]⟩, .int .i64 0], ?_, rfl, ?_, hf9⟩
          · simp [results, Try.f14, go_sem, hc6, hc7]
          · refine ghost_last HG.out hk hf9 (fun cs' hcs' => ?_) (HS7.out.same (fun q hq hlt => hf8.block q hlt (by rintro (rfl | rfl | rfl) <;> omega)) (fun q hq => ⟨by omega, Nat.lt_of_lt_of_le hq.2 hf8.size⟩))
            rw [HP.out] at hcs'
            simp only [Option.some.injEq, Obj.cells.injEq] at hcs'
            obtain ⟨rfl, _, _⟩ := hcs'
            exact (hf8.block p (blk_lt HP7.out) (by rintro (rfl | rfl | rfl) <;> omega)).trans HP7.out
      case stop =>
        rintro D c pre W hD hp ⟨rfl, hu, hF, hg6, hg7⟩ hd
        have BN3 := Aside0.mk (hF.blk BKg3.out (by have := Hne36.out; have := Hne37.out; omega)); clear BKg3 hcg3_0 hfg3_0; clear BKg6 hcg6_0 hfg6_0; clear BKg7 hcg7_0 hfg7_0; have BKg3 := BN3; clear BN3; have BKg6 := Aside0.mk hg6; have BKg7 := Aside0.mk hg7; clear hg6 hg7; have hcg3_0 := blk_cell BKg3.out 0; have hfg3_0 := blk_frozen BKg3.out 0; simp only [List.getElem?_toArray, List.getElem?_cons_zero, List.getElem?_cons_succ] at hcg3_0; have hcg6_0 := blk_cell BKg6.out 0; have hfg6_0 := blk_frozen BKg6.out 0; simp only [List.getElem?_toArray, List.getElem?_cons_zero, List.getElem?_cons_succ] at hcg6_0; have hcg7_0 := blk_cell BKg7.out 0; have hfg7_0 := blk_frozen BKg7.out 0; simp only [List.getElem?_toArray, List.getElem?_cons_zero, List.getElem?_cons_succ] at hcg7_0; have hs7 := fun v => (World.cell?_setCell_far W ⟨g6, 0, none⟩ ⟨g7, 0, none⟩ v Hne67.out).trans hcg7_0
        have hD6 : g6 ≠ D := Nat.ne_of_lt (Nat.lt_of_lt_of_le HS2.out.1 hD)
        have hD7 : g7 ≠ D := Nat.ne_of_lt (Nat.lt_of_lt_of_le HS2.out.2 hD)
        go_wp2_with (fail)
        rw [HE.out, seesP_prefix hp hu]
        refine ⟨by simp, .inl ⟨_, _, rfl, run_takeDeferred hd, ?_⟩⟩
        have hc4 := put_cell (.deferred none) hcg6_0 hD6
        have hc5 := put_cell (.deferred none) hcg7_0 hD7
        have hw : Below w.heap.size w W := HB.out.trans (hF.below HB.out.size (by rintro k (rfl | rfl); exact GEg6.out; exact GEg7.out))
        have hw' := below_put hw hw.size (Nat.le_trans HB.out.size hD) (.deferred none)
        have hel : seesL (writtenB ws) ls (k : Int) l = ls := by simp [seesL, HE.out, seesP_prefix hp hu, hu]
        rw [hel]
        refine ⟨.tuple #[.string (seesP (writtenB ws) pre).1, .int .i64 (seesP (writtenB ws) pre).2], ?_, rfl, (HG.out.same (fun k _ hk => hw'.block k hk)).mono (fun _ h => .inl h), Frm.of_below hw' _⟩
        simp [results, Try.f14, go_sem, hc4, hc5]
    · have hb1 : (ckFrom none l != 0) = true := by simp [hck]
      have HE := Aside0.mk (show seesR (writtenB ws) ls node l = (⟨#[]⟩, ckFrom none l) by simp [seesR, hn, hck])
      have HEL := Aside0.mk (show seesL (writtenB ws) ls node l = ls by simp [seesL, HE.out, hck])
      have HCK := Aside0.mk hck
      clear hck
      go_enter Try.func14, Try.ntmps14
      go_wp2_with (first | ((with_reducible refine gate_dst (N := 3) rfl ?_); refine box_event ?hg (N := 3) ?hd (cs := #[.pointer (some ⟨p, 0, none⟩)]) (t := 24) ?hr ?_; (case hd => rfl); (case hg => rfl); (case hr => first | (go_simp; done) | (go_simp; rfl)); intro g3 hg W_g3 hbox hb; have n0_ := Aside0.mk (below_step (by repeat (first | (with_reducible first | exact HB.out | apply below_alloc | apply pw_below_drewN | apply below_drew1) | exact HB.out)) hb); have GEg3 := Aside0.mk (by rw [hg]; exact (below_size (by repeat (first | (with_reducible first | exact HB.out | apply below_alloc | apply pw_below_drewN | apply below_drew1) | exact HB.out))) : w.heap.size ≤ g3); have GNg3 := Aside0.mk hg; clear HB; have HB := n0_; have BKg3 := Aside0.mk hbox; have hcg3_0 := blk_cell BKg3.out 0; have hfg3_0 := blk_frozen BKg3.out 0; simp only [List.getElem?_toArray, List.getElem?_cons_zero, List.getElem?_cons_succ] at hcg3_0; clear n0_ hb hbox hg) | ((with_reducible refine gate_dst (N := 6) rfl ?_); refine box_event ?hg (N := 6) ?hd (cs := #[.string (⟨#[]⟩ : ByteArray)]) (t := 9) ?hr ?_; (case hd => rfl); (case hg => rfl); (case hr => first | (go_simp; done) | (go_simp; rfl)); intro g6 hg W_g6 hbox hb; have n0_ := Aside0.mk (below_step (by repeat (first | (with_reducible first | exact HB.out | apply below_alloc | apply pw_below_drewN | apply below_drew1) | exact HB.out)) hb); have GEg6 := Aside0.mk (by rw [hg]; exact (below_size (by repeat (first | (with_reducible first | exact HB.out | apply below_alloc | apply pw_below_drewN | apply below_drew1) | exact HB.out))) : w.heap.size ≤ g6); have GNg6 := Aside0.mk hg; clear HB; have HB := n0_; have BKg6 := Aside0.mk hbox; have hcg6_0 := blk_cell BKg6.out 0; have hfg6_0 := blk_frozen BKg6.out 0; simp only [List.getElem?_toArray, List.getElem?_cons_zero, List.getElem?_cons_succ] at hcg6_0; have Hne36 := Aside0.mk (show g3 ≠ g6 by rw [hg]; exact Nat.ne_of_lt (blk_lt BKg3.out)); have n1_ := Aside0.mk (blk_below BKg3.out hb); clear BKg3 hcg3_0 hfg3_0; have BKg3 := n1_; clear n1_; have hcg3_0 := blk_cell BKg3.out 0; have hfg3_0 := blk_frozen BKg3.out 0; simp only [List.getElem?_toArray, List.getElem?_cons_zero, List.getElem?_cons_succ] at hcg3_0; clear n0_ hb hbox hg) | ((with_reducible refine gate_dst (N := 7) rfl ?_); refine box_event ?hg (N := 7) ?hd (cs := #[.int .i64 0]) (t := 40) ?hr ?_; (case hd => rfl); (case hg => rfl); (case hr => first | (go_simp; done) | (go_simp; rfl)); intro g7 hg W_g7 hbox hb; have n0_ := Aside0.mk (below_step (by repeat (first | (with_reducible first | exact HB.out | apply below_alloc | apply pw_below_drewN | apply below_drew1) | exact HB.out)) hb); have GEg7 := Aside0.mk (by rw [hg]; exact (below_size (by repeat (first | (with_reducible first | exact HB.out | apply below_alloc | apply pw_below_drewN | apply below_drew1) | exact HB.out))) : w.heap.size ≤ g7); have GNg7 := Aside0.mk hg; clear HB; have HB := n0_; have BKg7 := Aside0.mk hbox; have hcg7_0 := blk_cell BKg7.out 0; have hfg7_0 := blk_frozen BKg7.out 0; simp only [List.getElem?_toArray, List.getElem?_cons_zero, List.getElem?_cons_succ] at hcg7_0; have Hne37 := Aside0.mk (show g3 ≠ g7 by rw [hg]; exact Nat.ne_of_lt (blk_lt BKg3.out)); have Hne67 := Aside0.mk (show g6 ≠ g7 by rw [hg]; exact Nat.ne_of_lt (blk_lt BKg6.out)); have n1_ := Aside0.mk (blk_below BKg3.out hb); clear BKg3 hcg3_0 hfg3_0; have BKg3 := n1_; clear n1_; have hcg3_0 := blk_cell BKg3.out 0; have hfg3_0 := blk_frozen BKg3.out 0; simp only [List.getElem?_toArray, List.getElem?_cons_zero, List.getElem?_cons_succ] at hcg3_0; have n1_ := Aside0.mk (blk_below BKg6.out hb); clear BKg6 hcg6_0 hfg6_0; have BKg6 := n1_; clear n1_; have hcg6_0 := blk_cell BKg6.out 0; have hfg6_0 := blk_frozen BKg6.out 0; simp only [List.getElem?_toArray, List.getElem?_cons_zero, List.getElem?_cons_succ] at hcg6_0; clear n0_ hb hbox hg) | (go_at_call 23; (with_reducible refine (ghost_isNode.calls _ _ _ (isNode_f _)).mono ?_); rintro e1 w1 ⟨rfl, hb0⟩; have hb := Drawn0.below hb0; have n0_ := Aside0.mk (below_step (by repeat (first | (with_reducible first | exact HB.out | apply below_alloc | apply pw_below_drewN | apply below_drew1) | exact HB.out)) hb); clear HB; have HB := n0_; clear n0_; have n1_ := Aside0.mk (blk_below BKg3.out hb); clear BKg3 hcg3_0 hfg3_0; have BKg3 := n1_; clear n1_; have hcg3_0 := blk_cell BKg3.out 0; have hfg3_0 := blk_frozen BKg3.out 0; simp only [List.getElem?_toArray, List.getElem?_cons_zero, List.getElem?_cons_succ] at hcg3_0; have n1_ := Aside0.mk (blk_below BKg6.out hb); clear BKg6 hcg6_0 hfg6_0; have BKg6 := n1_; clear n1_; have hcg6_0 := blk_cell BKg6.out 0; have hfg6_0 := blk_frozen BKg6.out 0; simp only [List.getElem?_toArray, List.getElem?_cons_zero, List.getElem?_cons_succ] at hcg6_0; have n1_ := Aside0.mk (blk_below BKg7.out hb); clear BKg7 hcg7_0 hfg7_0; have BKg7 := n1_; clear n1_; have hcg7_0 := blk_cell BKg7.out 0; have hfg7_0 := blk_frozen BKg7.out 0; simp only [List.getElem?_toArray, List.getElem?_cons_zero, List.getElem?_cons_succ] at hcg7_0; clear hb hb0; have hs7 := fun v => (World.cell?_setCell_far w1 ⟨g6, 0, none⟩ ⟨g7, 0, none⟩ v Hne67.out).trans hcg7_0) | (go_at_call 26; (with_reducible refine (mergeCheck_calls A c l _ (Kd.C_below HR.out HB.out) HC.out).mono ?_); clear hs7; rintro e2 w2 ⟨rfl, hb⟩; have n0_ := Aside0.mk (below_step (by repeat (first | (with_reducible first | exact HB.out | apply below_alloc | apply pw_below_drewN | apply below_drew1) | exact HB.out)) hb); clear HB; have HB := n0_; clear n0_; have n1_ := Aside0.mk (blk_below BKg3.out hb); clear BKg3 hcg3_0 hfg3_0; have BKg3 := n1_; clear n1_; have hcg3_0 := blk_cell BKg3.out 0; have hfg3_0 := blk_frozen BKg3.out 0; simp only [List.getElem?_toArray, List.getElem?_cons_zero, List.getElem?_cons_succ] at hcg3_0; have n1_ := Aside0.mk (blk_below BKg6.out hb); clear BKg6 hcg6_0 hfg6_0; have BKg6 := n1_; clear n1_; have hcg6_0 := blk_cell BKg6.out 0; have hfg6_0 := blk_frozen BKg6.out 0; simp only [List.getElem?_toArray, List.getElem?_cons_zero, List.getElem?_cons_succ] at hcg6_0; have n1_ := Aside0.mk (blk_below BKg7.out hb); clear BKg7 hcg7_0 hfg7_0; have BKg7 := n1_; clear n1_; have hcg7_0 := blk_cell BKg7.out 0; have hfg7_0 := blk_frozen BKg7.out 0; simp only [List.getElem?_toArray, List.getElem?_cons_zero, List.getElem?_cons_succ] at hcg7_0; clear hb; have hs7 := fun v => (World.cell?_setCell_far w2 ⟨g6, 0, none⟩ ⟨g7, 0, none⟩ v Hne67.out).trans hcg7_0))
      have hc6 : ((w2.setCell ⟨g6, 0, none⟩ (.string ⟨#[]⟩)).setCell ⟨g7, 0, none⟩ (.int .i64 (ckFrom none l))).cell? ⟨g6, 0, none⟩ = some (.string ⟨#[]⟩) := blk_cell (blk_far (blk1 BKg6.out _) Hne67.out _) 0; have hc7 : ((w2.setCell ⟨g6, 0, none⟩ (.string ⟨#[]⟩)).setCell ⟨g7, 0, none⟩ (.int .i64 (ckFrom none l))).cell? ⟨g7, 0, none⟩ = some (.int .i64 (ckFrom none l)) := blk_cell (blk1 (blk_far BKg7.out Hne67.out.symm _) _) 0; have hbw : Below w.heap.size w ((w2.setCell ⟨g6, 0, none⟩ (.string ⟨#[]⟩)).setCell ⟨g7, 0, none⟩ (.int .i64 (ckFrom none l))) := below_set (below_set HB.out GEg6.out) GEg7.out; refine ⟨rfl, .tuple #[.string ⟨#[]⟩, .int .i64 (ckFrom none l)], ?_, ?_, ?_, Frm.of_below hbw _⟩; (simp [results, Try.f14, go_sem, hc6, hc7]); (rw [HE.out]); rw [HEL.out]; exact (HG.out.same (fun k _ hk => hbw.block k hk)).mono (fun _ h => .inl h)
end Go.Proofs.Ytplnofodmgddmaa
