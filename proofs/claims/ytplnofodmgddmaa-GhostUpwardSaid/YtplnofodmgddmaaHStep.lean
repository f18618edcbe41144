import Derived.Test.YtplnofodmgddmaaHInv
/- The law's step: one call at both. -/
set_option linter.unusedVariables false
set_option linter.unusedSimpArgs false
namespace Go.Proofs.Ytplnofodmgddmaa
open Go.RowKit Go.Proofs.YtplnofodmgddmaaW.PrintWords Go.Proofs.YtplnofodmgddmaaW.PrintLast Go.Proofs.YtplnofodmgddmaaW.PrintMore
attribute [local go_sem] Oper.semAt_some

theorem frm_undrew {S : Nat → Prop} {W w' : World} (h : Frm S W.drew w') : Frm S W w' := ⟨h.os, h.tape, h.output, h.size, h.block⟩
def opV (o : GOp) (A : Option Addr) (c : Nat) : Value := .agg #[.int .i64 o.f0, .int .i64 o.f1, .string o.f2.f0, .int .i64 o.f2.f1.f0, .int .i64 o.f2.f1.f1, .string o.f2.f2, .bool o.f2.f3, .slice A o.f3.length c, .bool o.f4]
set_option maxHeartbeats 2000000 in
theorem step_calls (w0 w : World) (okp okq : Nat → Prop) (p q : Nat) (ws : List Ent) (ls : Nat → List Ent) (N : Nat) (o : GOp) (A : Option Addr) (c : Nat) (hB0 : Below w0.heap.size w0 w) (hD : Duo w0.heap.size w okp okq p q ws ls) (hI : Inv N 16777216 ws ls)
    (hN : N < 16777216) (hl : o.f3.length < 16777216) (hr : Kd.C kEnt w A o.f3.length o.f3) (hc : o.f3.length ≤ c) (hA : ∀ ad, A = some ad → 0 < o.f3.length → ad.block < w0.heap.size) :
    Calls Try.prog 8 #[.pointer (some ⟨p, 0, none⟩), .pointer (some ⟨q, 0, none⟩), opV o A c] w fun r w' => r = .returned (.bool true) ∧ StepDone w0.heap.size w w' okp okq p q (opWs ws o) (opLs ws ls o) := by
  have HB0 := Aside0.mk hB0
  have HD := Aside0.mk hD
  have HI := Aside0.mk hI
  have HL := Aside0.mk hl
  have HR := Aside0.mk hr
  have HC := Aside0.mk hc
  have HA := Aside0.mk hA
  clear hB0 hD hI hr hc hA
  have HB := Aside0.mk (Below.refl w.heap.size w)
  have huE := Try.underlying31
  have huO := Try.underlying34
  unfold opV
  by_cases h0 : o.f0 = 0
  · have hw : opWs ws o = wroteW ws o.f2 := by rw [opWs, if_pos h0]
    have hlo : opLs ws ls o = ls := by rw [opLs, if_neg (by omega)]
    rw [hw, hlo]
    have h0b : (o.f0 == 0) = true := by simp [h0]
    clear hw hlo
    go_enter Try.func8, Try.ntmps8
    go_upto_region 3 with (first | ((with_reducible refine gate_dst (N := 5) rfl ?_); refine box_event ?hg (N := 5) ?hd (cs := #[.int .i64 o.f0, .int .i64 o.f1, .string o.f2.f0, .int .i64 o.f2.f1.f0, .int .i64 o.f2.f1.f1, .string o.f2.f2, .bool o.f2.f3, .slice A o.f3.length c, .bool o.f4]) (t := 34) ?hr ?_; (case hd => rfl); (case hg => rfl); (case hr => first | (go_simp; done) | (go_simp; rfl)); intro g5 hg W_g5 hbox hb; have n0_ := Aside0.mk (below_step (by repeat (first | (with_reducible first | exact HB.out | apply below_alloc | apply pw_below_drewN | apply below_drew1) | exact HB.out)) hb); have GEg5 := Aside0.mk (by rw [hg]; exact (below_size (by repeat (first | (with_reducible first | exact HB.out | apply below_alloc | apply pw_below_drewN | apply below_drew1) | exact HB.out))) : w.heap.size ≤ g5); have GNg5 := Aside0.mk hg; clear HB; have HB := n0_; have BKg5 := Aside0.mk hbox; have hcg5_0 := blk_cell BKg5.out 0; have hfg5_0 := blk_frozen BKg5.out 0; have hcg5_1 := blk_cell BKg5.out 1; have hfg5_1 := blk_frozen BKg5.out 1; have hcg5_2 := blk_cell BKg5.out 2; have hfg5_2 := blk_frozen BKg5.out 2; have hcg5_3 := blk_cell BKg5.out 3; have hfg5_3 := blk_frozen BKg5.out 3; have hcg5_4 := blk_cell BKg5.out 4; have hfg5_4 := blk_frozen BKg5.out 4; have hcg5_5 := blk_cell BKg5.out 5; have hfg5_5 := blk_frozen BKg5.out 5; have hcg5_6 := blk_cell BKg5.out 6; have hfg5_6 := blk_frozen BKg5.out 6; have hcg5_7 := blk_cell BKg5.out 7; have hfg5_7 := blk_frozen BKg5.out 7; have hcg5_8 := blk_cell BKg5.out 8; have hfg5_8 := blk_frozen BKg5.out 8; simp only [List.getElem?_toArray, List.getElem?_cons_zero, List.getElem?_cons_succ] at hcg5_0 hcg5_1 hcg5_2 hcg5_3 hcg5_4 hcg5_5 hcg5_6 hcg5_7 hcg5_8; clear n0_ hb hbox hg))
    have HD5 := Aside0.mk (HD.out.below HB.out)
    have HB5 := Aside0.mk (below_step HB0.out HB.out)
    have hg5 := GEg5.out
    have hnp : ¬ okp g5 := fun h => by have := (HD.out.kp _ h).2; omega
    have hnq : ¬ okq g5 := fun h => by have := (HD.out.kq _ h).2; omega
    have HNP := Aside0.mk hnp
    have HNQ := Aside0.mk hnq
    have HBW := HB
    clear hnp hnq hg5 HB
    refine wp_quietly ?_
    go_region_with (first | (go_at_call 13; (refine (wrote_calls p ws ls okp o.f2 _ (by exact HD5.out.g.same (fun _ _ _ => rfl))).mono ?_); rintro e1 w1 ⟨rfl, hG1, hf0⟩; have hf := frm_undrew hf0; have n1_ := Aside0.mk (hf.blk BKg5.out HNP.out); clear BKg5 hcg5_0 hfg5_0 hcg5_1 hfg5_1 hcg5_2 hfg5_2 hcg5_3 hfg5_3 hcg5_4 hfg5_4 hcg5_5 hfg5_5 hcg5_6 hfg5_6 hcg5_7 hfg5_7 hcg5_8 hfg5_8; have BKg5 := n1_; clear n1_; have hcg5_0 := blk_cell BKg5.out 0; have hfg5_0 := blk_frozen BKg5.out 0; have hcg5_1 := blk_cell BKg5.out 1; have hfg5_1 := blk_frozen BKg5.out 1; have hcg5_2 := blk_cell BKg5.out 2; have hfg5_2 := blk_frozen BKg5.out 2; have hcg5_3 := blk_cell BKg5.out 3; have hfg5_3 := blk_frozen BKg5.out 3; have hcg5_4 := blk_cell BKg5.out 4; have hfg5_4 := blk_frozen BKg5.out 4; have hcg5_5 := blk_cell BKg5.out 5; have hfg5_5 := blk_frozen BKg5.out 5; have hcg5_6 := blk_cell BKg5.out 6; have hfg5_6 := blk_frozen BKg5.out 6; have hcg5_7 := blk_cell BKg5.out 7; have hfg5_7 := blk_frozen BKg5.out 7; have hcg5_8 := blk_cell BKg5.out 8; have hfg5_8 := blk_frozen BKg5.out 8; simp only [List.getElem?_toArray, List.getElem?_cons_zero, List.getElem?_cons_succ] at hcg5_0 hcg5_1 hcg5_2 hcg5_3 hcg5_4 hcg5_5 hcg5_6 hcg5_7 hcg5_8; have HF1 := Aside0.mk hf; have HG1 := Aside0.mk hG1; clear hf hf0 hG1) | (go_at_call 17; (refine (refwrote_calls q ws ls okq o.f2 w0 _ (by exact HB5.out.trans (HF1.out.below HB5.out.size (fun k hk => (HD5.out.kp k hk).1))) (by exact HD5.out.d.same (fun k hk hlt => HF1.out.block k hlt (fun h => HD5.out.ap k h hk))) (fun k hk => (HD5.out.kq k hk).1) (by have := HI.out.n; omega)).mono ?_); rintro e2 w2 ⟨rfl, hD2, hf⟩; have n1_ := Aside0.mk (hf.blk BKg5.out HNQ.out); clear BKg5 hcg5_0 hfg5_0 hcg5_1 hfg5_1 hcg5_2 hfg5_2 hcg5_3 hfg5_3 hcg5_4 hfg5_4 hcg5_5 hfg5_5 hcg5_6 hfg5_6 hcg5_7 hfg5_7 hcg5_8 hfg5_8; have BKg5 := n1_; clear n1_; have hcg5_0 := blk_cell BKg5.out 0; have hfg5_0 := blk_frozen BKg5.out 0; have hcg5_1 := blk_cell BKg5.out 1; have hfg5_1 := blk_frozen BKg5.out 1; have hcg5_2 := blk_cell BKg5.out 2; have hfg5_2 := blk_frozen BKg5.out 2; have hcg5_3 := blk_cell BKg5.out 3; have hfg5_3 := blk_frozen BKg5.out 3; have hcg5_4 := blk_cell BKg5.out 4; have hfg5_4 := blk_frozen BKg5.out 4; have hcg5_5 := blk_cell BKg5.out 5; have hfg5_5 := blk_frozen BKg5.out 5; have hcg5_6 := blk_cell BKg5.out 6; have hfg5_6 := blk_frozen BKg5.out 6; have hcg5_7 := blk_cell BKg5.out 7; have hfg5_7 := blk_frozen BKg5.out 7; have hcg5_8 := blk_cell BKg5.out 8; have hfg5_8 := blk_frozen BKg5.out 8; simp only [List.getElem?_toArray, List.getElem?_cons_zero, List.getElem?_cons_succ] at hcg5_0 hcg5_1 hcg5_2 hcg5_3 hcg5_4 hcg5_5 hcg5_6 hcg5_7 hcg5_8; have HF2 := Aside0.mk hf; have HD2 := Aside0.mk hD2; clear hf hD2))
    all_goals
      go_wp2
      go_ret
      refine ⟨rfl, stepDone HD.out HB0.out.size HBW.out HF1.out HG1.out (fun k hk => .inl hk) HF2.out HD2.out (fun k hk => hk) (Frm.refl _ _)⟩
  have h0b : (o.f0 == 0) = false := by simp [h0]
  by_cases h1 : o.f0 = 1
  · have hw : opWs ws o = ws := by rw [opWs, if_neg h0]
    have hlo : opLs ws ls o = ls := by rw [opLs, if_neg (by omega)]
    rw [hw, hlo]
    have h1b : (o.f0 == 1) = true := by simp [h1]
    have HH0 := Aside0.mk h0
    clear hw hlo h0
    go_enter Try.func8, Try.ntmps8
    go_upto_region 5 with (first | ((with_reducible refine gate_dst (N := 5) rfl ?_); refine box_event ?hg (N := 5) ?hd (cs := #[.int .i64 o.f0, .int .i64 o.f1, .string o.f2.f0, .int .i64 o.f2.f1.f0, .int .i64 o.f2.f1.f1, .string o.f2.f2, .bool o.f2.f3, .slice A o.f3.length c, .bool o.f4]) (t := 34) ?hr ?_; (case hd => rfl); (case hg => rfl); (case hr => first | (go_simp; done) | (go_simp; rfl)); intro g5 hg W_g5 hbox hb; have n0_ := Aside0.mk (below_step (by repeat (first | (with_reducible first | exact HB.out | apply below_alloc | apply pw_below_drewN | apply below_drew1) | exact HB.out)) hb); have GEg5 := Aside0.mk (by rw [hg]; exact (below_size (by repeat (first | (with_reducible first | exact HB.out | apply below_alloc | apply pw_below_drewN | apply below_drew1) | exact HB.out))) : w.heap.size ≤ g5); have GNg5 := Aside0.mk hg; clear HB; have HB := n0_; have BKg5 := Aside0.mk hbox; have hcg5_0 := blk_cell BKg5.out 0; have hfg5_0 := blk_frozen BKg5.out 0; have hcg5_1 := blk_cell BKg5.out 1; have hfg5_1 := blk_frozen BKg5.out 1; have hcg5_2 := blk_cell BKg5.out 2; have hfg5_2 := blk_frozen BKg5.out 2; have hcg5_3 := blk_cell BKg5.out 3; have hfg5_3 := blk_frozen BKg5.out 3; have hcg5_4 := blk_cell BKg5.out 4; have hfg5_4 := blk_frozen BKg5.out 4; have hcg5_5 := blk_cell BKg5.out 5; have hfg5_5 := blk_frozen BKg5.out 5; have hcg5_6 := blk_cell BKg5.out 6; have hfg5_6 := blk_frozen BKg5.out 6; have hcg5_7 := blk_cell BKg5.out 7; have hfg5_7 := blk_frozen BKg5.out 7; have hcg5_8 := blk_cell BKg5.out 8; have hfg5_8 := blk_frozen BKg5.out 8; simp only [List.getElem?_toArray, List.getElem?_cons_zero, List.getElem?_cons_succ] at hcg5_0 hcg5_1 hcg5_2 hcg5_3 hcg5_4 hcg5_5 hcg5_6 hcg5_7 hcg5_8; clear n0_ hb hbox hg))
    have HD5 := Aside0.mk (HD.out.below HB.out)
    have HBW := HB
    clear HB
    refine wp_quietly ?_
    go_region_with (first | (go_at_call 16; (refine (written_calls p ws ls okp o.f2 _ (by exact HD5.out.g.same (fun _ _ _ => rfl))).mono ?_); rintro e1 w1 ⟨rfl, hb0⟩; have hb := below_undrew hb0; have n1_ := Aside0.mk (blk_below BKg5.out hb); clear BKg5 hcg5_0 hfg5_0 hcg5_1 hfg5_1 hcg5_2 hfg5_2 hcg5_3 hfg5_3 hcg5_4 hfg5_4 hcg5_5 hfg5_5 hcg5_6 hfg5_6 hcg5_7 hfg5_7 hcg5_8 hfg5_8; have BKg5 := n1_; clear n1_; have hcg5_0 := blk_cell BKg5.out 0; have hfg5_0 := blk_frozen BKg5.out 0; have hcg5_1 := blk_cell BKg5.out 1; have hfg5_1 := blk_frozen BKg5.out 1; have hcg5_2 := blk_cell BKg5.out 2; have hfg5_2 := blk_frozen BKg5.out 2; have hcg5_3 := blk_cell BKg5.out 3; have hfg5_3 := blk_frozen BKg5.out 3; have hcg5_4 := blk_cell BKg5.out 4; have hfg5_4 := blk_frozen BKg5.out 4; have hcg5_5 := blk_cell BKg5.out 5; have hfg5_5 := blk_frozen BKg5.out 5; have hcg5_6 := blk_cell BKg5.out 6; have hfg5_6 := blk_frozen BKg5.out 6; have hcg5_7 := blk_cell BKg5.out 7; have hfg5_7 := blk_frozen BKg5.out 7; have hcg5_8 := blk_cell BKg5.out 8; have hfg5_8 := blk_frozen BKg5.out 8; simp only [List.getElem?_toArray, List.getElem?_cons_zero, List.getElem?_cons_succ] at hcg5_0 hcg5_1 hcg5_2 hcg5_3 hcg5_4 hcg5_5 hcg5_6 hcg5_7 hcg5_8; have HB1 := Aside0.mk hb; clear hb hb0) | (go_at_call 18; (refine (refwritten_calls q ws ls w0.heap.size okq o.f2 _ (by exact (HD5.out.below HB1.out).d)).mono ?_); rintro e2 w2 ⟨rfl, hb⟩; have n1_ := Aside0.mk (blk_below BKg5.out hb); clear BKg5 hcg5_0 hfg5_0 hcg5_1 hfg5_1 hcg5_2 hfg5_2 hcg5_3 hfg5_3 hcg5_4 hfg5_4 hcg5_5 hfg5_5 hcg5_6 hfg5_6 hcg5_7 hfg5_7 hcg5_8 hfg5_8; have BKg5 := n1_; clear n1_; have hcg5_0 := blk_cell BKg5.out 0; have hfg5_0 := blk_frozen BKg5.out 0; have hcg5_1 := blk_cell BKg5.out 1; have hfg5_1 := blk_frozen BKg5.out 1; have hcg5_2 := blk_cell BKg5.out 2; have hfg5_2 := blk_frozen BKg5.out 2; have hcg5_3 := blk_cell BKg5.out 3; have hfg5_3 := blk_frozen BKg5.out 3; have hcg5_4 := blk_cell BKg5.out 4; have hfg5_4 := blk_frozen BKg5.out 4; have hcg5_5 := blk_cell BKg5.out 5; have hfg5_5 := blk_frozen BKg5.out 5; have hcg5_6 := blk_cell BKg5.out 6; have hfg5_6 := blk_frozen BKg5.out 6; have hcg5_7 := blk_cell BKg5.out 7; have hfg5_7 := blk_frozen BKg5.out 7; have hcg5_8 := blk_cell BKg5.out 8; have hfg5_8 := blk_frozen BKg5.out 8; simp only [List.getElem?_toArray, List.getElem?_cons_zero, List.getElem?_cons_succ] at hcg5_0 hcg5_1 hcg5_2 hcg5_3 hcg5_4 hcg5_5 hcg5_6 hcg5_7 hcg5_8; have HB2 := Aside0.mk hb; clear hb))
    all_goals
      go_wp2
      go_ret
      refine ⟨by (show Ending.returned (Value.bool (writtenB ws o.f2 == decide (o.f2 ∈ ws))) = _; rw [written_eq HI.out.d]; simp), stepSame HD.out (HBW.out.trans ((HB1.out.trans (HB2.out.mono HB1.out.size)).mono HBW.out.size))⟩
  have h1b : (o.f0 == 1) = false := by simp [h1]
  by_cases h2 : o.f0 = 2
  · have hw : opWs ws o = ws := by rw [opWs, if_neg h0]
    have hlo : opLs ws ls o = seesL (writtenB ws) ls o.f1 o.f3 := by rw [opLs, if_pos h2]
    rw [hw, hlo]
    have h2b : (o.f0 == 2) = true := by simp [h2]
    have HH0 := Aside0.mk h0
    clear hw hlo h0 h1
    go_enter Try.func8, Try.ntmps8
    go_wp2_with (first | ((with_reducible refine gate_dst (N := 5) rfl ?_); refine box_event ?hg (N := 5) ?hd (cs := #[.int .i64 o.f0, .int .i64 o.f1, .string o.f2.f0, .int .i64 o.f2.f1.f0, .int .i64 o.f2.f1.f1, .string o.f2.f2, .bool o.f2.f3, .slice A o.f3.length c, .bool o.f4]) (t := 34) ?hr ?_; (case hd => rfl); (case hg => rfl); (case hr => first | (go_simp; done) | (go_simp; rfl)); intro g5 hg W_g5 hbox hb; have n0_ := Aside0.mk (below_step (by repeat (first | (with_reducible first | exact HB.out | apply below_alloc | apply pw_below_drewN | apply below_drew1) | exact HB.out)) hb); have GEg5 := Aside0.mk (by rw [hg]; exact (below_size (by repeat (first | (with_reducible first | exact HB.out | apply below_alloc | apply pw_below_drewN | apply below_drew1) | exact HB.out))) : w.heap.size ≤ g5); have GNg5 := Aside0.mk hg; clear HB; have HB := n0_; have BKg5 := Aside0.mk hbox; have hcg5_0 := blk_cell BKg5.out 0; have hfg5_0 := blk_frozen BKg5.out 0; have hcg5_1 := blk_cell BKg5.out 1; have hfg5_1 := blk_frozen BKg5.out 1; have hcg5_2 := blk_cell BKg5.out 2; have hfg5_2 := blk_frozen BKg5.out 2; have hcg5_3 := blk_cell BKg5.out 3; have hfg5_3 := blk_frozen BKg5.out 3; have hcg5_4 := blk_cell BKg5.out 4; have hfg5_4 := blk_frozen BKg5.out 4; have hcg5_5 := blk_cell BKg5.out 5; have hfg5_5 := blk_frozen BKg5.out 5; have hcg5_6 := blk_cell BKg5.out 6; have hfg5_6 := blk_frozen BKg5.out 6; have hcg5_7 := blk_cell BKg5.out 7; have hfg5_7 := blk_frozen BKg5.out 7; have hcg5_8 := blk_cell BKg5.out 8; have hfg5_8 := blk_frozen BKg5.out 8; simp only [List.getElem?_toArray, List.getElem?_cons_zero, List.getElem?_cons_succ] at hcg5_0 hcg5_1 hcg5_2 hcg5_3 hcg5_4 hcg5_5 hcg5_6 hcg5_7 hcg5_8; clear n0_ hb hbox hg))
    refine (tidelinelaw19_lent.calls A c o.f3 _ _ (Kd.C_below HR.out HB.out) HC.out (lent_f o.f3 (Nat.lt_trans HL.out (by omega)))).mono ?_
    rintro e1 w1 ⟨vx, rfl, hRx, hb⟩
    have HBx := HB
    have HRx := Aside0.mk (own_only hRx)
    have n0_ := Aside0.mk (below_step (by repeat (first | (with_reducible first | exact HB.out | apply below_alloc | apply pw_below_drewN | apply below_drew1) | exact HB.out)) hb); clear HB; have HB := n0_; clear n0_
    have n1_ := Aside0.mk (blk_below BKg5.out hb); clear BKg5 hcg5_0 hfg5_0 hcg5_1 hfg5_1 hcg5_2 hfg5_2 hcg5_3 hfg5_3 hcg5_4 hfg5_4 hcg5_5 hfg5_5 hcg5_6 hfg5_6 hcg5_7 hfg5_7 hcg5_8 hfg5_8; have BKg5 := n1_; clear n1_; have hcg5_0 := blk_cell BKg5.out 0; have hfg5_0 := blk_frozen BKg5.out 0; have hcg5_1 := blk_cell BKg5.out 1; have hfg5_1 := blk_frozen BKg5.out 1; have hcg5_2 := blk_cell BKg5.out 2; have hfg5_2 := blk_frozen BKg5.out 2; have hcg5_3 := blk_cell BKg5.out 3; have hfg5_3 := blk_frozen BKg5.out 3; have hcg5_4 := blk_cell BKg5.out 4; have hfg5_4 := blk_frozen BKg5.out 4; have hcg5_5 := blk_cell BKg5.out 5; have hfg5_5 := blk_frozen BKg5.out 5; have hcg5_6 := blk_cell BKg5.out 6; have hfg5_6 := blk_frozen BKg5.out 6; have hcg5_7 := blk_cell BKg5.out 7; have hfg5_7 := blk_frozen BKg5.out 7; have hcg5_8 := blk_cell BKg5.out 8; have hfg5_8 := blk_frozen BKg5.out 8; simp only [List.getElem?_toArray, List.getElem?_cons_zero, List.getElem?_cons_succ] at hcg5_0 hcg5_1 hcg5_2 hcg5_3 hcg5_4 hcg5_5 hcg5_6 hcg5_7 hcg5_8
    clear hb hRx
    obtain ⟨gx, cx, rfl, hgx, hgxl, _⟩ := Kd.R_form HRx.out (by simp)
    obtain ⟨_, hxc, hCx⟩ := Kd.R_reads' HRx.out
    have hxn : (o.f3 ++ [markE, behindE]).length = o.f3.length + 2 := by simp
    have hCt : Kd.C kEnt w1 (some ⟨gx, 0, none⟩) o.f3.length o.f3 := by
      have h := Kd.C_take hCx (m := o.f3.length) (by omega)
      rw [List.take_left'] at h
      · exact h
      · rfl
    have HCt := Aside0.mk hCt
    clear hCx hCt
    rw [hxn] at HRx ⊢
    have hcx : o.f3.length ≤ cx := by omega
    have hpk := HD.out.kp p HD.out.g.own
    have hqk := HD.out.kq q HD.out.d.own
    have hzB := HB.out.size
    have hzx := HBx.out.size
    have h5l := blk_lt BKg5.out
    have hg5 := GEg5.out
    have HD1 := Aside0.mk (HD.out.below HB.out)
    have HNP := Aside0.mk (show ¬ g5 = p by omega)
    have HXP := Aside0.mk (show gx ≠ p ∧ gx ≠ q ∧ w.heap.size ≤ gx ∧ gx < w1.heap.size from ⟨by omega, by omega, by omega, hgxl⟩)
    have HPQ := Aside0.mk (And.intro hpk hqk)
    have HNQ := Aside0.mk (show ¬ g5 = q by omega)
    have HBx1 := HB
    clear hpk hqk hzB hzx h5l hg5 HB
    go_upto_region 8 with (fail)
    refine wp_quietly ?_
    go_region_with (go_at_call 14; (refine (sees_calls p ws ls okp o.f1 (some ⟨gx, 0, none⟩) cx o.f3 _ (by exact HD1.out.g.same (fun _ _ _ => rfl)) HI.out.ck (fun i => Nat.lt_trans (HI.out.m i) (by omega)) (by exact Kd.C_drew HCt.out) hcx (Nat.lt_trans HL.out (by omega))).mono ?_); rintro e2 w2 ⟨rfl, hG2, hf0⟩; have hf := frm_undrew hf0; have n1_ := Aside0.mk (hf.blk BKg5.out HNP.out); clear BKg5 hcg5_0 hfg5_0 hcg5_1 hfg5_1 hcg5_2 hfg5_2 hcg5_3 hfg5_3 hcg5_4 hfg5_4 hcg5_5 hfg5_5 hcg5_6 hfg5_6 hcg5_7 hfg5_7 hcg5_8 hfg5_8; have BKg5 := n1_; clear n1_; have hcg5_0 := blk_cell BKg5.out 0; have hfg5_0 := blk_frozen BKg5.out 0; have hcg5_1 := blk_cell BKg5.out 1; have hfg5_1 := blk_frozen BKg5.out 1; have hcg5_2 := blk_cell BKg5.out 2; have hfg5_2 := blk_frozen BKg5.out 2; have hcg5_3 := blk_cell BKg5.out 3; have hfg5_3 := blk_frozen BKg5.out 3; have hcg5_4 := blk_cell BKg5.out 4; have hfg5_4 := blk_frozen BKg5.out 4; have hcg5_5 := blk_cell BKg5.out 5; have hfg5_5 := blk_frozen BKg5.out 5; have hcg5_6 := blk_cell BKg5.out 6; have hfg5_6 := blk_frozen BKg5.out 6; have hcg5_7 := blk_cell BKg5.out 7; have hfg5_7 := blk_frozen BKg5.out 7; have hcg5_8 := blk_cell BKg5.out 8; have hfg5_8 := blk_frozen BKg5.out 8; simp only [List.getElem?_toArray, List.getElem?_cons_zero, List.getElem?_cons_succ] at hcg5_0 hcg5_1 hcg5_2 hcg5_3 hcg5_4 hcg5_5 hcg5_6 hcg5_7 hcg5_8; have HF2 := Aside0.mk hf; have HG2 := Aside0.mk hG2; clear hf hf0 hG2)
    all_goals
      go_wp2_with (fail)
      have hR2 : Kd.C kEnt w2 A o.f3.length o.f3 := by
        have h1 := Kd.C_below HR.out HBx1.out
        exact C_same kEnt_flat h1 (fun ad e hn => HF2.out.block _ (C_lt kEnt_szpos h1 e hn) (fun hk => by have := HA.out ad e hn; have := HPQ.out.1.1; omega))
      refine (refsees_calls' q ws ls w0.heap.size okq o.f1 A c o.f3 _ HI.out.d (HD1.out.d.same (fun k hk hlt => HF2.out.block k hlt (fun h => HD.out.ap p HD.out.g.own (h ▸ hk)))) HI.out.ck (fun i => Nat.lt_trans (HI.out.m i) (by omega)) hR2 HC.out (Nat.lt_trans HL.out (by omega))).mono ?_
      rintro e3 w3 ⟨rfl, hD3, hf⟩
      have n1_ := Aside0.mk (hf.blk BKg5.out HNQ.out); clear BKg5 hcg5_0 hfg5_0 hcg5_1 hfg5_1 hcg5_2 hfg5_2 hcg5_3 hfg5_3 hcg5_4 hfg5_4 hcg5_5 hfg5_5 hcg5_6 hfg5_6 hcg5_7 hfg5_7 hcg5_8 hfg5_8; have BKg5 := n1_; clear n1_; have hcg5_0 := blk_cell BKg5.out 0; have hfg5_0 := blk_frozen BKg5.out 0; have hcg5_1 := blk_cell BKg5.out 1; have hfg5_1 := blk_frozen BKg5.out 1; have hcg5_2 := blk_cell BKg5.out 2; have hfg5_2 := blk_frozen BKg5.out 2; have hcg5_3 := blk_cell BKg5.out 3; have hfg5_3 := blk_frozen BKg5.out 3; have hcg5_4 := blk_cell BKg5.out 4; have hfg5_4 := blk_frozen BKg5.out 4; have hcg5_5 := blk_cell BKg5.out 5; have hfg5_5 := blk_frozen BKg5.out 5; have hcg5_6 := blk_cell BKg5.out 6; have hfg5_6 := blk_frozen BKg5.out 6; have hcg5_7 := blk_cell BKg5.out 7; have hfg5_7 := blk_frozen BKg5.out 7; have hcg5_8 := blk_cell BKg5.out 8; have hfg5_8 := blk_frozen BKg5.out 8; simp only [List.getElem?_toArray, List.getElem?_cons_zero, List.getElem?_cons_succ] at hcg5_0 hcg5_1 hcg5_2 hcg5_3 hcg5_4 hcg5_5 hcg5_6 hcg5_7 hcg5_8
      have HF3 := Aside0.mk hf
      have HD3 := Aside0.mk hD3
      have HRx3 := Aside0.mk (Kd.R_step (Kd.R_step HRx.out (fun k hk hlt => HF2.out.block k hlt (by have h9 := Option.some.inj hk; have := HXP.out; rintro rfl; exact this.1 h9))) (fun k hk hlt => HF3.out.block k hlt (by have h9 := Option.some.inj hk; have := HXP.out; rintro rfl; exact this.2.1 h9)))
      have HR3 := Aside0.mk (show Kd.C kEnt w3 A o.f3.length o.f3 from C_same kEnt_flat hR2 (fun ad e hn => HF3.out.block _ (C_lt kEnt_szpos hR2 e hn) (fun hk => by have := HA.out ad e hn; have := HPQ.out.2.1; omega)))
      clear hf hD3 hR2
      go_wp2_with (fail)
      refine (still_calls _ o.f3 A c _ _ _ HRx3.out HR3.out HC.out (by omega)).mono ?_
      rintro e4 w4 ⟨rfl, hf4⟩
      have HF4 := Aside0.mk hf4
      clear BKg5 hcg5_0 hfg5_0 hcg5_1 hfg5_1 hcg5_2 hfg5_2 hcg5_3 hfg5_3 hcg5_4 hfg5_4 hcg5_5 hfg5_5 hcg5_6 hfg5_6 hcg5_7 hfg5_7 hcg5_8 hfg5_8
      clear hf4
      go_wp2_with (fail)
      go_ret
      refine ⟨rfl, stepDone HD.out HB0.out.size HBx1.out (HF2.out.mono (fun k hk => by rw [hk]; exact HD.out.g.own)) HG2.out (fun k hk => hk) (HF3.out.mono (fun k hk => by rw [hk]; exact HD.out.d.own)) HD3.out (fun k hk => hk) (HF4.out.mono (fun k hk => ?_))⟩
      have h9 := Option.some.inj hk
      have := HXP.out.2.2
      simp only at h9
      omega
  have h2b : (o.f0 == 2) = false := by simp [h2]
  by_cases h3 : o.f0 = 3
  · have hw : opWs ws o = ws := by rw [opWs, if_neg h0]
    have hlo : opLs ws ls o = ls := by rw [opLs, if_neg (by omega)]
    rw [hw, hlo]
    have h3b : (o.f0 == 3) = true := by simp [h3]
    have HH0 := Aside0.mk h0
    clear hw hlo h0 h1 h2
    have hll : (heldL ls o.f1).length < 16777216 := by
      unfold heldL
      split
      · exact HI.out.m _
      · simp
    have HLL := Aside0.mk hll
    clear hll
    go_enter Try.func8, Try.ntmps8
    go_wp2_with (first | ((with_reducible refine gate_dst (N := 5) rfl ?_); refine box_event ?hg (N := 5) ?hd (cs := #[.int .i64 o.f0, .int .i64 o.f1, .string o.f2.f0, .int .i64 o.f2.f1.f0, .int .i64 o.f2.f1.f1, .string o.f2.f2, .bool o.f2.f3, .slice A o.f3.length c, .bool o.f4]) (t := 34) ?hr ?_; (case hd => rfl); (case hg => rfl); (case hr => first | (go_simp; done) | (go_simp; rfl)); intro g5 hg W_g5 hbox hb; have n0_ := Aside0.mk (below_step (by repeat (first | (with_reducible first | exact HB.out | apply below_alloc | apply pw_below_drewN | apply below_drew1) | exact HB.out)) hb); have GEg5 := Aside0.mk (by rw [hg]; exact (below_size (by repeat (first | (with_reducible first | exact HB.out | apply below_alloc | apply pw_below_drewN | apply below_drew1) | exact HB.out))) : w.heap.size ≤ g5); have GNg5 := Aside0.mk hg; clear HB; have HB := n0_; have BKg5 := Aside0.mk hbox; have hcg5_0 := blk_cell BKg5.out 0; have hfg5_0 := blk_frozen BKg5.out 0; have hcg5_1 := blk_cell BKg5.out 1; have hfg5_1 := blk_frozen BKg5.out 1; have hcg5_2 := blk_cell BKg5.out 2; have hfg5_2 := blk_frozen BKg5.out 2; have hcg5_3 := blk_cell BKg5.out 3; have hfg5_3 := blk_frozen BKg5.out 3; have hcg5_4 := blk_cell BKg5.out 4; have hfg5_4 := blk_frozen BKg5.out 4; have hcg5_5 := blk_cell BKg5.out 5; have hfg5_5 := blk_frozen BKg5.out 5; have hcg5_6 := blk_cell BKg5.out 6; have hfg5_6 := blk_frozen BKg5.out 6; have hcg5_7 := blk_cell BKg5.out 7; have hfg5_7 := blk_frozen BKg5.out 7; have hcg5_8 := blk_cell BKg5.out 8; have hfg5_8 := blk_frozen BKg5.out 8; simp only [List.getElem?_toArray, List.getElem?_cons_zero, List.getElem?_cons_succ] at hcg5_0 hcg5_1 hcg5_2 hcg5_3 hcg5_4 hcg5_5 hcg5_6 hcg5_7 hcg5_8; clear n0_ hb hbox hg))
    refine (held_calls p ws ls okp o.f1 _ (HD.out.below HB.out).g (fun i => Nat.lt_trans (HI.out.m i) (by omega))).mono ?_
    rintro e1 w1 ⟨va, rfl, hRa, hb⟩
    have HBa := HB
    have HRa := Aside0.mk hRa
    have HB01 := Aside0.mk hb
    have n0_ := Aside0.mk (below_step (by repeat (first | (with_reducible first | exact HB.out | apply below_alloc | apply pw_below_drewN | apply below_drew1) | exact HB.out)) hb); clear HB; have HB := n0_; clear n0_
    have n1_ := Aside0.mk (blk_below BKg5.out hb); clear BKg5 hcg5_0 hfg5_0 hcg5_1 hfg5_1 hcg5_2 hfg5_2 hcg5_3 hfg5_3 hcg5_4 hfg5_4 hcg5_5 hfg5_5 hcg5_6 hfg5_6 hcg5_7 hfg5_7 hcg5_8 hfg5_8; have BKg5 := n1_; clear n1_; have hcg5_0 := blk_cell BKg5.out 0; have hfg5_0 := blk_frozen BKg5.out 0; have hcg5_1 := blk_cell BKg5.out 1; have hfg5_1 := blk_frozen BKg5.out 1; have hcg5_2 := blk_cell BKg5.out 2; have hfg5_2 := blk_frozen BKg5.out 2; have hcg5_3 := blk_cell BKg5.out 3; have hfg5_3 := blk_frozen BKg5.out 3; have hcg5_4 := blk_cell BKg5.out 4; have hfg5_4 := blk_frozen BKg5.out 4; have hcg5_5 := blk_cell BKg5.out 5; have hfg5_5 := blk_frozen BKg5.out 5; have hcg5_6 := blk_cell BKg5.out 6; have hfg5_6 := blk_frozen BKg5.out 6; have hcg5_7 := blk_cell BKg5.out 7; have hfg5_7 := blk_frozen BKg5.out 7; have hcg5_8 := blk_cell BKg5.out 8; have hfg5_8 := blk_frozen BKg5.out 8; simp only [List.getElem?_toArray, List.getElem?_cons_zero, List.getElem?_cons_succ] at hcg5_0 hcg5_1 hcg5_2 hcg5_3 hcg5_4 hcg5_5 hcg5_6 hcg5_7 hcg5_8
    clear hb hRa
    go_wp2_with (fail)
    refine (held_calls p ws ls okp o.f1 _ (HD.out.below HB.out).g (fun i => Nat.lt_trans (HI.out.m i) (by omega))).mono ?_
    rintro e2 w2 ⟨vb, rfl, hRb, hb⟩
    have HBb := HB
    have HRb := Aside0.mk hRb
    have HB12 := Aside0.mk hb
    have n0_ := Aside0.mk (below_step (by repeat (first | (with_reducible first | exact HB.out | apply below_alloc | apply pw_below_drewN | apply below_drew1) | exact HB.out)) hb); clear HB; have HB := n0_; clear n0_
    have n1_ := Aside0.mk (blk_below BKg5.out hb); clear BKg5 hcg5_0 hfg5_0 hcg5_1 hfg5_1 hcg5_2 hfg5_2 hcg5_3 hfg5_3 hcg5_4 hfg5_4 hcg5_5 hfg5_5 hcg5_6 hfg5_6 hcg5_7 hfg5_7 hcg5_8 hfg5_8; have BKg5 := n1_; clear n1_; have hcg5_0 := blk_cell BKg5.out 0; have hfg5_0 := blk_frozen BKg5.out 0; have hcg5_1 := blk_cell BKg5.out 1; have hfg5_1 := blk_frozen BKg5.out 1; have hcg5_2 := blk_cell BKg5.out 2; have hfg5_2 := blk_frozen BKg5.out 2; have hcg5_3 := blk_cell BKg5.out 3; have hfg5_3 := blk_frozen BKg5.out 3; have hcg5_4 := blk_cell BKg5.out 4; have hfg5_4 := blk_frozen BKg5.out 4; have hcg5_5 := blk_cell BKg5.out 5; have hfg5_5 := blk_frozen BKg5.out 5; have hcg5_6 := blk_cell BKg5.out 6; have hfg5_6 := blk_frozen BKg5.out 6; have hcg5_7 := blk_cell BKg5.out 7; have hfg5_7 := blk_frozen BKg5.out 7; have hcg5_8 := blk_cell BKg5.out 8; have hfg5_8 := blk_frozen BKg5.out 8; simp only [List.getElem?_toArray, List.getElem?_cons_zero, List.getElem?_cons_succ] at hcg5_0 hcg5_1 hcg5_2 hcg5_3 hcg5_4 hcg5_5 hcg5_6 hcg5_7 hcg5_8
    clear hb hRb
    go_wp2_with (fail)
    refine (refheld_calls q ws ls w0.heap.size okq o.f1 _ (HD.out.below HB.out).d (fun i => Nat.lt_trans (HI.out.m i) (by omega))).mono ?_
    rintro e3 w3 ⟨vc, rfl, hRc, hb⟩
    have HRc := Aside0.mk hRc
    have HB23 := Aside0.mk hb
    have n0_ := Aside0.mk (below_step (by repeat (first | (with_reducible first | exact HB.out | apply below_alloc | apply pw_below_drewN | apply below_drew1) | exact HB.out)) hb); clear HB; have HB := n0_; clear n0_
    have n1_ := Aside0.mk (blk_below BKg5.out hb); clear BKg5 hcg5_0 hfg5_0 hcg5_1 hfg5_1 hcg5_2 hfg5_2 hcg5_3 hfg5_3 hcg5_4 hfg5_4 hcg5_5 hfg5_5 hcg5_6 hfg5_6 hcg5_7 hfg5_7 hcg5_8 hfg5_8; have BKg5 := n1_; clear n1_; have hcg5_0 := blk_cell BKg5.out 0; have hfg5_0 := blk_frozen BKg5.out 0; have hcg5_1 := blk_cell BKg5.out 1; have hfg5_1 := blk_frozen BKg5.out 1; have hcg5_2 := blk_cell BKg5.out 2; have hfg5_2 := blk_frozen BKg5.out 2; have hcg5_3 := blk_cell BKg5.out 3; have hfg5_3 := blk_frozen BKg5.out 3; have hcg5_4 := blk_cell BKg5.out 4; have hfg5_4 := blk_frozen BKg5.out 4; have hcg5_5 := blk_cell BKg5.out 5; have hfg5_5 := blk_frozen BKg5.out 5; have hcg5_6 := blk_cell BKg5.out 6; have hfg5_6 := blk_frozen BKg5.out 6; have hcg5_7 := blk_cell BKg5.out 7; have hfg5_7 := blk_frozen BKg5.out 7; have hcg5_8 := blk_cell BKg5.out 8; have hfg5_8 := blk_frozen BKg5.out 8; simp only [List.getElem?_toArray, List.getElem?_cons_zero, List.getElem?_cons_succ] at hcg5_0 hcg5_1 hcg5_2 hcg5_3 hcg5_4 hcg5_5 hcg5_6 hcg5_7 hcg5_8
    clear hb hRc
    obtain ⟨Aa, ca, rfl, hca, hCa, hAa⟩ := own_form HRa.out
    obtain ⟨Ab, cb, rfl, hcb, hCb, hAb⟩ := own_form HRb.out
    obtain ⟨Ac, cc, rfl, hcc, hCc, hAc⟩ := own_form HRc.out
    have HCa := Aside0.mk (Kd.C_below hCa (HB12.out.trans (HB23.out.mono HB12.out.size)))
    have HCb := Aside0.mk (Kd.C_below hCb HB23.out)
    have HCc := Aside0.mk hCc
    have HCN := Aside0.mk (And.intro hca (And.intro hcb hcc))
    have HRa3 := Aside0.mk (Kd.R_below HRa.out (HB12.out.trans (HB23.out.mono HB12.out.size)))
    have HAb := Aside0.mk (fun ad e => (hAb ad e).1)
    have HAc := Aside0.mk (fun ad e => (hAc ad e).1)
    have HLTa := Aside0.mk (Kd.R_lt HRa.out)
    clear hca hcb hcc hCa hCb hCc hAa hAb hAc
    go_wp2_with (fail)
    refine (same_calls Aa ca (heldL ls o.f1) Ac cc (heldL ls o.f1) _ HCa.out HCN.out.1 HCc.out HCN.out.2.2 (Nat.lt_trans HLL.out (by omega))).mono ?_
    rintro e4 w4 ⟨rfl, hb0⟩
    rw [show decide (heldL ls o.f1 = heldL ls o.f1) = true by simp]
    have hb := Drawn0.below hb0
    have HB34 := Aside0.mk hb
    have n0_ := Aside0.mk (below_step (by repeat (first | (with_reducible first | exact HB.out | apply below_alloc | apply pw_below_drewN | apply below_drew1) | exact HB.out)) hb); clear HB; have HB := n0_; clear n0_
    have n1_ := Aside0.mk (blk_below BKg5.out hb); clear BKg5 hcg5_0 hfg5_0 hcg5_1 hfg5_1 hcg5_2 hfg5_2 hcg5_3 hfg5_3 hcg5_4 hfg5_4 hcg5_5 hfg5_5 hcg5_6 hfg5_6 hcg5_7 hfg5_7 hcg5_8 hfg5_8; have BKg5 := n1_; clear n1_; have hcg5_0 := blk_cell BKg5.out 0; have hfg5_0 := blk_frozen BKg5.out 0; have hcg5_1 := blk_cell BKg5.out 1; have hfg5_1 := blk_frozen BKg5.out 1; have hcg5_2 := blk_cell BKg5.out 2; have hfg5_2 := blk_frozen BKg5.out 2; have hcg5_3 := blk_cell BKg5.out 3; have hfg5_3 := blk_frozen BKg5.out 3; have hcg5_4 := blk_cell BKg5.out 4; have hfg5_4 := blk_frozen BKg5.out 4; have hcg5_5 := blk_cell BKg5.out 5; have hfg5_5 := blk_frozen BKg5.out 5; have hcg5_6 := blk_cell BKg5.out 6; have hfg5_6 := blk_frozen BKg5.out 6; have hcg5_7 := blk_cell BKg5.out 7; have hfg5_7 := blk_frozen BKg5.out 7; have hcg5_8 := blk_cell BKg5.out 8; have hfg5_8 := blk_frozen BKg5.out 8; simp only [List.getElem?_toArray, List.getElem?_cons_zero, List.getElem?_cons_succ] at hcg5_0 hcg5_1 hcg5_2 hcg5_3 hcg5_4 hcg5_5 hcg5_6 hcg5_7 hcg5_8
    clear hb hb0
    go_wp2_with (fail)
    refine (same_calls Ab cb (heldL ls o.f1) Ac cc (heldL ls o.f1) _ (Kd.C_below HCb.out HB34.out) HCN.out.2.1 (Kd.C_below HCc.out HB34.out) HCN.out.2.2 (Nat.lt_trans HLL.out (by omega))).mono ?_
    rintro e5 w5 ⟨rfl, hb0⟩
    rw [show decide (heldL ls o.f1 = heldL ls o.f1) = true by simp]
    have hb := Drawn0.below hb0
    have HB35 := Aside0.mk (HB34.out.trans (hb.mono HB34.out.size))
    have n0_ := Aside0.mk (below_step (by repeat (first | (with_reducible first | exact HB.out | apply below_alloc | apply pw_below_drewN | apply below_drew1) | exact HB.out)) hb); clear HB; have HB := n0_; clear n0_
    have n1_ := Aside0.mk (blk_below BKg5.out hb); clear BKg5 hcg5_0 hfg5_0 hcg5_1 hfg5_1 hcg5_2 hfg5_2 hcg5_3 hfg5_3 hcg5_4 hfg5_4 hcg5_5 hfg5_5 hcg5_6 hfg5_6 hcg5_7 hfg5_7 hcg5_8 hfg5_8; have BKg5 := n1_; clear n1_; have hcg5_0 := blk_cell BKg5.out 0; have hfg5_0 := blk_frozen BKg5.out 0; have hcg5_1 := blk_cell BKg5.out 1; have hfg5_1 := blk_frozen BKg5.out 1; have hcg5_2 := blk_cell BKg5.out 2; have hfg5_2 := blk_frozen BKg5.out 2; have hcg5_3 := blk_cell BKg5.out 3; have hfg5_3 := blk_frozen BKg5.out 3; have hcg5_4 := blk_cell BKg5.out 4; have hfg5_4 := blk_frozen BKg5.out 4; have hcg5_5 := blk_cell BKg5.out 5; have hfg5_5 := blk_frozen BKg5.out 5; have hcg5_6 := blk_cell BKg5.out 6; have hfg5_6 := blk_frozen BKg5.out 6; have hcg5_7 := blk_cell BKg5.out 7; have hfg5_7 := blk_frozen BKg5.out 7; have hcg5_8 := blk_cell BKg5.out 8; have hfg5_8 := blk_frozen BKg5.out 8; simp only [List.getElem?_toArray, List.getElem?_cons_zero, List.getElem?_cons_succ] at hcg5_0 hcg5_1 hcg5_2 hcg5_3 hcg5_4 hcg5_5 hcg5_6 hcg5_7 hcg5_8
    clear hb hb0
    go_wp2_with (fail)
    refine (spoil_calls _ (heldL ls o.f1) (fun _ => True) W_g5 _ ?_ (Kd.R_below HRa3.out HB35.out) (Nat.lt_trans HLL.out (by omega))).mono ?_
    · exact HB01.out.trans ((HB12.out.trans ((HB23.out.trans (HB35.out.mono HB23.out.size)).mono HB12.out.size)).mono HB01.out.size)
    rintro e6 w6 ⟨rfl, hF6⟩
    have hblk : ∀ k, (Value.slice Aa (heldL ls o.f1).length ca).ownBlock = some k → W_g5.heap.size ≤ k ∧ k < w1.heap.size := fun k hk => ⟨Kd.R_base HRa.out k hk, HLTa.out k hk⟩
    have hCb6 : Kd.C kEnt w6 Ab (heldL ls o.f1).length (heldL ls o.f1) := by
      have h5 := Kd.C_below HCb.out HB35.out
      exact C_same kEnt_flat h5 (fun ad e hn => hF6.block _ (C_lt kEnt_szpos h5 e hn) (fun hk => by have := (hblk _ hk).2; have := HAb.out ad e; omega))
    have hCc6 : Kd.C kEnt w6 Ac (heldL ls o.f1).length (heldL ls o.f1) := by
      have h5 := Kd.C_below HCc.out HB35.out
      exact C_same kEnt_flat h5 (fun ad e hn => hF6.block _ (C_lt kEnt_szpos h5 e hn) (fun hk => by have := (hblk _ hk).2; have := HAc.out ad e; have := HB12.out.size; omega))
    have HF6 := Aside0.mk (HB.out.trans (hF6.below HB.out.size (fun k hk => Nat.le_trans HBa.out.size (hblk k hk).1)))
    have HCb6 := Aside0.mk hCb6
    have HCc6 := Aside0.mk hCc6
    clear hF6 hblk hCb6 hCc6 HB
    clear BKg5 hcg5_0 hfg5_0 hcg5_1 hfg5_1 hcg5_2 hfg5_2 hcg5_3 hfg5_3 hcg5_4 hfg5_4 hcg5_5 hfg5_5 hcg5_6 hfg5_6 hcg5_7 hfg5_7 hcg5_8 hfg5_8
    go_wp2_with (fail)
    refine (same_calls Ab cb (heldL ls o.f1) Ac cc (heldL ls o.f1) _ HCb6.out HCN.out.2.1 HCc6.out HCN.out.2.2 (Nat.lt_trans HLL.out (by omega))).mono ?_
    rintro e7 w7 ⟨rfl, hb0⟩
    rw [show decide (heldL ls o.f1 = heldL ls o.f1) = true by simp]
    have HB7 := Aside0.mk (below_step HF6.out (Drawn0.below hb0))
    clear hb0
    go_wp2_with (fail)
    go_ret
    exact ⟨rfl, stepSame HD.out HB7.out⟩
  · have hw : opWs ws o = ws := by rw [opWs, if_neg h0]
    have hlo : opLs ws ls o = ls := by rw [opLs, if_neg (by omega)]
    rw [hw, hlo]
    have h3b : (o.f0 == 3) = false := by simp [h3]
    clear hw hlo
    have HH0 := Aside0.mk (And.intro h0 (And.intro h1 (And.intro h2 h3)))
    clear h0 h1 h2 h3
    go_enter Try.func8, Try.ntmps8
    go_wp2_with (first | ((with_reducible refine gate_dst (N := 5) rfl ?_); refine box_event ?hg (N := 5) ?hd (cs := #[.int .i64 o.f0, .int .i64 o.f1, .string o.f2.f0, .int .i64 o.f2.f1.f0, .int .i64 o.f2.f1.f1, .string o.f2.f2, .bool o.f2.f3, .slice A o.f3.length c, .bool o.f4]) (t := 34) ?hr ?_; (case hd => rfl); (case hg => rfl); (case hr => first | (go_simp; done) | (go_simp; rfl)); intro g5 hg W_g5 hbox hb; have n0_ := Aside0.mk (below_step (by repeat (first | (with_reducible first | exact HB.out | apply below_alloc | apply pw_below_drewN | apply below_drew1) | exact HB.out)) hb); have GEg5 := Aside0.mk (by rw [hg]; exact (below_size (by repeat (first | (with_reducible first | exact HB.out | apply below_alloc | apply pw_below_drewN | apply below_drew1) | exact HB.out))) : w.heap.size ≤ g5); have GNg5 := Aside0.mk hg; clear HB; have HB := n0_; have BKg5 := Aside0.mk hbox; have hcg5_0 := blk_cell BKg5.out 0; have hfg5_0 := blk_frozen BKg5.out 0; have hcg5_1 := blk_cell BKg5.out 1; have hfg5_1 := blk_frozen BKg5.out 1; have hcg5_2 := blk_cell BKg5.out 2; have hfg5_2 := blk_frozen BKg5.out 2; have hcg5_3 := blk_cell BKg5.out 3; have hfg5_3 := blk_frozen BKg5.out 3; have hcg5_4 := blk_cell BKg5.out 4; have hfg5_4 := blk_frozen BKg5.out 4; have hcg5_5 := blk_cell BKg5.out 5; have hfg5_5 := blk_frozen BKg5.out 5; have hcg5_6 := blk_cell BKg5.out 6; have hfg5_6 := blk_frozen BKg5.out 6; have hcg5_7 := blk_cell BKg5.out 7; have hfg5_7 := blk_frozen BKg5.out 7; have hcg5_8 := blk_cell BKg5.out 8; have hfg5_8 := blk_frozen BKg5.out 8; simp only [List.getElem?_toArray, List.getElem?_cons_zero, List.getElem?_cons_succ] at hcg5_0 hcg5_1 hcg5_2 hcg5_3 hcg5_4 hcg5_5 hcg5_6 hcg5_7 hcg5_8; clear n0_ hb hbox hg))
    go_ret
    exact ⟨rfl, stepSame HD.out HB.out⟩
end Go.Proofs.Ytplnofodmgddmaa
