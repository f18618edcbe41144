import Derived.Test.YtplnofodmgddmaaHRefS
import Derived.Test.YtplnofodmgddmaaHRefW
import Derived.Deep.RegionLaw
/- The document's ghost: Sees. -/
set_option linter.unusedVariables false
set_option linter.unusedSimpArgs false
namespace Go.Proofs.Ytplnofodmgddmaa
open Go.RowKit Go.Proofs.YtplnofodmgddmaaW.PrintWords Go.Proofs.YtplnofodmgddmaaW.PrintLast Go.Proofs.YtplnofodmgddmaaW.PrintMore
attribute [local go_sem] Oper.semAt_some

theorem ref_last {w0 w' : World} {B : Nat} {ok : Nat → Prop} {q : Nat} {ws : List Ent} {ls : Nat → List Ent} {k : Nat} {v : Value} {l : List Ent} (hG : RefAt w0 B ok q ws ls) (hk : k < 8) (hf : Frm (fun x => x = q) w0 w')
    (hp : ∀ cs, w0.heap[q]? = some (.cells cs 53 (0, 0)) → w'.heap[q]? = some (.cells (cs.setIfInBounds (1 + k) v) 53 (0, 0))) (hS : SliceAt w' (fun x => w0.heap.size ≤ x ∧ x < w'.heap.size) v l) :
    RefAt w' B (fun x => ok x ∨ (w0.heap.size ≤ x ∧ x < w'.heap.size)) q ws (fun i => if i = k then l else ls i) := by
  obtain ⟨cs, v0, h1, h2, h3, h4, h5, h6, h7⟩ := hG
  have hpl := blk_lt h1
  have hov : ∀ x, v0.ownBlock = some x → x < w0.heap.size := by
    obtain ⟨_, inner, hown, _⟩ := h4
    exact fun x hx => own_lt hown x hx
  refine ⟨_, v0, hp cs h1, by simpa using h2, ?_, Kd.R_mono (Kd.R_step h4 (fun x hx hlt => hf.block x hlt hx.2)) (fun x hx => ⟨.inl hx.1, hx.2⟩), .inl h5, h6, fun i hi => ?_⟩
  · rw [Array.getElem?_setIfInBounds_ne (by omega)]
    exact h3
  · by_cases hik : i = k
    · subst hik
      refine ⟨v, by rw [Array.getElem?_setIfInBounds_self_of_lt (by omega)], ?_⟩
      simp only [if_true]
      exact hS.same (fun _ _ _ => rfl) (fun x hx => ⟨.inr hx, by omega, fun he => by have := hov x he.symm; omega⟩)
    · obtain ⟨u, hu, hSu⟩ := h7 i hi
      refine ⟨u, by rw [Array.getElem?_setIfInBounds_ne (by omega)]; exact hu, ?_⟩
      simp only [if_neg hik]
      exact hSu.same (fun x hx hlt => hf.block x hlt hx.2.1) (fun x hx => ⟨.inl hx.1, hx.2⟩)
theorem refNewer_f (x y : Ent) : tidelineref03_Newer.f x.f0 x.f1.f0 x.f1.f1 x.f2 x.f3 y.f0 y.f1.f0 y.f1.f1 y.f2 y.f3 = some (newerE x y) := by
  unfold tidelineref03_Newer.f tidelineref03_Compare.f newerE
  repeat' split
  all_goals
    simp only [Option.bind_some]
    congr 1
    rw [Bool.eq_iff_iff]
    simp only [decide_eq_true_eq, gt_iff_lt]
    omega
theorem refNewer_calls (x y : Ent) (w : World) :
    Calls Try.prog 34 #[vEnt x, vEnt y] w fun e w' => e = .returned (.bool (newerE x y)) ∧ Below w.heap.size w w' :=
  tidelineref03_Newer.calls _ _ _ _ _ _ _ _ _ _ _ w (refNewer_f x y)
theorem pairs_drop {ps : List PairE} {i : Nat} {x : PairE} (h : i < ps.length) (hx : rd_TPairE ps (i : Int) = x) : ps.drop i = x :: ps.drop (i + 1) := by
  rw [List.drop_eq_getElem_cons h]
  congr 1
  rw [← hx]
  simp [rd_TPairE, List.getD_eq_getElem?_getD, h]
set_option maxHeartbeats 1000000 in
theorem refsees_calls (q : Nat) (ws : List Ent) (ls : Nat → List Ent) (B : Nat) (ok : Nat → Prop) (node : Int) (A : Option Addr) (c : Nat) (l : List Ent) (w : World) (hG : RefAt w B ok q ws ls)
    (hs : ∀ i, ckFrom none (ls i) = 0) (hls : ∀ i, (ls i).length < 4611686018) (hr : Kd.C kEnt w A l.length l) (hc : l.length ≤ c) (hl : l.length < 4611686018) :
    Calls Try.prog 20 #[.pointer (some ⟨q, 0, none⟩), .int .i64 node, .slice A l.length c] w fun r w' =>
      r = .returned (.tuple #[.string (seesR (fun e => decide (e ∈ ws)) ls node l).1, .int .i64 (seesR (fun e => decide (e ∈ ws)) ls node l).2]) ∧
      RefAt w' B (fun k => ok k ∨ (w.heap.size ≤ k ∧ k < w'.heap.size)) q ws (seesL (fun e => decide (e ∈ ws)) ls node l) ∧ Frm (fun k => k = q) w w' := by
  have HG := Aside0.mk hG
  have HS := Aside0.mk hs
  have HLS := Aside0.mk hls
  have HR := Aside0.mk hr
  have HC := Aside0.mk hc
  have HL := Aside0.mk hl
  clear hG hs hls hr hc hl
  have HB := Aside0.mk (Below.refl w.heap.size w)
  have huE := Try.underlying31
  cases hn : isN node
  · have HE := Aside0.mk (show seesR (fun e => decide (e ∈ ws)) ls node l = (⟨#[]⟩, 1) by simp [seesR, hn])
    have HEL := Aside0.mk (show seesL (fun e => decide (e ∈ ws)) ls node l = ls by simp [seesL, HE.out])
    have hrng := hn
    simp only [isN, decide_eq_false_iff_not] at hrng
    go_enter Try.func20, Try.ntmps20
    go_wp2_with (first | (go_at_call 32; (with_reducible refine (refMapCheck_calls A c l _ (Kd.C_below HR.out HB.out) HC.out).mono ?_); rintro e2 w2 ⟨rfl, hb⟩; have n0_ := Aside0.mk (below_step (by repeat (first | (with_reducible first | exact HB.out | apply below_alloc | apply pw_below_drewN | apply below_drew1) | exact HB.out)) hb); clear HB; have HB := n0_; clear n0_; clear hb))
    all_goals
      refine ⟨rfl, .tuple #[.string ⟨#[]⟩, .int .i64 1], ?_, ?_, ?_, Frm.of_below HB.out _⟩; (simp [results, Try.f20, go_sem]); (rw [HE.out]); rw [HEL.out]; exact (HG.out.same (fun k _ hk => HB.out.block k hk)).mono (fun _ h => .inl h)
  · by_cases hck : ckFrom none l = 0
    · have hb1 : (ckFrom none l != 0) = false := by simp [hck]
      have hrng := hn
      simp only [isN, decide_eq_true_eq] at hrng
      obtain ⟨k, rfl⟩ : ∃ k : Nat, node = (k : Int) := ⟨node.toNat, by omega⟩
      have hk : k < 8 := by omega
      obtain ⟨cs, v, hq, hcs, hv, hRr, hokq, hBq, hcl⟩ := HG.out
      obtain ⟨v0, hv0, Av, cv, rfl, hcv, hCv, hAv⟩ := hcl k hk
      have HP := Aside0.mk hq
      have HV := Aside0.mk hv0
      have HCV := Aside0.mk hCv
      have HCVc := Aside0.mk hcv
      have HB0 := Aside0.mk (show ckBoth (ls k) l = 0 by unfold ckBoth; rw [if_pos (HS.out k)]; exact hck)
      obtain ⟨kk, hkk⟩ := refPairs_f (ls k) l (by have := HLS.out k; have := HL.out; omega) HB0.out
      have HKK := Aside0.mk hkk
      have HE := Aside0.mk (show seesR (fun e => decide (e ∈ ws)) ls (k : Int) l = seesP (fun e => decide (e ∈ ws)) (pairsL (ls k) l) by simp [seesR, hn, hck])
      have HCK := Aside0.mk hck
      clear hck hq hv hRr hokq hBq hcl hCv hcv hkk hcs hrng hv0
      have hcell : w.cell? ⟨q, 1 + k, none⟩ = some (.slice Av (ls k).length cv) := (blk_cell HP.out (1 + k)).trans HV.out
      go_enter Try.func20, Try.ntmps20
      go_wp2_with (first | (go_at_call 32; (with_reducible refine (refMapCheck_calls A c l _ (Kd.C_below HR.out HB.out) HC.out).mono ?_); rintro e2 w2 ⟨rfl, hb⟩; have n0_ := Aside0.mk (below_step (by repeat (first | (with_reducible first | exact HB.out | apply below_alloc | apply pw_below_drewN | apply below_drew1) | exact HB.out)) hb); clear HB; have HB := n0_; clear n0_; clear hcell; have hcell : w2.cell? ⟨q, 1 + k, none⟩ = some (.slice Av (ls k).length cv) := (blk_cell (blk_below HP.out HB.out) (1 + k)).trans HV.out; clear hb) | (go_at_call 33; (with_reducible refine (tidelineref09_Pairs.calls kk Av cv (ls k) A c l _ _ (Kd.C_below HCV.out HB.out) HCVc.out (Kd.C_below HR.out HB.out) HC.out HKK.out).mono ?_); rintro e3 w3 ⟨v3, rfl, hR3, hb⟩; obtain ⟨A3, c3, rfl, hc3, hC3⟩ := Kd.R_reads hR3; have HC3 := Aside0.mk hC3; have HCc3 := Aside0.mk hc3; have HM3 := Aside0.mk (Kd.C_max hC3); have n0_ := Aside0.mk (below_step (by repeat (first | (with_reducible first | exact HB.out | apply below_alloc | apply pw_below_drewN | apply below_drew1) | exact HB.out)) hb); clear HB; have HB := n0_; clear n0_; clear hb hcell hR3 hc3 hC3))
      have hM3 := HM3.out
      go_loopw [10] (fun v10 w' => ∃ i : Nat, v10 = .int .i64 i ∧ i ≤ (pairsL (ls k) l).length ∧ Aside0 (seesP (fun e => decide (e ∈ ws)) (pairsL (ls k) l) = seesP (fun e => decide (e ∈ ws)) ((pairsL (ls k) l).drop i)) ∧ Aside0 (Below w.heap.size w w') ∧ Aside0 (Kd.C kPairE w' A3 (pairsL (ls k) l).length (pairsL (ls k) l))) (fun v10 _ => (pairsL (ls k) l).length - (intOf v10).toNat)
      case atStart => exact ⟨0, rfl, Nat.zero_le _, ⟨rfl⟩, HB, HC3⟩
      case round =>
        clear HB HC3
        obtain ⟨i, rfl, hi, HSP, HB, HC3⟩ := hrel
        by_cases hlt : i < (pairsL (ls k) l).length
        · obtain ⟨ad, ead, hx0, hx1, hx2, hx3, hx4, hx5, hx6, hx7, hx8, hx9⟩ := at_TPairE HC3.out (i : Int) (by omega) (by omega)
          cases ead
          obtain ⟨x, hx⟩ : ∃ x, rd_TPairE (pairsL (ls k) l) (i : Int) = x := ⟨_, rfl⟩
          rw [hx] at hx0 hx1 hx2 hx3 hx4 hx5 hx6 hx7 hx8 hx9
          simp only [Int.toNat_natCast] at hx0 hx1 hx2 hx3 hx4 hx5 hx6 hx7 hx8 hx9
          have HX := Aside0.mk hx
          clear hx
          have hlt' : (i : Int) < ((pairsL (ls k) l).length : Int) := by omega
          have hlt0 : (0 : Int) ≤ (i : Int) := by omega
          go_upto_region 11 with (fail)
          refine wp_gen (F := fun WF => Below wr.heap.size wr WF ∧ WF.heap[wr.heap.size]? = some (boxE x.f0)) ⟨below_alloc (Below.refl _ _) _, blk_new _ _⟩ ?_
          rintro W1 ⟨hb1w, hbx1⟩
          have hy5 : W1.cell? ⟨(ad.add (i * 10)).block, (ad.add (i * 10)).off + 5, none⟩ = _ := pw_cell_below hb1w hx5
          have hy6 : W1.cell? ⟨(ad.add (i * 10)).block, (ad.add (i * 10)).off + 5 + 1, none⟩ = _ := pw_cell_below hb1w hx6
          have hy7 : W1.cell? ⟨(ad.add (i * 10)).block, (ad.add (i * 10)).off + 5 + 2, none⟩ = _ := pw_cell_below hb1w hx7
          have hy8 : W1.cell? ⟨(ad.add (i * 10)).block, (ad.add (i * 10)).off + 5 + 3, none⟩ = _ := pw_cell_below hb1w hx8
          have hy9 : W1.cell? ⟨(ad.add (i * 10)).block, (ad.add (i * 10)).off + 5 + 4, none⟩ = _ := pw_cell_below hb1w hx9
          clear hx0 hx1 hx2 hx3 hx4 hx5 hx6 hx7 hx8 hx9
          have HW1 := Aside0.mk hb1w
          have HX1 := Aside0.mk hbx1
          clear hb1w hbx1
          go_upto_region 12 with (fail)
          refine wp_gen (F := fun WF => Below wr.heap.size wr WF ∧ wr.heap.size < W1.heap.size ∧ WF.heap[wr.heap.size]? = some (boxE x.f0) ∧ WF.heap[W1.heap.size]? = some (boxE x.f1)) ⟨below_alloc HW1.out _, blk_lt HX1.out, blk_alloc HX1.out _, blk_new _ _⟩ ?_
          obtain ⟨g11, hg11⟩ : ∃ g, g = wr.heap.size := ⟨_, rfl⟩
          obtain ⟨g12, hg12⟩ : ∃ g, g = W1.heap.size := ⟨_, rfl⟩
          rw [← hg11, ← hg12]
          rintro W2 ⟨hb2, hlt12, hbx, hby⟩
          clear hy5 hy6 hy7 hy8 hy9 HX1 HW1
          rw [hg11] at hb2
          have n0_ := Aside0.mk (below_step HB.out hb2)
          have n1_ := Aside0.mk (Kd.C_below HC3.out hb2)
          clear HB HC3
          have HB := n0_
          have HC3 := n1_
          clear n0_ n1_
          have BKbx := Aside0.mk hbx
          have BKby := Aside0.mk hby
          unfold boxE at BKbx BKby
          clear hbx hby hb2 hg11 hg12 hlt12
          have hcbx_0 := blk_cell BKbx.out 0; have hfbx_0 := blk_frozen BKbx.out 0; have hcbx_1 := blk_cell BKbx.out 1; have hfbx_1 := blk_frozen BKbx.out 1; have hcbx_2 := blk_cell BKbx.out 2; have hfbx_2 := blk_frozen BKbx.out 2; have hcbx_3 := blk_cell BKbx.out 3; have hfbx_3 := blk_frozen BKbx.out 3; have hcbx_4 := blk_cell BKbx.out 4; have hfbx_4 := blk_frozen BKbx.out 4; simp only [List.getElem?_toArray, List.getElem?_cons_zero, List.getElem?_cons_succ] at hcbx_0 hcbx_1 hcbx_2 hcbx_3 hcbx_4
          have hcby_0 := blk_cell BKby.out 0; have hfby_0 := blk_frozen BKby.out 0; have hcby_1 := blk_cell BKby.out 1; have hfby_1 := blk_frozen BKby.out 1; have hcby_2 := blk_cell BKby.out 2; have hfby_2 := blk_frozen BKby.out 2; have hcby_3 := blk_cell BKby.out 3; have hfby_3 := blk_frozen BKby.out 3; have hcby_4 := blk_cell BKby.out 4; have hfby_4 := blk_frozen BKby.out 4; simp only [List.getElem?_toArray, List.getElem?_cons_zero, List.getElem?_cons_succ] at hcby_0 hcby_1 hcby_2 hcby_3 hcby_4
          go_wp2_with (fail)
          refine (refNewer_calls x.f0 x.f1 _).mono ?_
          rintro e3 w4 ⟨rfl, hb⟩
          have n0_ := Aside0.mk (below_step HB.out hb); have n1_ := Aside0.mk (Kd.C_below HC3.out hb); clear HB HC3; have HB := n0_; have HC3 := n1_; clear n0_ n1_; have n1_ := Aside0.mk (blk_below BKbx.out hb); clear BKbx hcbx_0 hfbx_0 hcbx_1 hfbx_1 hcbx_2 hfbx_2 hcbx_3 hfbx_3 hcbx_4 hfbx_4; have BKbx := n1_; clear n1_; have hcbx_0 := blk_cell BKbx.out 0; have hfbx_0 := blk_frozen BKbx.out 0; have hcbx_1 := blk_cell BKbx.out 1; have hfbx_1 := blk_frozen BKbx.out 1; have hcbx_2 := blk_cell BKbx.out 2; have hfbx_2 := blk_frozen BKbx.out 2; have hcbx_3 := blk_cell BKbx.out 3; have hfbx_3 := blk_frozen BKbx.out 3; have hcbx_4 := blk_cell BKbx.out 4; have hfbx_4 := blk_frozen BKbx.out 4; simp only [List.getElem?_toArray, List.getElem?_cons_zero, List.getElem?_cons_succ] at hcbx_0 hcbx_1 hcbx_2 hcbx_3 hcbx_4; have n1_ := Aside0.mk (blk_below BKby.out hb); clear BKby hcby_0 hfby_0 hcby_1 hfby_1 hcby_2 hfby_2 hcby_3 hfby_3 hcby_4 hfby_4; have BKby := n1_; clear n1_; have hcby_0 := blk_cell BKby.out 0; have hfby_0 := blk_frozen BKby.out 0; have hcby_1 := blk_cell BKby.out 1; have hfby_1 := blk_frozen BKby.out 1; have hcby_2 := blk_cell BKby.out 2; have hfby_2 := blk_frozen BKby.out 2; have hcby_3 := blk_cell BKby.out 3; have hfby_3 := blk_frozen BKby.out 3; have hcby_4 := blk_cell BKby.out 4; have hfby_4 := blk_frozen BKby.out 4; simp only [List.getElem?_toArray, List.getElem?_cons_zero, List.getElem?_cons_succ] at hcby_0 hcby_1 hcby_2 hcby_3 hcby_4; clear hb
          by_cases hnw : newerE x.f0 x.f1 = true
          · have hx1 : seesP (fun e => decide (e ∈ ws)) (pairsL (ls k) l) = (x.f0.f0, 191) := by rw [HSP.out, pairs_drop hlt HX.out, seesP, if_pos hnw]
            rw [hnw]
            go_wp2_with (fail)
            refine ⟨rfl, .tuple #[.string x.f0.f0, .int .i64 191], ?_, ?_, ?_, Frm.of_below HB.out _⟩; (simp [results, Try.f20, go_sem]); (rw [HE.out, hx1]); (rw [show seesL (fun e => decide (e ∈ ws)) ls (k : Int) l = ls by simp [seesL, HE.out, hx1]]); exact (HG.out.same (fun k _ hk => HB.out.block k hk)).mono (fun _ h => .inl h)
          · rw [Bool.eq_false_iff.2 hnw]
            go_wp2_with (fail)
            refine (refwritten_calls q ws ls B ok x.f1 _ (HG.out.same fun j _ hj => HB.out.block j hj)).mono ?_
            rintro e5 w5 ⟨rfl, hb⟩
            have n0_ := Aside0.mk (below_step HB.out hb); have n1_ := Aside0.mk (Kd.C_below HC3.out hb); clear HB HC3; have HB := n0_; have HC3 := n1_; clear n0_ n1_; have n1_ := Aside0.mk (blk_below BKbx.out hb); clear BKbx hcbx_0 hfbx_0 hcbx_1 hfbx_1 hcbx_2 hfbx_2 hcbx_3 hfbx_3 hcbx_4 hfbx_4; have BKbx := n1_; clear n1_; have hcbx_0 := blk_cell BKbx.out 0; have hfbx_0 := blk_frozen BKbx.out 0; have hcbx_1 := blk_cell BKbx.out 1; have hfbx_1 := blk_frozen BKbx.out 1; have hcbx_2 := blk_cell BKbx.out 2; have hfbx_2 := blk_frozen BKbx.out 2; have hcbx_3 := blk_cell BKbx.out 3; have hfbx_3 := blk_frozen BKbx.out 3; have hcbx_4 := blk_cell BKbx.out 4; have hfbx_4 := blk_frozen BKbx.out 4; simp only [List.getElem?_toArray, List.getElem?_cons_zero, List.getElem?_cons_succ] at hcbx_0 hcbx_1 hcbx_2 hcbx_3 hcbx_4; have n1_ := Aside0.mk (blk_below BKby.out hb); clear BKby hcby_0 hfby_0 hcby_1 hfby_1 hcby_2 hfby_2 hcby_3 hfby_3 hcby_4 hfby_4; have BKby := n1_; clear n1_; have hcby_0 := blk_cell BKby.out 0; have hfby_0 := blk_frozen BKby.out 0; have hcby_1 := blk_cell BKby.out 1; have hfby_1 := blk_frozen BKby.out 1; have hcby_2 := blk_cell BKby.out 2; have hfby_2 := blk_frozen BKby.out 2; have hcby_3 := blk_cell BKby.out 3; have hfby_3 := blk_frozen BKby.out 3; have hcby_4 := blk_cell BKby.out 4; have hfby_4 := blk_frozen BKby.out 4; simp only [List.getElem?_toArray, List.getElem?_cons_zero, List.getElem?_cons_succ] at hcby_0 hcby_1 hcby_2 hcby_3 hcby_4; clear hb
            by_cases hwr : decide (x.f1 ∈ ws) = true
            · have hx1 : seesP (fun e => decide (e ∈ ws)) (pairsL (ls k) l) = seesP (fun e => decide (e ∈ ws)) ((pairsL (ls k) l).drop (i + 1)) := by rw [HSP.out, pairs_drop hlt HX.out, seesP, if_neg hnw, if_pos hwr]
              have HX1 := Aside0.mk hx1
              rw [hwr]
              clear hx1
              go_wp2_with (fail)
              go_roundw
              case rel => exact ⟨i + 1, by go_num, by omega, HX1, HB, HC3⟩
              case measure => simp [intOf]; omega
            · have hx1 : seesP (fun e => decide (e ∈ ws)) (pairsL (ls k) l) = (x.f1.f0, 192) := by rw [HSP.out, pairs_drop hlt HX.out, seesP, if_neg hnw, if_neg hwr]
              rw [Bool.eq_false_iff.2 hwr]
              go_wp2_with (fail)
              refine ⟨rfl, .tuple #[.string x.f1.f0, .int .i64 192], ?_, ?_, ?_, Frm.of_below HB.out _⟩; (simp [results, Try.f20, go_sem]); (rw [HE.out, hx1]); (rw [show seesL (fun e => decide (e ∈ ws)) ls (k : Int) l = ls by simp [seesL, HE.out, hx1]]); exact (HG.out.same (fun k _ hk => HB.out.block k hk)).mono (fun _ h => .inl h)
        · have hge : ¬ (i : Int) < ((pairsL (ls k) l).length : Int) := by omega
          have hnil : seesP (fun e => decide (e ∈ ws)) (pairsL (ls k) l) = (⟨#[]⟩, 0) := by rw [HSP.out, List.drop_of_length_le (by omega)]; rfl
          rw [hnil] at HE
          have HEL := Aside0.mk (show seesL (fun e => decide (e ∈ ws)) ls (k : Int) l = fun i => if i = k then l else ls i by simp [seesL, HE.out])
          clear hnil HSP HC3 hge hi
          go_upto_region 17 with ((with_reducible refine gate_dst (N := 60) rfl ?_); refine Kd.R_lit kEnt _ 31 ?hg (N := 60) ?hd (xs := ([] : List Ent)) (inner := []) (ok := fun _ => True) (okp := fun _ => True) ?hr ?hp (fun _ hk => hk) trivial (Below.refl _ _) (Nat.le_refl _) (by simp) ?_; (case hd => rfl); (case hg => rfl); (case hr => first | (go_simp; done) | (go_simp; rfl)); (case hp => exact (Reps.none _ _)); intro v13 w13 ho5 hb hg_ hnew_; clear hg_ hnew_; have HO := Aside0.mk ho5; have HB13 := Aside0.mk hb; clear ho5 hb)
          have HQ := Aside0.mk (blk_below HP.out HB.out)
          have HR13 := Aside0.mk (Kd.C_below (Kd.C_below HR.out HB.out) (HB13.out.mono (Nat.le_refl _)))
          go_region_law (refine Kd.R_append_rows_step kEnt (Rr := kEnt.K w13.drew) (w0 := wr) (W := w13.drew) wr.heap.size ?hw (.tmp 63) (.tmp 64) 32 31 (.agg #[(.string ⟨#[]⟩), (.int .i64 0), (.int .i64 0), (.string ⟨#[]⟩), (.bool false)]) 56 ?ho Try.underlying32 ?hi ?hz ?hs0 ?hb0 v13 ([] : List Ent) l A l.length c (fun _ => True) (fun _ => False) ?hs ?hx ?aO ?aR ?hk ?hp ?hf ?aB ?aS ?aL ?_; (case ho => rfl); ((case hw => rfl); (case hs => go_simp); (case hx => go_simp); (case hi => exact infoEnt); (case hz => rfl); (case hs0 => decide); (case hb0 => omega); (case aR => exact (Kd.C_drew HR13.out)); (case aO => exact Kd.R_drew HO.out); (case hp => exact fun _ h => h.elim); (case hf => exact fun _ _ => trivial); (case aB => exact below_drew HB13.out); (case aS => exact HB13.out.size); (case aL => (have := HL.out; simp; omega)); (case hk => exact (fun _ _ h => h)); intro v1 w1 hR1 hb1 hg1 hat1; rw [List.nil_append] at hR1; obtain ⟨A1, c1, rfl, hcc1, hC1, hA1⟩ := own_form hR1; have hq1 := blk_below HQ.out hb1; have hqc1 : w1.cell? ⟨q, 1 + k, none⟩ = some (.slice Av (ls k).length cv) := (blk_cell hq1 (1 + k)).trans HV.out; have hqf1 : w1.frozen? ⟨q, 1 + k, none⟩ = false := blk_frozen hq1 (1 + k); have HN := Aside0.mk (And.intro hb1 (And.intro hq1 (And.intro hcc1 (And.intro hC1 hA1)))); clear hR1 hb1 hg1 hat1 hq1 hcc1 hC1 hA1))
          all_goals
            go_wp2
            obtain ⟨hb1, hq1, hcc1, hC1, hA1⟩ := HN.out
            have hBw : Below w.heap.size w w1 := HB.out.trans (hb1.mono HB.out.size)
            have hql : q < w.heap.size := blk_lt HP.out
            have hf : Frm (fun x => x = q) w (w1.setCell ⟨q, 1 + k, none⟩ (.slice A1 l.length c1)) := (Frm.of_below hBw (fun x => x = q)).setCell (p := ⟨q, 1 + k, none⟩) (.inl rfl) _
            rw [HE.out, HEL.out]
            refine ⟨rfl, .tuple #[.string ⟨#[]⟩, .int .i64 0], ?_, rfl, ref_last (v := .slice A1 l.length c1) HG.out hk hf (fun cs' hcs' => ?_) ?_, hf⟩
            · simp [results, Try.f20, go_sem]
            · rw [HP.out] at hcs'
              simp only [Option.some.injEq, Obj.cells.injEq] at hcs'
              obtain ⟨rfl, _, _⟩ := hcs'
              exact heap_setCell_same _ _ _ _ _ _ hq1
            · have hS6 : SliceAt w1 (fun x => wr.heap.size ≤ x ∧ x < w1.heap.size) (.slice A1 l.length c1) l := ⟨A1, c1, rfl, hcc1, hC1, fun ad e hn => ⟨(hA1 ad e).1, C_lt kEnt_szpos hC1 e hn⟩⟩
              exact hS6.same (fun x hx hlt => Below.heap_setCell _ _ _ _ (show x ≠ q by have := HB.out.size; omega)) (fun x hx => by rw [World.size_setCell]; exact ⟨Nat.le_trans HB.out.size hx.1, hx.2⟩)
    · have hb1 : (ckFrom none l != 0) = true := by simp [hck]
      have HE := Aside0.mk (show seesR (fun e => decide (e ∈ ws)) ls node l = (⟨#[]⟩, ckFrom none l) by simp [seesR, hn, hck])
      have HEL := Aside0.mk (show seesL (fun e => decide (e ∈ ws)) ls node l = ls by simp [seesL, HE.out, hck])
      have HCK := Aside0.mk hck
      have hrng := hn
      simp only [isN, decide_eq_true_eq] at hrng
      obtain ⟨hn0, hn8⟩ := hrng
      clear hck
      go_enter Try.func20, Try.ntmps20
      go_wp2_with (first | (go_at_call 32; (with_reducible refine (refMapCheck_calls A c l _ (Kd.C_below HR.out HB.out) HC.out).mono ?_); rintro e2 w2 ⟨rfl, hb⟩; have n0_ := Aside0.mk (below_step (by repeat (first | (with_reducible first | exact HB.out | apply below_alloc | apply pw_below_drewN | apply below_drew1) | exact HB.out)) hb); clear HB; have HB := n0_; clear n0_; clear hb))
      refine ⟨rfl, .tuple #[.string ⟨#[]⟩, .int .i64 (ckFrom none l)], ?_, ?_, ?_, Frm.of_below HB.out _⟩; (simp [results, Try.f20, go_sem]); (rw [HE.out]); rw [HEL.out]; exact (HG.out.same (fun k _ hk => HB.out.block k hk)).mono (fun _ h => .inl h)
end Go.Proofs.Ytplnofodmgddmaa
