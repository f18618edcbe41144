import Derived.Test.YtplnofodmgddmaaHHeld
import Derived.Deep.RegionLaw
/- The document's ghost: Wrote, Written. -/
set_option linter.unusedVariables false
set_option linter.unusedSimpArgs false
namespace Go.Proofs.Ytplnofodmgddmaa
open Go.RowKit Go.Proofs.YtplnofodmgddmaaW.PrintWords Go.Proofs.YtplnofodmgddmaaW.PrintLast Go.Proofs.YtplnofodmgddmaaW.PrintMore

theorem eqVerRun (d : Nat) (w : World) (x0 y0 x1 y1 : Int) :
    (Op.equalIn (d + 2) 29 (.agg #[.int .i64 x0, .int .i64 x1]) (.agg #[.int .i64 y0, .int .i64 y1])).run Try.prog w = .ok (x0 == y0 && (x1 == y1)) w := eqVer d w x0 y0 x1 y1
theorem SliceAt.same' {w w' : World} {ok ok' : Nat → Prop} {v : Value} {l : List Ent} (h : SliceAt w ok v l) (hs : ∀ k, ok k → k < w.heap.size → w'.heap[k]? = w.heap[k]?) (ho : ∀ k, ok k → k < w.heap.size → ok' k) : SliceAt w' ok' v l := by
  obtain ⟨A, c, rfl, h1, h2, h3⟩ := h
  exact ⟨A, c, rfl, h1, C_same kEnt_flat h2 (fun ad e hn => hs _ (h3 ad e hn) (C_lt kEnt_szpos h2 e hn)), fun ad e hn => ho _ (h3 ad e hn) (C_lt kEnt_szpos h2 e hn)⟩
theorem refat_push {w wr w1 : World} {B : Nat} {ok : Nat → Prop} {q : Nat} {ws : List Ent} {ls : Nat → List Ent} {cs : Array Value} {v v1 : Value} {e : Ent} (hG : RefAt w B ok q ws ls)
    (hq : w.heap[q]? = some (.cells cs 53 (0, 0))) (hv : cs[0]? = some v) (hb : Below w.heap.size w wr) (hg : wr.drew.grownBy w1 v.ownBlock)
    (hR : Kd.R kEnt 31 w1 B (fun k => (ok k ∧ k ≠ q) ∨ wr.heap.size ≤ k) v1 (ws ++ [e])) (hat : v1.ownBlock = v.ownBlock ∨ ∃ b, v1.ownBlock = some b ∧ wr.drew.heap.size ≤ b) (hq1 : w1.heap[q]? = some (.cells cs 53 (0, 0))) :
    RefAt (w1.setCell ⟨q, 0, none⟩ v1) B (fun k => ok k ∨ (w.heap.size ≤ k ∧ k < (w1.setCell ⟨q, 0, none⟩ v1).heap.size)) q (ws ++ [e]) ls ∧ Frm ok w (w1.setCell ⟨q, 0, none⟩ v1) := by
  obtain ⟨cs', v', h1, h2, h3, h4, h5, h6, h7⟩ := hG
  rw [hq] at h1
  simp only [Option.some.injEq, Obj.cells.injEq] at h1
  obtain ⟨rfl, _, _⟩ := h1
  rw [hv] at h3
  simp only [Option.some.injEq] at h3
  subst h3
  have hsz : (w1.setCell ⟨q, 0, none⟩ v1).heap.size = w1.heap.size := by simp [World.setCell]
  have hqlt : q < wr.heap.size := Nat.lt_of_lt_of_le (blk_lt hq) hb.size
  have hf : Frm ok w (w1.setCell ⟨q, 0, none⟩ v1) :=
    (Frm.then_ (Frm.of_below (below_drew hb) ok) (Frm.of_grown (S := ok) hg (fun k hk => .inl (h4.1 k hk).1)) (fun k hk => .inl hk)).setCell (.inl h5) _
  refine ⟨⟨cs.setIfInBounds 0 v1, v1, blk_set hq1 0 v1, by simpa using h2, by simp [h2], ?_, .inl h5, h6, fun i hi => ?_⟩, hf⟩
  · refine Kd.R_mono (Kd.R_far (Kd.R_bound hR) (p := ⟨q, 0, none⟩) (fun k hk => ?_) v1) (fun k hk => ?_)
    · rcases hk.1 with hk | hk
      · exact hk.2
      · show k ≠ q
        omega
    · rcases hk.1 with h | h
      · exact ⟨.inl h.1, h.2⟩
      · have := hb.size
        have h8 := hk.2.2.1
        exact ⟨.inr ⟨by omega, by omega⟩, by omega⟩
  · obtain ⟨u, hu, hS⟩ := h7 i hi
    refine ⟨u, by rw [Array.getElem?_setIfInBounds, if_neg (by omega)]; exact hu, hS.same' (fun k hk hlt => ?_) (fun k hk hlt => ⟨.inl hk.1, hk.2.1, ?_⟩)⟩
    · rw [Below.heap_setCell w1 _ v1 k hk.2.1, hg.block k (Nat.lt_of_lt_of_le hlt hb.size) hk.2.2]
      exact hb.block k hlt
    · rcases hat with hat | ⟨b, hat, hle⟩
      · rw [hat]; exact hk.2.2
      · rw [hat]
        intro h
        have := Option.some.inj h
        have h9 := hb.size
        have h10 : wr.drew.heap.size = wr.heap.size := rfl
        omega
theorem sameN_comm (e x : Ent) : sameN e x = (x.f0.toList == e.f0.toList && (x.f1.f0 == e.f1.f0 && (x.f1.f1 == e.f1.f1))) := by
  unfold sameN
  rw [Bool.eq_iff_iff]
  simp only [Bool.and_eq_true, beq_iff_eq]
  constructor <;> (rintro ⟨h1, h2, h3⟩; exact ⟨h1.symm, h2.symm, h3.symm⟩)
theorem find_drop {ws : List Ent} {e x : Ent} {i : Nat} (h : i < ws.length) (hx : rd_TEnt ws (i : Int) = x) (hs : sameN e x = false) : (ws.drop i).find? (sameN e) = (ws.drop (i + 1)).find? (sameN e) := by
  rw [ckFrom_step0 h hx, List.find?_cons, hs]
theorem find_hit {ws : List Ent} {e x : Ent} {i : Nat} (h : i < ws.length) (hx : rd_TEnt ws (i : Int) = x) (hs : sameN e x = true) : (ws.drop i).find? (sameN e) = some x := by
  rw [ckFrom_step0 h hx, List.find?_cons, hs]

attribute [local go_sem high] eqEnt eqVerRun in
set_option maxHeartbeats 2000000 in
theorem refwrote_calls (q : Nat) (ws : List Ent) (ls : Nat → List Ent) (ok : Nat → Prop) (e : Ent) (w0 w : World) (hB0 : Below w0.heap.size w0 w) (hG : RefAt w w0.heap.size ok q ws ls) (hok : ∀ k, ok k → w0.heap.size ≤ k) (hlen : ws.length + 1 < 2513169434916) :
    Calls Try.prog 17 #[.pointer (some ⟨q, 0, none⟩), vEnt e] w fun r w' => r = .returned (.int .i64 (wroteC ws e)) ∧
      RefAt w' w0.heap.size (fun k => ok k ∨ (w.heap.size ≤ k ∧ k < w'.heap.size)) q (wroteW ws e) ls ∧ Frm ok w w' := by
  have HG := Aside0.mk hG
  have huE := Try.underlying31
  have HB0 := Aside0.mk hB0
  have HOK := Aside0.mk hok
  have HLN := Aside0.mk hlen
  obtain ⟨cs, v, hq, hcs, hv, hR, hokq, hBq, hls⟩ := hG
  have HP := Aside0.mk hq
  have HV := Aside0.mk hv
  have HR := Aside0.mk hR
  obtain ⟨A, c, rfl, hc, hC⟩ := Kd.R_reads hR
  have HC := Aside0.mk hC
  have hmax := Kd.C_max hC
  have HCc := Aside0.mk hc
  clear hq hv hR hls hcs hC hB0 hok hlen hc
  have HB := Aside0.mk (Below.refl w.heap.size w)
  unfold vEnt
  by_cases hck : ckEnt e = 0
  · have hckb : (ckEnt e == 0) = true := beq_iff_eq.2 hck
    have hckb1 : (ckEnt e != 0) = false := by simp [hck]
    have HCK := Aside0.mk hck
    clear hck
    go_enter Try.func17, Try.ntmps17
    go_wp2_with (first | ((with_reducible refine gate_dst (N := 3) rfl ?_); refine box_event ?hg (N := 3) ?hd (cs := #[.string e.f0, .int .i64 e.f1.f0, .int .i64 e.f1.f1, .string e.f2, .bool e.f3]) (t := 31) ?hr ?_; (case hd => rfl); (case hg => rfl); (case hr => first | (go_simp; done) | (go_simp; rfl)); intro ge hg W_ge hbox hb; have n0_ := Aside0.mk (below_step (by repeat (first | (with_reducible first | exact HB.out | apply below_alloc | apply pw_below_drewN | apply below_drew1) | exact HB.out)) hb); have GEge := Aside0.mk (by rw [hg]; exact (below_size (by repeat (first | (with_reducible first | exact HB.out | apply below_alloc | apply pw_below_drewN | apply below_drew1) | exact HB.out))) : w.heap.size ≤ ge); have GNge := Aside0.mk hg; clear HB; have HB := n0_; have BKge := Aside0.mk hbox; have hcge_0 := blk_cell BKge.out 0; have hfge_0 := blk_frozen BKge.out 0; have hcge_1 := blk_cell BKge.out 1; have hfge_1 := blk_frozen BKge.out 1; have hcge_2 := blk_cell BKge.out 2; have hfge_2 := blk_frozen BKge.out 2; have hcge_3 := blk_cell BKge.out 3; have hfge_3 := blk_frozen BKge.out 3; have hcge_4 := blk_cell BKge.out 4; have hfge_4 := blk_frozen BKge.out 4; simp only [List.getElem?_toArray, List.getElem?_cons_zero, List.getElem?_cons_succ] at hcge_0 hcge_1 hcge_2 hcge_3 hcge_4; clear n0_ hb hbox hg) | (go_at_call 31; (with_reducible refine (refItemCheck_calls e _).mono ?_); rintro e2 w2 ⟨rfl, hb⟩; have n0_ := Aside0.mk (below_step (by repeat (first | (with_reducible first | exact HB.out | apply below_alloc | apply pw_below_drewN | apply below_drew1) | exact HB.out)) hb); clear HB; have HB := n0_; clear n0_; have n1_ := Aside0.mk (blk_below BKge.out hb); clear BKge hcge_0 hfge_0 hcge_1 hfge_1 hcge_2 hfge_2 hcge_3 hfge_3 hcge_4 hfge_4; have BKge := n1_; clear n1_; have hcge_0 := blk_cell BKge.out 0; have hfge_0 := blk_frozen BKge.out 0; have hcge_1 := blk_cell BKge.out 1; have hfge_1 := blk_frozen BKge.out 1; have hcge_2 := blk_cell BKge.out 2; have hfge_2 := blk_frozen BKge.out 2; have hcge_3 := blk_cell BKge.out 3; have hfge_3 := blk_frozen BKge.out 3; have hcge_4 := blk_cell BKge.out 4; have hfge_4 := blk_frozen BKge.out 4; simp only [List.getElem?_toArray, List.getElem?_cons_zero, List.getElem?_cons_succ] at hcge_0 hcge_1 hcge_2 hcge_3 hcge_4; clear hb))
    go_loopw [6] (fun v6 w' => ∃ i : Nat, v6 = .int .i64 i ∧ i ≤ ws.length ∧ Aside0 (ws.find? (sameN e) = (ws.drop i).find? (sameN e)) ∧ Aside0 (Below w.heap.size w w') ∧ Aside0 (w'.heap[ge]? = some (.cells #[.string e.f0, .int .i64 e.f1.f0, .int .i64 e.f1.f1, .string e.f2, .bool e.f3] 31 (0, 0)))) (fun v6 _ => ws.length - (intOf v6).toNat)
    case atStart => exact ⟨0, rfl, Nat.zero_le _, ⟨rfl⟩, HB, BKge⟩
    case round =>
      clear BKge hcge_0 hfge_0 hcge_1 hfge_1 hcge_2 hfge_2 hcge_3 hfge_3 hcge_4 hfge_4
      clear HB
      obtain ⟨i, rfl, hi, HS, HB, BKge⟩ := hrel
      have hcge_0 := blk_cell BKge.out 0; have hfge_0 := blk_frozen BKge.out 0; have hcge_1 := blk_cell BKge.out 1; have hfge_1 := blk_frozen BKge.out 1; have hcge_2 := blk_cell BKge.out 2; have hfge_2 := blk_frozen BKge.out 2; have hcge_3 := blk_cell BKge.out 3; have hfge_3 := blk_frozen BKge.out 3; have hcge_4 := blk_cell BKge.out 4; have hfge_4 := blk_frozen BKge.out 4; simp only [List.getElem?_toArray, List.getElem?_cons_zero, List.getElem?_cons_succ] at hcge_0 hcge_1 hcge_2 hcge_3 hcge_4
      have hqc : wr.cell? ⟨q, 0, none⟩ = some (.slice A ws.length c) := (blk_cell (blk_below HP.out HB.out) 0).trans HV.out
      have hqb : q < wr.heap.size := Nat.lt_of_lt_of_le (blk_lt HP.out) HB.out.size
      by_cases hlt : i < ws.length
      · obtain ⟨ad, ead, hx0, hx1, hx2, hx3, hx4⟩ := at_TEnt HC.out (i : Int) (by omega) (by omega)
        cases ead
        obtain ⟨x, hx⟩ : ∃ x, rd_TEnt ws (i : Int) = x := ⟨_, rfl⟩
        rw [hx] at hx0 hx1 hx2 hx3 hx4
        simp only [Int.toNat_natCast] at hx0 hx1 hx2 hx3 hx4
        have HX := Aside0.mk hx
        clear hx
        replace hx0 := pw_cell_below HB.out hx0
        replace hx1 := pw_cell_below HB.out hx1
        replace hx2 := pw_cell_below HB.out hx2
        replace hx3 := pw_cell_below HB.out hx3
        replace hx4 := pw_cell_below HB.out hx4
        have hlt' : (i : Int) < (ws.length : Int) := by omega
        have hlt0 : (0 : Int) ≤ (i : Int) := by omega
        cases hk : (x.f0.toList == e.f0.toList)
        · have hs : sameN e x = false := by rw [sameN_comm, hk]; rfl
          have HSN := Aside0.mk hs
          clear hs
          go_wp2
          go_quiet (fail)
          go_wp2
          go_roundw
          case rel => exact ⟨i + 1, by go_num, by omega, ⟨by rw [HS.out, find_drop hlt HX.out HSN.out]⟩, ⟨pw_below_drewN HB.out _⟩, ⟨blk_drewN BKge.out _⟩⟩
          case measure => simp [intOf]; omega
        · cases hk2 : (x.f1.f0 == e.f1.f0 && (x.f1.f1 == e.f1.f1))
          · have hs : sameN e x = false := by rw [sameN_comm, hk, hk2]; rfl
            have HSN := Aside0.mk hs
            clear hs
            go_wp2
            go_quiet (fail)
            go_wp2
            go_roundw
            case rel => exact ⟨i + 1, by go_num, by omega, ⟨by rw [HS.out, find_drop hlt HX.out HSN.out]⟩, ⟨pw_below_drewN HB.out _⟩, ⟨blk_drewN BKge.out _⟩⟩
            case measure => simp [intOf]; omega
          · have hs : sameN e x = true := by rw [sameN_comm, hk, hk2]; rfl
            have hfd : ws.find? (sameN e) = some x := by rw [HS.out, find_hit hlt HX.out hs]
            by_cases hxe : x = e
            · subst hxe
              have e1 : wroteC ws x = 0 := by simp [wroteC, HCK.out, hfd]
              have e2 : wroteW ws x = ws := by simp [wroteW, e1, addW, hfd]
              have HE := Aside0.mk (And.intro e1 e2)
              have heq := eqE_true x
              clear e1 e2 hs hfd
              go_wp2
              go_quiet (fail)
              go_wp2
              go_quiet (fail)
              go_wp2
              go_ret
              refine ⟨ret_int HE.out.1.symm, ?_, Frm.of_below (pw_below_drewN (pw_below_drewN HB.out _) _) _⟩
              rw [HE.out.2]
              exact (HG.out.same fun k _ hlt => HB.out.block k hlt).mono fun k hk => .inl hk
            · have e1 : wroteC ws e = 190 := by simp [wroteC, HCK.out, hfd, hxe]
              have e2 : wroteW ws e = ws := by simp [wroteW, e1]
              have HE := Aside0.mk (And.intro e1 e2)
              have heq := eqE_false hxe
              have hk3 : (x.f2.toList == e.f2.toList && (x.f3 == e.f3)) = false := by rw [hk, hk2] at heq; simpa using heq
              clear e1 e2 hs hfd
              go_wp2
              go_quiet (fail)
              go_wp2
              go_quiet (fail)
              go_wp2
              go_ret
              refine ⟨ret_int HE.out.1.symm, ?_, Frm.of_below (pw_below_drewN (pw_below_drewN HB.out _) _) _⟩
              rw [HE.out.2]
              exact (HG.out.same fun k _ hlt => HB.out.block k hlt).mono fun k hk => .inl hk
      · have hge : ¬ (i : Int) < (ws.length : Int) := by omega
        have hfd : ws.find? (sameN e) = none := by rw [HS.out, List.drop_of_length_le (by omega)]; rfl
        have e1 : wroteC ws e = 0 := by simp [wroteC, HCK.out, hfd]
        have e2 : wroteW ws e = ws ++ [e] := by simp [wroteW, e1, addW, hfd]
        have HE := Aside0.mk (And.intro e1 e2)
        clear e1 e2 hfd
        go_upto_region 11 with (fail)
        have hqf : wr.frozen? ⟨q, 0, none⟩ = false := blk_frozen (blk_below HP.out HB.out) 0
        have HRr := Aside0.mk (Kd.R_below HR.out HB.out)
        have HBr := Aside0.mk (below_step HB0.out HB.out)
        have HQ := Aside0.mk (blk_below HP.out HB.out)
        go_region_law (refine Kd.R_append_step kEnt (w0 := w0) (W := wr.drew) w0.heap.size rfl (.tmp 58) (.tmp 60) 32 31 (.agg #[(.string ⟨#[]⟩), (.int .i64 0), (.int .i64 0), (.string ⟨#[]⟩), (.bool false)]) 56 rfl Try.underlying32 infoEnt rfl (by decide) (by omega) (.slice A ws.length c) ws e [.string e.f0, .int .i64 e.f1.f0, .int .i64 e.f1.f1, .string e.f2, .bool e.f3] (fun k => (ok k ∧ k ≠ q) ∨ wr.heap.size ≤ k) (fun _ => False) rfl rfl (kEnt_mkM _ _ _ _) (fun _ h => h.elim) (fun _ h => .inr h) (Kd.R_mono (Kd.R_drew HRr.out) (fun _ h => .inl h)) (below_drew HBr.out) (below_drew HBr.out).size (by have := HLN.out; omega) ?_; intro v1 w1 hR1 hb1 hg1 hat1; obtain ⟨A1, c1, rfl, _, _, _⟩ := own_form hR1; have hq1 := blk_grown (blk_drew HQ.out) hg1 (fun h => (HR.out.1 q h.symm).2 rfl); have hqc1 : w1.cell? ⟨q, 0, none⟩ = some (.slice A ws.length c) := (blk_cell hq1 0).trans HV.out; have hqf1 : w1.frozen? ⟨q, 0, none⟩ = false := blk_frozen hq1 0; have HN := Aside0.mk (And.intro hR1 (And.intro hb1 (And.intro hg1 (And.intro hat1 hq1)))); clear hR1 hb1 hg1 hat1 hq1)
        all_goals
          go_wp2
          go_ret
          obtain ⟨h1, h2, h3, h4, h5⟩ := HN.out
          have hp := refat_push HG.out HP.out HV.out HB.out h3 h1 h4 h5
          rw [show (ws ++ [e]).length = ws.length + 1 by simp] at hp
          exact ⟨ret_int HE.out.1.symm, by rw [HE.out.2]; exact hp.1, hp.2⟩
  · have hckb : (ckEnt e == 0) = false := by simp [hck]
    have hckb1 : (ckEnt e != 0) = true := by simp [hck]
    have e1 : wroteC ws e = ckEnt e := by rw [wroteC, if_neg hck]
    have e2 : wroteW ws e = ws := by rw [wroteW, e1, if_neg hck]
    have HE := Aside0.mk (And.intro e1 e2)
    clear hck e1 e2
    go_enter Try.func17, Try.ntmps17
    go_wp2_with (first | ((with_reducible refine gate_dst (N := 3) rfl ?_); refine box_event ?hg (N := 3) ?hd (cs := #[.string e.f0, .int .i64 e.f1.f0, .int .i64 e.f1.f1, .string e.f2, .bool e.f3]) (t := 31) ?hr ?_; (case hd => rfl); (case hg => rfl); (case hr => first | (go_simp; done) | (go_simp; rfl)); intro ge hg W_ge hbox hb; have n0_ := Aside0.mk (below_step (by repeat (first | (with_reducible first | exact HB.out | apply below_alloc | apply pw_below_drewN | apply below_drew1) | exact HB.out)) hb); have GEge := Aside0.mk (by rw [hg]; exact (below_size (by repeat (first | (with_reducible first | exact HB.out | apply below_alloc | apply pw_below_drewN | apply below_drew1) | exact HB.out))) : w.heap.size ≤ ge); have GNge := Aside0.mk hg; clear HB; have HB := n0_; have BKge := Aside0.mk hbox; have hcge_0 := blk_cell BKge.out 0; have hfge_0 := blk_frozen BKge.out 0; have hcge_1 := blk_cell BKge.out 1; have hfge_1 := blk_frozen BKge.out 1; have hcge_2 := blk_cell BKge.out 2; have hfge_2 := blk_frozen BKge.out 2; have hcge_3 := blk_cell BKge.out 3; have hfge_3 := blk_frozen BKge.out 3; have hcge_4 := blk_cell BKge.out 4; have hfge_4 := blk_frozen BKge.out 4; simp only [List.getElem?_toArray, List.getElem?_cons_zero, List.getElem?_cons_succ] at hcge_0 hcge_1 hcge_2 hcge_3 hcge_4; clear n0_ hb hbox hg) | (go_at_call 31; (with_reducible refine (refItemCheck_calls e _).mono ?_); rintro e2 w2 ⟨rfl, hb⟩; have n0_ := Aside0.mk (below_step (by repeat (first | (with_reducible first | exact HB.out | apply below_alloc | apply pw_below_drewN | apply below_drew1) | exact HB.out)) hb); clear HB; have HB := n0_; clear n0_; have n1_ := Aside0.mk (blk_below BKge.out hb); clear BKge hcge_0 hfge_0 hcge_1 hfge_1 hcge_2 hfge_2 hcge_3 hfge_3 hcge_4 hfge_4; have BKge := n1_; clear n1_; have hcge_0 := blk_cell BKge.out 0; have hfge_0 := blk_frozen BKge.out 0; have hcge_1 := blk_cell BKge.out 1; have hfge_1 := blk_frozen BKge.out 1; have hcge_2 := blk_cell BKge.out 2; have hfge_2 := blk_frozen BKge.out 2; have hcge_3 := blk_cell BKge.out 3; have hfge_3 := blk_frozen BKge.out 3; have hcge_4 := blk_cell BKge.out 4; have hfge_4 := blk_frozen BKge.out 4; simp only [List.getElem?_toArray, List.getElem?_cons_zero, List.getElem?_cons_succ] at hcge_0 hcge_1 hcge_2 hcge_3 hcge_4; clear hb))
    go_ret
    refine ⟨ret_int HE.out.1.symm, ?_, Frm.of_below HB.out _⟩
    rw [HE.out.2]
    exact (HG.out.same fun k _ hlt => HB.out.block k hlt).mono fun k hk => .inl hk

theorem mem_drop_step {ws : List Ent} {e x : Ent} {i : Nat} (h : i < ws.length) (hx : rd_TEnt ws (i : Int) = x) (hne : ¬ x = e) : decide (e ∈ ws.drop i) = decide (e ∈ ws.drop (i + 1)) := by
  rw [ckFrom_step0 h hx]
  simp only [List.mem_cons]
  congr 1
  apply propext
  constructor
  · rintro (h | h)
    · exact absurd h.symm hne
    · exact h
  · exact fun h => .inr h
attribute [local go_sem high] eqEnt in
set_option maxHeartbeats 2000000 in
theorem refwritten_calls (q : Nat) (ws : List Ent) (ls : Nat → List Ent) (B : Nat) (ok : Nat → Prop) (e : Ent) (w : World) (hG : RefAt w B ok q ws ls) :
    Calls Try.prog 18 #[.pointer (some ⟨q, 0, none⟩), vEnt e] w fun r w' => r = .returned (.bool (decide (e ∈ ws))) ∧ Below w.heap.size w w' := by
  have huE := Try.underlying31
  obtain ⟨cs, v, hq, hcs, hv, hR, hokq, hBq, hls⟩ := hG
  have HP := Aside0.mk hq
  have HV := Aside0.mk hv
  obtain ⟨A, c, rfl, hc, hC⟩ := Kd.R_reads hR
  have HC := Aside0.mk hC
  have hmax := Kd.C_max hC
  clear hq hv hR hls hcs hC hc
  have HB := Aside0.mk (Below.refl w.heap.size w)
  unfold vEnt
  go_enter Try.func18, Try.ntmps18
  go_wp2_with (first | ((with_reducible refine gate_dst (N := 3) rfl ?_); refine box_event ?hg (N := 3) ?hd (cs := #[.string e.f0, .int .i64 e.f1.f0, .int .i64 e.f1.f1, .string e.f2, .bool e.f3]) (t := 31) ?hr ?_; (case hd => rfl); (case hg => rfl); (case hr => first | (go_simp; done) | (go_simp; rfl)); intro ge hg W_ge hbox hb; have n0_ := Aside0.mk (below_step (by repeat (first | (with_reducible first | exact HB.out | apply below_alloc | apply pw_below_drewN | apply below_drew1) | exact HB.out)) hb); have GEge := Aside0.mk (by rw [hg]; exact (below_size (by repeat (first | (with_reducible first | exact HB.out | apply below_alloc | apply pw_below_drewN | apply below_drew1) | exact HB.out))) : w.heap.size ≤ ge); have GNge := Aside0.mk hg; clear HB; have HB := n0_; have BKge := Aside0.mk hbox; have hcge_0 := blk_cell BKge.out 0; have hfge_0 := blk_frozen BKge.out 0; have hcge_1 := blk_cell BKge.out 1; have hfge_1 := blk_frozen BKge.out 1; have hcge_2 := blk_cell BKge.out 2; have hfge_2 := blk_frozen BKge.out 2; have hcge_3 := blk_cell BKge.out 3; have hfge_3 := blk_frozen BKge.out 3; have hcge_4 := blk_cell BKge.out 4; have hfge_4 := blk_frozen BKge.out 4; simp only [List.getElem?_toArray, List.getElem?_cons_zero, List.getElem?_cons_succ] at hcge_0 hcge_1 hcge_2 hcge_3 hcge_4; clear n0_ hb hbox hg))
  go_loopw [5] (fun v6 w' => ∃ i : Nat, v6 = .int .i64 i ∧ i ≤ ws.length ∧ Aside0 (decide (e ∈ ws) = decide (e ∈ ws.drop i)) ∧ Aside0 (Below w.heap.size w w') ∧ Aside0 (w'.heap[ge]? = some (.cells #[.string e.f0, .int .i64 e.f1.f0, .int .i64 e.f1.f1, .string e.f2, .bool e.f3] 31 (0, 0)))) (fun v6 _ => ws.length - (intOf v6).toNat)
  case atStart => exact ⟨0, rfl, Nat.zero_le _, ⟨rfl⟩, HB, BKge⟩
  case round =>
    clear BKge hcge_0 hfge_0 hcge_1 hfge_1 hcge_2 hfge_2 hcge_3 hfge_3 hcge_4 hfge_4
    clear HB
    obtain ⟨i, rfl, hi, HS, HB, BKge⟩ := hrel
    have hcge_0 := blk_cell BKge.out 0; have hfge_0 := blk_frozen BKge.out 0; have hcge_1 := blk_cell BKge.out 1; have hfge_1 := blk_frozen BKge.out 1; have hcge_2 := blk_cell BKge.out 2; have hfge_2 := blk_frozen BKge.out 2; have hcge_3 := blk_cell BKge.out 3; have hfge_3 := blk_frozen BKge.out 3; have hcge_4 := blk_cell BKge.out 4; have hfge_4 := blk_frozen BKge.out 4; simp only [List.getElem?_toArray, List.getElem?_cons_zero, List.getElem?_cons_succ] at hcge_0 hcge_1 hcge_2 hcge_3 hcge_4
    have hqc : wr.cell? ⟨q, 0, none⟩ = some (.slice A ws.length c) := (blk_cell (blk_below HP.out HB.out) 0).trans HV.out
    by_cases hlt : i < ws.length
    · obtain ⟨ad, ead, hx0, hx1, hx2, hx3, hx4⟩ := at_TEnt HC.out (i : Int) (by omega) (by omega)
      cases ead
      obtain ⟨x, hx⟩ : ∃ x, rd_TEnt ws (i : Int) = x := ⟨_, rfl⟩
      rw [hx] at hx0 hx1 hx2 hx3 hx4
      simp only [Int.toNat_natCast] at hx0 hx1 hx2 hx3 hx4
      have HX := Aside0.mk hx
      clear hx
      replace hx0 := pw_cell_below HB.out hx0
      replace hx1 := pw_cell_below HB.out hx1
      replace hx2 := pw_cell_below HB.out hx2
      replace hx3 := pw_cell_below HB.out hx3
      replace hx4 := pw_cell_below HB.out hx4
      have hlt' : (i : Int) < (ws.length : Int) := by omega
      have hlt0 : (0 : Int) ≤ (i : Int) := by omega
      by_cases hxe : x = e
      · subst hxe
        have hm : decide (x ∈ ws) = true := by rw [HS.out, ckFrom_step0 hlt HX.out]; simp
        have HM := Aside0.mk hm
        have heq := eqE_true x
        clear hm
        go_wp2
        go_quiet (fail)
        go_wp2
        go_ret
        rw [HM.out]
        exact ⟨rfl, pw_below_drewN HB.out _⟩
      · have heq := eqE_false hxe
        have HN := Aside0.mk hxe
        clear hxe
        go_wp2
        go_quiet (fail)
        go_wp2
        go_roundw
        case rel => exact ⟨i + 1, by go_num, by omega, ⟨by rw [HS.out, mem_drop_step hlt HX.out HN.out]⟩, ⟨pw_below_drewN HB.out _⟩, ⟨blk_drewN BKge.out _⟩⟩
        case measure => simp [intOf]; omega
    · have hge : ¬ (i : Int) < (ws.length : Int) := by omega
      have hm : decide (e ∈ ws) = false := by rw [HS.out, List.drop_of_length_le (by omega)]; simp
      have HM := Aside0.mk hm
      clear hm
      go_wp2
      go_ret
      rw [HM.out]
      exact ⟨rfl, HB.out⟩
end Go.Proofs.Ytplnofodmgddmaa
