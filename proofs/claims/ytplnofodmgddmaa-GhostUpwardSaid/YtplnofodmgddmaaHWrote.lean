import Derived.Test.YtplnofodmgddmaaHMap
import Derived.Test.YtplnofodmgddmaaHBoth
import Derived.Lib.SlicesS
/- A ghost in memory; Wrote and Written. -/
set_option linter.unusedVariables false
set_option linter.unusedSimpArgs false
namespace Go.Proofs.Ytplnofodmgddmaa
open Go.RowKit Go.Proofs.YtplnofodmgddmaaW.PrintWords Go.Proofs.YtplnofodmgddmaaW.PrintLast Go.Proofs.YtplnofodmgddmaaW.PrintMore

/-- a slice that reads as l, its block (if it has elements) in ok -/
def SliceAt (w : World) (ok : Nat → Prop) (v : Value) (l : List Ent) : Prop :=
  ∃ A c, v = .slice A l.length c ∧ l.length ≤ c ∧ Kd.C kEnt w A l.length l ∧ ∀ ad, A = some ad → 0 < l.length → ok ad.block
theorem SliceAt.same {w w' : World} {ok ok' : Nat → Prop} {v : Value} {l : List Ent} (h : SliceAt w ok v l) (hs : ∀ k, ok k → k < w.heap.size → w'.heap[k]? = w.heap[k]?) (ho : ∀ k, ok k → ok' k) : SliceAt w' ok' v l := by
  obtain ⟨A, c, rfl, h1, h2, h3⟩ := h
  exact ⟨A, c, rfl, h1, C_same kEnt_flat h2 (fun ad e hn => hs _ (h3 ad e hn) (C_lt kEnt_szpos h2 e hn)), fun ad e hn => ho _ (h3 ad e hn)⟩
/-- the program's ghost -/
def GhostAt (w : World) (ok : Nat → Prop) (p : Nat) (ws : List Ent) (ls : Nat → List Ent) : Prop :=
  ∃ m cs, w.heap[p]? = some (.cells cs 51 (0, 0)) ∧ cs.size = 9 ∧ cs[0]? = some (.map (some m)) ∧ MapIs w m ws ∧ ok p ∧ ok m ∧
    ∀ i, i < 8 → ∃ v, cs[1 + i]? = some v ∧ SliceAt w (fun k => ok k ∧ k ≠ p ∧ k ≠ m) v (ls i)
theorem MapIs.lt {w : World} {m : Nat} {ws : List Ent} (h : MapIs w m ws) : m < w.heap.size := by
  obtain ⟨es, clk, h, _⟩ := h
  exact (Array.getElem?_eq_some_iff.1 h).1
theorem MapIs.same {w w' : World} {m : Nat} {ws : List Ent} (h : MapIs w m ws) (hs : w'.heap[m]? = w.heap[m]?) : MapIs w' m ws := by
  obtain ⟨es, clk, h, h2⟩ := h
  exact ⟨es, clk, hs.trans h, h2⟩
theorem GhostAt.same {w w' : World} {ok : Nat → Prop} {p : Nat} {ws : List Ent} {ls : Nat → List Ent} (h : GhostAt w ok p ws ls) (hs : ∀ k, ok k → k < w.heap.size → w'.heap[k]? = w.heap[k]?) : GhostAt w' ok p ws ls := by
  obtain ⟨m, cs, h1, h2, h3, h4, h5, h6, h7⟩ := h
  refine ⟨m, cs, (hs p h5 (blk_lt h1)).trans h1, h2, h3, h4.same (hs m h6 h4.lt), h5, h6, fun i hi => ?_⟩
  obtain ⟨v, hv, hS⟩ := h7 i hi
  exact ⟨v, hv, hS.same (fun k hk hlt => hs k hk.1 hlt) (fun _ hk => hk)⟩
theorem GhostAt.frm {w w' : World} {ok S : Nat → Prop} {p : Nat} {ws : List Ent} {ls : Nat → List Ent} (h : GhostAt w ok p ws ls) (hf : Frm S w w') (hd : ∀ k, ok k → ¬ S k) : GhostAt w' ok p ws ls :=
  h.same fun k hk hlt => hf.block k hlt (hd k hk)
theorem GhostAt.mono {w : World} {ok ok' : Nat → Prop} {p : Nat} {ws : List Ent} {ls : Nat → List Ent} (h : GhostAt w ok p ws ls) (hm : ∀ k, ok k → ok' k) : GhostAt w ok' p ws ls := by
  obtain ⟨m, cs, h1, h2, h3, h4, h5, h6, h7⟩ := h
  refine ⟨m, cs, h1, h2, h3, h4, hm _ h5, hm _ h6, fun i hi => ?_⟩
  obtain ⟨v, hv, hS⟩ := h7 i hi
  exact ⟨v, hv, hS.same (fun _ _ _ => rfl) (fun k hk => ⟨hm _ hk.1, hk.2⟩)⟩

theorem ghost_put {w w' : World} {ok : Nat → Prop} {p m : Nat} {ws ws' : List Ent} {ls : Nat → List Ent} {cs : Array Value} (hG : GhostAt w ok p ws ls) (hp : w.heap[p]? = some (.cells cs 51 (0, 0))) (hm0 : cs[0]? = some (.map (some m)))
    (hf : Frm (fun k => k = m) w w') (hM : MapIs w' m ws') : GhostAt w' ok p ws' ls := by
  obtain ⟨m', cs', h1, h2, h3, h4, h5, h6, h7⟩ := hG
  rw [hp] at h1
  simp only [Option.some.injEq, Obj.cells.injEq] at h1
  obtain ⟨rfl, _, _⟩ := h1
  rw [hm0] at h3
  simp only [Option.some.injEq, Value.map.injEq] at h3
  subst h3
  have hpm : p ≠ m := by
    rintro rfl
    obtain ⟨es, clk, h, _⟩ := h4
    rw [hp] at h
    cases h
  refine ⟨m, cs, hf.blk hp hpm, h2, hm0, hM, h5, h6, fun i hi => ?_⟩
  obtain ⟨v, hv, hS⟩ := h7 i hi
  exact ⟨v, hv, hS.same (fun k hk hlt => hf.block k hlt hk.2.2) (fun _ hk => hk)⟩
theorem blk3 {W : World} {g t : Nat} {a0 a1 a2 : Value} (h : W.heap[g]? = some (.cells #[a0, a1, a2] t (0, 0))) (b0 b1 b2 : Value) :
    (((W.setCell ⟨g, 0, none⟩ b0).setCell ⟨g, 1, none⟩ b1).setCell ⟨g, 2, none⟩ b2).heap[g]? = some (.cells #[b0, b1, b2] t (0, 0)) :=
  blk_put (blk_put (blk_put h 0 b0 rfl) 1 b1 rfl) 2 b2 rfl

/-- two entries held against each other, as the walk spells it -/
theorem eqE_iff (x y : Ent) : (x.f0.toList == y.f0.toList && ((x.f1.f0 == y.f1.f0 && (x.f1.f1 == y.f1.f1)) && (x.f2.toList == y.f2.toList && (x.f3 == y.f3)))) = decide (x = y) := by
  rcases x with ⟨a, ⟨b, c⟩, d, e⟩
  rcases y with ⟨a', ⟨b', c'⟩, d', e'⟩
  rw [Bool.eq_iff_iff]
  simp only [Bool.and_eq_true, decide_eq_true_eq, Lib.bytes_beq_iff, Ent.mk.injEq, Ver.mk.injEq]
  simp only [beq_iff_eq]
theorem eqE_false {x y : Ent} (h : ¬ x = y) : (x.f0.toList == y.f0.toList && ((x.f1.f0 == y.f1.f0 && (x.f1.f1 == y.f1.f1)) && (x.f2.toList == y.f2.toList && (x.f3 == y.f3)))) = false := by
  rw [eqE_iff]; simpa using h
theorem eqE_true (x : Ent) : (x.f0.toList == x.f0.toList && ((x.f1.f0 == x.f1.f0 && (x.f1.f1 == x.f1.f1)) && (x.f2.toList == x.f2.toList && (x.f3 == x.f3)))) = true := by
  rw [eqE_iff]; simp
/-- what Wrote answers, and what is known then -/
def wroteC (ws : List Ent) (e : Ent) : Int := if ckEnt e = 0 then (match ws.find? (sameN e) with | some x => if x = e then 0 else 190 | none => 0) else ckEnt e
def wroteW (ws : List Ent) (e : Ent) : List Ent := if wroteC ws e = 0 then addW ws e else ws

attribute [local go_sem high] eqEnt in
set_option maxHeartbeats 1000000 in
theorem wrote_calls (p : Nat) (ws : List Ent) (ls : Nat → List Ent) (ok : Nat → Prop) (e : Ent) (w : World) (hG : GhostAt w ok p ws ls) :
    Calls Try.prog 13 #[.pointer (some ⟨p, 0, none⟩), vEnt e] w fun r w' => r = .returned (.int .i64 (wroteC ws e)) ∧ GhostAt w' ok p (wroteW ws e) ls ∧ Frm ok w w' := by
  have HG := Aside0.mk hG
  have huE := Try.underlying31
  have huN := Try.underlying58
  obtain ⟨m, cs, hp, hcs, hm0, hM, hokp, hokm, hls⟩ := hG
  have HP := Aside0.mk hp
  have HM := Aside0.mk hM
  have HM0 := Aside0.mk hm0
  clear hp hM hm0 hls hcs
  have HB := Aside0.mk (Below.refl w.heap.size w)
  unfold vEnt
  by_cases hck : ckEnt e = 0
  · have hckb : (ckEnt e == 0) = true := beq_iff_eq.2 hck
    have hckb1 : (ckEnt e != 0) = false := by simp [hck]
    have HCK := Aside0.mk hck
    clear hck
    go_enter Try.func13, Try.ntmps13
    go_upto_region 5 with (first | ((with_reducible refine gate_dst (N := 3) rfl ?_); refine box_event ?hg (N := 3) ?hd (cs := #[.string e.f0, .int .i64 e.f1.f0, .int .i64 e.f1.f1, .string e.f2, .bool e.f3]) (t := 31) ?hr ?_; (case hd => rfl); (case hg => rfl); (case hr => first | (go_simp; done) | (go_simp; rfl)); intro ge hg W_ge hbox hb; have n0_ := Aside0.mk (below_step (by repeat (first | (with_reducible first | exact HB.out | apply below_alloc | apply pw_below_drewN | apply below_drew1) | exact HB.out)) hb); have GEge := Aside0.mk (by rw [hg]; exact (below_size (by repeat (first | (with_reducible first | exact HB.out | apply below_alloc | apply pw_below_drewN | apply below_drew1) | exact HB.out))) : w.heap.size ≤ ge); have GNge := Aside0.mk hg; clear HB; have HB := n0_; have BKge := Aside0.mk hbox; have hcge_0 := blk_cell BKge.out 0; have hfge_0 := blk_frozen BKge.out 0; have hcge_1 := blk_cell BKge.out 1; have hfge_1 := blk_frozen BKge.out 1; have hcge_2 := blk_cell BKge.out 2; have hfge_2 := blk_frozen BKge.out 2; have hcge_3 := blk_cell BKge.out 3; have hfge_3 := blk_frozen BKge.out 3; have hcge_4 := blk_cell BKge.out 4; have hfge_4 := blk_frozen BKge.out 4; simp only [List.getElem?_toArray, List.getElem?_cons_zero, List.getElem?_cons_succ] at hcge_0 hcge_1 hcge_2 hcge_3 hcge_4; clear n0_ hb hbox hg) | ((with_reducible refine gate_dst (N := 6) rfl ?_); refine box_event ?hg (N := 6) ?hd (cs := #[.string (⟨#[]⟩ : ByteArray), .int .i64 0, .int .i64 0]) (t := 58) ?hr ?_; (case hd => rfl); (case hg => rfl); (case hr => first | (go_simp; done) | (go_simp; rfl)); intro gn hg W_gn hbox hb; have n0_ := Aside0.mk (below_step (by repeat (first | (with_reducible first | exact HB.out | apply below_alloc | apply pw_below_drewN | apply below_drew1) | exact HB.out)) hb); have GEgn := Aside0.mk (by rw [hg]; exact (below_size (by repeat (first | (with_reducible first | exact HB.out | apply below_alloc | apply pw_below_drewN | apply below_drew1) | exact HB.out))) : w.heap.size ≤ gn); have GNgn := Aside0.mk hg; clear HB; have HB := n0_; have BKgn := Aside0.mk hbox; have hcgn_0 := blk_cell BKgn.out 0; have hfgn_0 := blk_frozen BKgn.out 0; have hcgn_1 := blk_cell BKgn.out 1; have hfgn_1 := blk_frozen BKgn.out 1; have hcgn_2 := blk_cell BKgn.out 2; have hfgn_2 := blk_frozen BKgn.out 2; simp only [List.getElem?_toArray, List.getElem?_cons_zero, List.getElem?_cons_succ] at hcgn_0 hcgn_1 hcgn_2; have Hne := Aside0.mk (show ge ≠ gn by rw [hg]; exact Nat.ne_of_lt (blk_lt BKge.out)); have n1_ := Aside0.mk (blk_below BKge.out hb); clear BKge hcge_0 hfge_0 hcge_1 hfge_1 hcge_2 hfge_2 hcge_3 hfge_3 hcge_4 hfge_4; have BKge := n1_; clear n1_; have hcge_0 := blk_cell BKge.out 0; have hfge_0 := blk_frozen BKge.out 0; have hcge_1 := blk_cell BKge.out 1; have hfge_1 := blk_frozen BKge.out 1; have hcge_2 := blk_cell BKge.out 2; have hfge_2 := blk_frozen BKge.out 2; have hcge_3 := blk_cell BKge.out 3; have hfge_3 := blk_frozen BKge.out 3; have hcge_4 := blk_cell BKge.out 4; have hfge_4 := blk_frozen BKge.out 4; simp only [List.getElem?_toArray, List.getElem?_cons_zero, List.getElem?_cons_succ] at hcge_0 hcge_1 hcge_2 hcge_3 hcge_4; clear n0_ hb hbox hg) | (go_at_call 25; (with_reducible refine (itemCheck_calls e _).mono ?_); rintro e2 w2 ⟨rfl, hb⟩; have n0_ := Aside0.mk (below_step (by repeat (first | (with_reducible first | exact HB.out | apply below_alloc | apply pw_below_drewN | apply below_drew1) | exact HB.out)) hb); clear HB; have HB := n0_; clear n0_; have n1_ := Aside0.mk (blk_below BKge.out hb); clear BKge hcge_0 hfge_0 hcge_1 hfge_1 hcge_2 hfge_2 hcge_3 hfge_3 hcge_4 hfge_4; have BKge := n1_; clear n1_; have hcge_0 := blk_cell BKge.out 0; have hfge_0 := blk_frozen BKge.out 0; have hcge_1 := blk_cell BKge.out 1; have hfge_1 := blk_frozen BKge.out 1; have hcge_2 := blk_cell BKge.out 2; have hfge_2 := blk_frozen BKge.out 2; have hcge_3 := blk_cell BKge.out 3; have hfge_3 := blk_frozen BKge.out 3; have hcge_4 := blk_cell BKge.out 4; have hfge_4 := blk_frozen BKge.out 4; simp only [List.getElem?_toArray, List.getElem?_cons_zero, List.getElem?_cons_succ] at hcge_0 hcge_1 hcge_2 hcge_3 hcge_4; clear hb))
    refine wp_gen (F := fun WF => Below w.heap.size w WF ∧ WF.heap[ge]? = some (.cells #[.string e.f0, .int .i64 e.f1.f0, .int .i64 e.f1.f1, .string e.f2, .bool e.f3] 31 (0, 0)) ∧ WF.heap[gn]? = some (.cells #[.string e.f0, .int .i64 e.f1.f0, .int .i64 e.f1.f1] 58 (0, 0))) ⟨?_, ?_, ?_⟩ ?_
    · repeat (with_reducible first | exact HB.out | apply pw_below_drewN | apply below_drew1 | refine below_set ?_ GEge.out | refine below_set ?_ GEgn.out)
    · repeat (with_reducible first | exact BKge.out | apply blk_drewN | refine blk_far ?_ Hne.out _)
    · repeat (with_reducible first | exact BKgn.out | apply blk_drewN | apply blk3)
    rintro WF ⟨hB, hbe, hbn⟩
    clear BKge hcge_0 hfge_0 hcge_1 hfge_1 hcge_2 hfge_2 hcge_3 hfge_3 hcge_4 hfge_4
    clear BKgn hcgn_0 hfgn_0 hcgn_1 hfgn_1 hcgn_2 hfgn_2
    clear HB
    have HB := Aside0.mk hB
    have BKge := Aside0.mk hbe
    have BKgn := Aside0.mk hbn
    clear hB hbe hbn
    have hcge_0 := blk_cell BKge.out 0; have hfge_0 := blk_frozen BKge.out 0; have hcge_1 := blk_cell BKge.out 1; have hfge_1 := blk_frozen BKge.out 1; have hcge_2 := blk_cell BKge.out 2; have hfge_2 := blk_frozen BKge.out 2; have hcge_3 := blk_cell BKge.out 3; have hfge_3 := blk_frozen BKge.out 3; have hcge_4 := blk_cell BKge.out 4; have hfge_4 := blk_frozen BKge.out 4; simp only [List.getElem?_toArray, List.getElem?_cons_zero, List.getElem?_cons_succ] at hcge_0 hcge_1 hcge_2 hcge_3 hcge_4
    have hcgn_0 := blk_cell BKgn.out 0; have hfgn_0 := blk_frozen BKgn.out 0; have hcgn_1 := blk_cell BKgn.out 1; have hfgn_1 := blk_frozen BKgn.out 1; have hcgn_2 := blk_cell BKgn.out 2; have hfgn_2 := blk_frozen BKgn.out 2; simp only [List.getElem?_toArray, List.getElem?_cons_zero, List.getElem?_cons_succ] at hcgn_0 hcgn_1 hcgn_2
    have hpc : WF.cell? ⟨p, 0, none⟩ = some (.map (some m)) := (blk_cell (blk_below HP.out HB.out) 0).trans HM0.out
    have hlk0 := look_run e m ws WF (HM.out.same (HB.out.block m HM.out.lt))
    have hlk1 := look_run e m ws WF.drew (HM.out.same (HB.out.block m HM.out.lt))
    have hlk2 := look_run e m ws (WF.alloc (.cells #[.string ⟨#[]⟩, .int .i64 0, .int .i64 0, .string ⟨#[]⟩, .bool false] 31)).drew (HM.out.same ((below_drew (below_alloc HB.out _)).block m HM.out.lt))
    have l1 := blk_lt BKge.out
    have l2 := blk_lt BKgn.out
    have l3 := Nat.lt_of_lt_of_le (blk_lt HP.out) HB.out.size
    unfold vName at hlk0 hlk1 hlk2
    cases hfd : ws.find? (sameN e) with
    | none =>
      rw [hfd] at hlk0 hlk1 hlk2
      simp only [Option.map_none, Option.getD_none, Option.isSome_none, vNone] at hlk0 hlk1 hlk2
      go_region
      all_goals
        go_upto_region 8 with (fail)
        refine wp_gen (F := fun WF2 => Below w.heap.size w WF2 ∧ WF2.heap[ge]? = some (.cells #[.string e.f0, .int .i64 e.f1.f0, .int .i64 e.f1.f1, .string e.f2, .bool e.f3] 31 (0, 0)) ∧ WF2.heap[gn]? = some (.cells #[.string e.f0, .int .i64 e.f1.f0, .int .i64 e.f1.f1] 58 (0, 0))) ⟨?_, ?_, ?_⟩ ?_; (repeat (with_reducible first | exact HB.out | apply pw_below_drewN | apply below_drew1 | apply below_drew | apply below_alloc)); (repeat (with_reducible first | exact BKge.out | apply blk_drewN | apply blk_drew | refine blk_alloc ?_ _)); (repeat (with_reducible first | exact BKgn.out | apply blk_drewN | apply blk_drew | refine blk_alloc ?_ _)); rintro WF2 ⟨hB, hbe, hbn⟩; clear hpc hlk0 hlk1 hlk2 l1 l2 l3; clear BKge hcge_0 hfge_0 hcge_1 hfge_1 hcge_2 hfge_2 hcge_3 hfge_3 hcge_4 hfge_4; clear BKgn hcgn_0 hfgn_0 hcgn_1 hfgn_1 hcgn_2 hfgn_2; clear HB; have HB := Aside0.mk hB; have BKge := Aside0.mk hbe; have BKgn := Aside0.mk hbn; clear hB hbe hbn; have hcge_0 := blk_cell BKge.out 0; have hfge_0 := blk_frozen BKge.out 0; have hcge_1 := blk_cell BKge.out 1; have hfge_1 := blk_frozen BKge.out 1; have hcge_2 := blk_cell BKge.out 2; have hfge_2 := blk_frozen BKge.out 2; have hcge_3 := blk_cell BKge.out 3; have hfge_3 := blk_frozen BKge.out 3; have hcge_4 := blk_cell BKge.out 4; have hfge_4 := blk_frozen BKge.out 4; simp only [List.getElem?_toArray, List.getElem?_cons_zero, List.getElem?_cons_succ] at hcge_0 hcge_1 hcge_2 hcge_3 hcge_4; have hcgn_0 := blk_cell BKgn.out 0; have hfgn_0 := blk_frozen BKgn.out 0; have hcgn_1 := blk_cell BKgn.out 1; have hfgn_1 := blk_frozen BKgn.out 1; have hcgn_2 := blk_cell BKgn.out 2; have hfgn_2 := blk_frozen BKgn.out 2; simp only [List.getElem?_toArray, List.getElem?_cons_zero, List.getElem?_cons_succ] at hcgn_0 hcgn_1 hcgn_2; have hpc : WF2.cell? ⟨p, 0, none⟩ = some (.map (some m)) := (blk_cell (blk_below HP.out HB.out) 0).trans HM0.out
        obtain ⟨w', hrun, hM', hgr⟩ := upd_run e m ws (fun x hx => by rw [hfd] at hx; cases hx) WF2.drew (HM.out.same (HB.out.block m HM.out.lt))
        have HM' := Aside0.mk hM'; have HGR := Aside0.mk hgr; clear hM' hgr; unfold vName vEnt at hrun; go_region; go_wp2; go_ret; have e1 : wroteC ws e = 0 := (by simp [wroteC, HCK.out, hfd]); have e2 : wroteW ws e = addW ws e := (by simp [wroteW, e1]); rw [e1, e2]; have hfr : Frm (fun k => k = m) w w' := Frm.then_ (Frm.of_below (below_drew HB.out) _) (Frm.of_grown HGR.out (fun k hk => .inl (Option.some.inj hk).symm)) (fun k hk => .inl hk); exact ⟨rfl, ghost_put HG.out HP.out HM0.out hfr HM'.out, hfr.mono (fun k hk => hk ▸ hokm)⟩
    | some x =>
      rw [hfd] at hlk0 hlk1 hlk2
      by_cases hxe : x = e
      · have hfe : ws.find? (sameN e) = some e := by rw [hfd, hxe]
        rw [hxe] at hlk0 hlk1 hlk2
        have heq := eqE_true e
        simp only [Option.map_some, Option.getD_some, Option.isSome_some, vEnt] at hlk0 hlk1 hlk2
        go_region
        all_goals
          go_upto_region 8 with (fail)
          refine wp_gen (F := fun WF2 => Below w.heap.size w WF2 ∧ WF2.heap[ge]? = some (.cells #[.string e.f0, .int .i64 e.f1.f0, .int .i64 e.f1.f1, .string e.f2, .bool e.f3] 31 (0, 0)) ∧ WF2.heap[gn]? = some (.cells #[.string e.f0, .int .i64 e.f1.f0, .int .i64 e.f1.f1] 58 (0, 0))) ⟨?_, ?_, ?_⟩ ?_; (repeat (with_reducible first | exact HB.out | apply pw_below_drewN | apply below_drew1 | apply below_drew | apply below_alloc)); (repeat (with_reducible first | exact BKge.out | apply blk_drewN | apply blk_drew | refine blk_alloc ?_ _)); (repeat (with_reducible first | exact BKgn.out | apply blk_drewN | apply blk_drew | refine blk_alloc ?_ _)); rintro WF2 ⟨hB, hbe, hbn⟩; clear hpc hlk0 hlk1 hlk2 l1 l2 l3; clear BKge hcge_0 hfge_0 hcge_1 hfge_1 hcge_2 hfge_2 hcge_3 hfge_3 hcge_4 hfge_4; clear BKgn hcgn_0 hfgn_0 hcgn_1 hfgn_1 hcgn_2 hfgn_2; clear HB; have HB := Aside0.mk hB; have BKge := Aside0.mk hbe; have BKgn := Aside0.mk hbn; clear hB hbe hbn; have hcge_0 := blk_cell BKge.out 0; have hfge_0 := blk_frozen BKge.out 0; have hcge_1 := blk_cell BKge.out 1; have hfge_1 := blk_frozen BKge.out 1; have hcge_2 := blk_cell BKge.out 2; have hfge_2 := blk_frozen BKge.out 2; have hcge_3 := blk_cell BKge.out 3; have hfge_3 := blk_frozen BKge.out 3; have hcge_4 := blk_cell BKge.out 4; have hfge_4 := blk_frozen BKge.out 4; simp only [List.getElem?_toArray, List.getElem?_cons_zero, List.getElem?_cons_succ] at hcge_0 hcge_1 hcge_2 hcge_3 hcge_4; have hcgn_0 := blk_cell BKgn.out 0; have hfgn_0 := blk_frozen BKgn.out 0; have hcgn_1 := blk_cell BKgn.out 1; have hfgn_1 := blk_frozen BKgn.out 1; have hcgn_2 := blk_cell BKgn.out 2; have hfgn_2 := blk_frozen BKgn.out 2; simp only [List.getElem?_toArray, List.getElem?_cons_zero, List.getElem?_cons_succ] at hcgn_0 hcgn_1 hcgn_2; have hpc : WF2.cell? ⟨p, 0, none⟩ = some (.map (some m)) := (blk_cell (blk_below HP.out HB.out) 0).trans HM0.out
          obtain ⟨w', hrun, hM', hgr⟩ := upd_run e m ws (fun y hy => by rw [hfe] at hy; exact (Option.some.inj hy).symm) WF2.drew (HM.out.same (HB.out.block m HM.out.lt))
          have HM' := Aside0.mk hM'; have HGR := Aside0.mk hgr; clear hM' hgr; unfold vName vEnt at hrun; go_region; go_wp2; go_ret; have e1 : wroteC ws e = 0 := (by simp [wroteC, HCK.out, hfe]); have e2 : wroteW ws e = addW ws e := (by simp [wroteW, e1]); rw [e1, e2]; have hfr : Frm (fun k => k = m) w w' := Frm.then_ (Frm.of_below (below_drew HB.out) _) (Frm.of_grown HGR.out (fun k hk => .inl (Option.some.inj hk).symm)) (fun k hk => .inl hk); exact ⟨rfl, ghost_put HG.out HP.out HM0.out hfr HM'.out, hfr.mono (fun k hk => hk ▸ hokm)⟩
      · simp only [Option.map_some, Option.getD_some, Option.isSome_some, vEnt] at hlk0 hlk1 hlk2
        have hne := eqE_false hxe
        have e1 : wroteC ws e = 190 := by simp [wroteC, HCK.out, hfd, hxe]
        have e2 : wroteW ws e = ws := by simp [wroteW, e1]
        have HE := Aside0.mk (And.intro e1 e2)
        clear e1 e2
        go_region
        all_goals
          go_wp2
          go_ret
          refine ⟨ret_int HE.out.1.symm, ?_, ?_⟩
          · rw [HE.out.2]
            exact HG.out.same fun k _ hlt => (below_drew (below_alloc HB.out _)).block k hlt
          · exact Frm.of_below (by repeat (with_reducible first | exact HB.out | apply pw_below_drewN | apply below_drew1 | apply below_drew | apply below_alloc)) _
  · have hckb : (ckEnt e == 0) = false := by simp [hck]
    have hckb1 : (ckEnt e != 0) = true := by simp [hck]
    have e1 : wroteC ws e = ckEnt e := by rw [wroteC, if_neg hck]
    have e2 : wroteW ws e = ws := by rw [wroteW, e1, if_neg hck]
    have HE := Aside0.mk (And.intro e1 e2)
    clear hck e1 e2
    go_enter Try.func13, Try.ntmps13
    go_wp2_with (first | ((with_reducible refine gate_dst (N := 3) rfl ?_); refine box_event ?hg (N := 3) ?hd (cs := #[.string e.f0, .int .i64 e.f1.f0, .int .i64 e.f1.f1, .string e.f2, .bool e.f3]) (t := 31) ?hr ?_; (case hd => rfl); (case hg => rfl); (case hr => first | (go_simp; done) | (go_simp; rfl)); intro ge hg W_ge hbox hb; have n0_ := Aside0.mk (below_step (by repeat (first | (with_reducible first | exact HB.out | apply below_alloc | apply pw_below_drewN | apply below_drew1) | exact HB.out)) hb); have GEge := Aside0.mk (by rw [hg]; exact (below_size (by repeat (first | (with_reducible first | exact HB.out | apply below_alloc | apply pw_below_drewN | apply below_drew1) | exact HB.out))) : w.heap.size ≤ ge); have GNge := Aside0.mk hg; clear HB; have HB := n0_; have BKge := Aside0.mk hbox; have hcge_0 := blk_cell BKge.out 0; have hfge_0 := blk_frozen BKge.out 0; have hcge_1 := blk_cell BKge.out 1; have hfge_1 := blk_frozen BKge.out 1; have hcge_2 := blk_cell BKge.out 2; have hfge_2 := blk_frozen BKge.out 2; have hcge_3 := blk_cell BKge.out 3; have hfge_3 := blk_frozen BKge.out 3; have hcge_4 := blk_cell BKge.out 4; have hfge_4 := blk_frozen BKge.out 4; simp only [List.getElem?_toArray, List.getElem?_cons_zero, List.getElem?_cons_succ] at hcge_0 hcge_1 hcge_2 hcge_3 hcge_4; clear n0_ hb hbox hg) | ((with_reducible refine gate_dst (N := 6) rfl ?_); refine box_event ?hg (N := 6) ?hd (cs := #[.string (⟨#[]⟩ : ByteArray), .int .i64 0, .int .i64 0]) (t := 58) ?hr ?_; (case hd => rfl); (case hg => rfl); (case hr => first | (go_simp; done) | (go_simp; rfl)); intro gn hg W_gn hbox hb; have n0_ := Aside0.mk (below_step (by repeat (first | (with_reducible first | exact HB.out | apply below_alloc | apply pw_below_drewN | apply below_drew1) | exact HB.out)) hb); have GEgn := Aside0.mk (by rw [hg]; exact (below_size (by repeat (first | (with_reducible first | exact HB.out | apply below_alloc | apply pw_below_drewN | apply below_drew1) | exact HB.out))) : w.heap.size ≤ gn); have GNgn := Aside0.mk hg; clear HB; have HB := n0_; have BKgn := Aside0.mk hbox; have hcgn_0 := blk_cell BKgn.out 0; have hfgn_0 := blk_frozen BKgn.out 0; have hcgn_1 := blk_cell BKgn.out 1; have hfgn_1 := blk_frozen BKgn.out 1; have hcgn_2 := blk_cell BKgn.out 2; have hfgn_2 := blk_frozen BKgn.out 2; simp only [List.getElem?_toArray, List.getElem?_cons_zero, List.getElem?_cons_succ] at hcgn_0 hcgn_1 hcgn_2; have Hne := Aside0.mk (show ge ≠ gn by rw [hg]; exact Nat.ne_of_lt (blk_lt BKge.out)); have n1_ := Aside0.mk (blk_below BKge.out hb); clear BKge hcge_0 hfge_0 hcge_1 hfge_1 hcge_2 hfge_2 hcge_3 hfge_3 hcge_4 hfge_4; have BKge := n1_; clear n1_; have hcge_0 := blk_cell BKge.out 0; have hfge_0 := blk_frozen BKge.out 0; have hcge_1 := blk_cell BKge.out 1; have hfge_1 := blk_frozen BKge.out 1; have hcge_2 := blk_cell BKge.out 2; have hfge_2 := blk_frozen BKge.out 2; have hcge_3 := blk_cell BKge.out 3; have hfge_3 := blk_frozen BKge.out 3; have hcge_4 := blk_cell BKge.out 4; have hfge_4 := blk_frozen BKge.out 4; simp only [List.getElem?_toArray, List.getElem?_cons_zero, List.getElem?_cons_succ] at hcge_0 hcge_1 hcge_2 hcge_3 hcge_4; clear n0_ hb hbox hg) | (go_at_call 25; (with_reducible refine (itemCheck_calls e _).mono ?_); rintro e2 w2 ⟨rfl, hb⟩; have n0_ := Aside0.mk (below_step (by repeat (first | (with_reducible first | exact HB.out | apply below_alloc | apply pw_below_drewN | apply below_drew1) | exact HB.out)) hb); clear HB; have HB := n0_; clear n0_; have n1_ := Aside0.mk (blk_below BKge.out hb); clear BKge hcge_0 hfge_0 hcge_1 hfge_1 hcge_2 hfge_2 hcge_3 hfge_3 hcge_4 hfge_4; have BKge := n1_; clear n1_; have hcge_0 := blk_cell BKge.out 0; have hfge_0 := blk_frozen BKge.out 0; have hcge_1 := blk_cell BKge.out 1; have hfge_1 := blk_frozen BKge.out 1; have hcge_2 := blk_cell BKge.out 2; have hfge_2 := blk_frozen BKge.out 2; have hcge_3 := blk_cell BKge.out 3; have hfge_3 := blk_frozen BKge.out 3; have hcge_4 := blk_cell BKge.out 4; have hfge_4 := blk_frozen BKge.out 4; simp only [List.getElem?_toArray, List.getElem?_cons_zero, List.getElem?_cons_succ] at hcge_0 hcge_1 hcge_2 hcge_3 hcge_4; clear hb))
    go_ret
    refine ⟨ret_int HE.out.1.symm, ?_, Frm.of_below HB.out _⟩
    rw [HE.out.2]
    exact HG.out.same fun k _ hlt => HB.out.block k hlt
end Go.Proofs.Ytplnofodmgddmaa
