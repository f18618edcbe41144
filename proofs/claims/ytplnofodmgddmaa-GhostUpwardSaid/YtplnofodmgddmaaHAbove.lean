import Derived.Test.YtplnofodmgddmaaHRngB
/- merge.Above. -/
set_option linter.unusedVariables false
set_option linter.unusedSimpArgs false
namespace Go.Proofs.Ytplnofodmgddmaa
open Go.RowKit Go.Proofs.YtplnofodmgddmaaW.PrintWords Go.Proofs.YtplnofodmgddmaaW.PrintLast Go.Proofs.YtplnofodmgddmaaW.PrintMore
attribute [local go_sem] Oper.semAt_some

/-- is no entry of the second map newer than the first one's? -/
def upL (ps : List PairE) : Bool := ps.all fun p => !newerE p.f1 p.f0
theorem upL_prefix {p q : List PairE} (h : p <+: q) (hp : upL p = false) : upL q = false := by
  obtain ⟨r, rfl⟩ := h
  unfold upL at *
  rw [List.all_append, hp]; rfl
theorem blk_new2 (w : World) (o o' : Obj) : ((w.alloc o).alloc o').heap[w.heap.size + 1]? = some o' := by
  have h := blk_new (w.alloc o) o'
  rwa [World.size_alloc] at h
theorem below_put {B D : Nat} {w W : World} (h : Below B w W) (hBW : B ≤ W.heap.size) (hD : B ≤ D) (o : Obj) : Below B w (W.putObj D o) :=
  h.trans (Frm.below (S := fun k => k = D) (Frm.of_grown (grownBy_putObj' W D o) (fun k hk => .inl (Option.some.inj hk).symm)) hBW (by rintro k rfl; exact hD))
theorem put_cell {D g : Nat} {W : World} (o : Obj) {v : Value} (h : W.cell? ⟨g, 0, none⟩ = some v) (hne : g ≠ D) : (W.putObj D o).cell? ⟨g, 0, none⟩ = some v :=
  (World.cell?_of_block (World.putObj_heap_other (k := g) hne)).trans h
theorem blk1 {W : World} {g t : Nat} {a0 : Value} (h : W.heap[g]? = some (.cells #[a0] t (0, 0))) (b0 : Value) : (W.setCell ⟨g, 0, none⟩ b0).heap[g]? = some (.cells #[b0] t (0, 0)) := by
  have := heap_setCell_same W g 0 _ _ b0 h
  simpa using this
set_option maxHeartbeats 1000000 in
theorem above_calls (A0 : Option Addr) (c0 : Nat) (a : List Ent) (A1 : Option Addr) (c1 : Nat) (b : List Ent) (w : World) (hr0 : Kd.C kEnt w A0 a.length a) (hc0 : a.length ≤ c0) (hr1 : Kd.C kEnt w A1 b.length b) (hc1 : b.length ≤ c1) :
    Calls Try.prog 15 #[.slice A0 a.length c0, .slice A1 b.length c1] w fun e w' =>
      e = .returned (.tuple #[.bool (if ckBoth a b = 0 then upL (pairsL a b) else false), .int .i64 (ckBoth a b)]) ∧ Below w.heap.size w w' := by
  have HR0 := Aside0.mk hr0
  have HR1 := Aside0.mk hr1
  have HC0 := Aside0.mk hc0
  have HC1 := Aside0.mk hc1
  clear hr0 hr1 hc0 hc1
  have HB := Aside0.mk (Below.refl w.heap.size w)
  have huE := Try.underlying31
  by_cases hck : ckBoth a b = 0
  · have hb1 : (ckBoth a b != 0) = false := by simp [hck]
    rw [if_pos hck]
    have HCK := Aside0.mk hck
    clear hck
    refine (callsIn_wide (n := 9)).1 (callsIn_of_wp_marks Try.func15 rfl trivial ?_ rfl)
    refine wpIn_wide.2 ?_
    simp only [Try.ntmps15, List.size_toArray, List.length_cons, List.length_nil, Nat.reduceAdd, Nat.reduceSub, Array.replicate_succ, Array.replicate_zero, List.push_toArray, List.append_toArray, List.nil_append, List.cons_append]
    go_wp2_with (first | ((with_reducible refine gate_dst (N := 4) rfl ?_); refine box_event ?hg (N := 4) ?hd (cs := #[.bool false]) (t := 4) ?hr ?_; (case hd => rfl); (case hg => rfl); (case hr => first | (go_simp; done) | (go_simp; rfl)); intro g4 hg W_g4 hbox hb; have n0_ := Aside0.mk (below_step (by repeat (first | (with_reducible first | exact HB.out | apply below_alloc | apply pw_below_drewN | apply below_drew1) | exact HB.out)) hb); have GEg4 := Aside0.mk (by rw [hg]; exact (below_size (by repeat (first | (with_reducible first | exact HB.out | apply below_alloc | apply pw_below_drewN | apply below_drew1) | exact HB.out))) : w.heap.size ≤ g4); have GNg4 := Aside0.mk hg; clear HB; have HB := n0_; have BKg4 := Aside0.mk hbox; have hcg4_0 := blk_cell BKg4.out 0; have hfg4_0 := blk_frozen BKg4.out 0; simp only [List.getElem?_toArray, List.getElem?_cons_zero, List.getElem?_cons_succ] at hcg4_0; clear n0_ hb hbox hg) | ((with_reducible refine gate_dst (N := 5) rfl ?_); refine box_event ?hg (N := 5) ?hd (cs := #[.int .i64 0]) (t := 40) ?hr ?_; (case hd => rfl); (case hg => rfl); (case hr => first | (go_simp; done) | (go_simp; rfl)); intro g5 hg W_g5 hbox hb; have n0_ := Aside0.mk (below_step (by repeat (first | (with_reducible first | exact HB.out | apply below_alloc | apply pw_below_drewN | apply below_drew1) | exact HB.out)) hb); have GEg5 := Aside0.mk (by rw [hg]; exact (below_size (by repeat (first | (with_reducible first | exact HB.out | apply below_alloc | apply pw_below_drewN | apply below_drew1) | exact HB.out))) : w.heap.size ≤ g5); have GNg5 := Aside0.mk hg; clear HB; have HB := n0_; have BKg5 := Aside0.mk hbox; have hcg5_0 := blk_cell BKg5.out 0; have hfg5_0 := blk_frozen BKg5.out 0; simp only [List.getElem?_toArray, List.getElem?_cons_zero, List.getElem?_cons_succ] at hcg5_0; have Hne := Aside0.mk (show g4 ≠ g5 by rw [hg]; exact Nat.ne_of_lt (blk_lt BKg4.out)); have n1_ := Aside0.mk (blk_below BKg4.out hb); clear BKg4 hcg4_0 hfg4_0; have BKg4 := n1_; clear n1_; have hcg4_0 := blk_cell BKg4.out 0; have hfg4_0 := blk_frozen BKg4.out 0; simp only [List.getElem?_toArray, List.getElem?_cons_zero, List.getElem?_cons_succ] at hcg4_0; clear n0_ hb hbox hg) | (go_at_call 29; (with_reducible refine (mergecheck_calls A0 c0 a A1 c1 b _ (Kd.C_below HR0.out HB.out) HC0.out (Kd.C_below HR1.out HB.out) HC1.out).mono ?_); rw [show (if ckFrom none a = 0 then ckFrom none b else ckFrom none a) = ckBoth a b from rfl]; rintro e1 w1 ⟨rfl, hb⟩; have n0_ := Aside0.mk (below_step (by repeat (first | (with_reducible first | exact HB.out | apply below_alloc | apply pw_below_drewN | apply below_drew1) | exact HB.out)) hb); clear HB; have HB := n0_; clear n0_; have n1_ := Aside0.mk (blk_below BKg4.out hb); clear BKg4 hcg4_0 hfg4_0; have BKg4 := n1_; clear n1_; have hcg4_0 := blk_cell BKg4.out 0; have hfg4_0 := blk_frozen BKg4.out 0; simp only [List.getElem?_toArray, List.getElem?_cons_zero, List.getElem?_cons_succ] at hcg4_0; have n1_ := Aside0.mk (blk_below BKg5.out hb); clear BKg5 hcg5_0 hfg5_0; have BKg5 := n1_; clear n1_; have hcg5_0 := blk_cell BKg5.out 0; have hfg5_0 := blk_frozen BKg5.out 0; simp only [List.getElem?_toArray, List.getElem?_cons_zero, List.getElem?_cons_succ] at hcg5_0; clear hb; have hs5 := fun v => (World.cell?_setCell_far w1 ⟨g4, 0, none⟩ ⟨g5, 0, none⟩ v Hne.out).trans hcg5_0))
    refine (pairs_calls A0 c0 a A1 c1 b _ (Kd.C_below HR0.out HB.out) (Kd.C_below HR1.out HB.out)).mono ?_
    rintro e2 w2 ⟨Ba, Bb, rfl, hI, hBa, hBb, hb⟩
    have HII := Aside0.mk hI
    have h45 : g4 < w1.heap.size ∧ g5 < w1.heap.size := ⟨blk_lt BKg4.out, blk_lt BKg5.out⟩
    have HN4 := Aside0.mk (And.intro (show Ba ≠ g4 by omega) (And.intro (show Ba ≠ g5 by omega) (And.intro (show Bb ≠ g4 by omega) (show Bb ≠ g5 by omega))))
    have HD := Aside0.mk (fun (A : Option Addr) (ad : Addr) (l : List Ent) (h : Kd.C kEnt w A l.length l) (e : A = some ad) (hn : 0 < l.length) => (show ¬ (ad.block = g4 ∨ ad.block = g5) from by have h1 := C_lt kEnt_szpos h e hn; have h2 := GEg4.out; have h3 := GEg5.out; omega))
    have n0_ := Aside0.mk (below_step (by repeat (first | (with_reducible first | exact HB.out | apply below_alloc | apply pw_below_drewN | apply below_drew1) | exact HB.out)) hb); clear HB; have HB := n0_; clear n0_
    have n1_ := Aside0.mk (blk_below BKg4.out hb); clear BKg4 hcg4_0 hfg4_0; have BKg4 := n1_; clear n1_; have hcg4_0 := blk_cell BKg4.out 0; have hfg4_0 := blk_frozen BKg4.out 0; simp only [List.getElem?_toArray, List.getElem?_cons_zero, List.getElem?_cons_succ] at hcg4_0
    have n1_ := Aside0.mk (blk_below BKg5.out hb); clear BKg5 hcg5_0 hfg5_0; have BKg5 := n1_; clear n1_; have hcg5_0 := blk_cell BKg5.out 0; have hfg5_0 := blk_frozen BKg5.out 0; simp only [List.getElem?_toArray, List.getElem?_cons_zero, List.getElem?_cons_succ] at hcg5_0
    have HS2 := Aside0.mk (And.intro (blk_lt BKg4.out) (blk_lt BKg5.out))
    clear hb hI hBa hBb h45
    go_wp2_with (fail)
    refine wp_range_boxed (n := 9) 7 8 (by omega) rfl HII.out (fun k => k = g4 ∨ k = g5) (by rintro k (rfl | rfl); exact HS2.out.1; exact HS2.out.2) (by rintro (h | h); exact HN4.out.1 h; exact HN4.out.2.1 h) (by rintro (h | h); exact HN4.out.2.2.1 h; exact HN4.out.2.2.2 h)
      (fun ad e hn => HD.out A0 ad a HR0.out e hn) (fun ad e hn => HD.out A1 ad b HR1.out e hn)
      (fun pre W => upL pre = true ∧ Frm (fun k => k = g4 ∨ k = g5) w2 W ∧ W.heap[g4]? = some (.cells #[.bool false] 4 (0, 0)) ∧ W.heap[g5]? = some (.cells #[.int .i64 0] 40 (0, 0)))
      (fun c pre W => c = .ret ∧ upL pre = false ∧ Frm (fun k => k = g4 ∨ k = g5) w2 W ∧ W.heap[g4]? = some (.cells #[.bool false] 4 (0, 0)) ∧ W.heap[g5]? = some (.cells #[.int .i64 0] 40 (0, 0)))
      (fun pre W h => h.2.1.size) ?hI (fun c pre W h => h.2.2.1.size) ?hIx ⟨rfl, Frm.refl _ _, BKg4.out, BKg5.out⟩ ?assign ?body ?done ?stop
    case hI =>
      rintro pre W W' hb ⟨h1, h2, h3, h4⟩
      exact ⟨h1, h2.then_ (Frm.of_blk hb h2.size) (fun k hk => .inr hk), (hb.block g4 HS2.out.1).trans h3, (hb.block g5 HS2.out.2).trans h4⟩
    case hIx =>
      rintro c pre W W' hb ⟨h0, h1, h2, h3, h4⟩
      exact ⟨h0, h1, h2.then_ (Frm.of_blk hb h2.size) (fun k hk => .inr hk), (hb.block g4 HS2.out.1).trans h3, (hb.block g5 HS2.out.2).trans h4⟩
    case assign =>
      rintro l pre x W K ⟨hu, hF, hg4, hg5⟩ hK
      clear HB
      have HB := Aside0.mk (Below.refl W.heap.size W)
      unfold vEnt
      gi_wp2_with (first | ((with_reducible refine gate_dst (N := 7) rfl ?_); refine box_event ?hg (N := 7) ?hd (cs := #[.string x.f0.f0, .int .i64 x.f0.f1.f0, .int .i64 x.f0.f1.f1, .string x.f0.f2, .bool x.f0.f3]) (t := 31) ?hr ?_; (case hd => rfl); (case hg => rfl); (case hr => first | (go_simp; done) | (go_simp; rfl)); intro bx hg W_bx hbox hb; have n0_ := Aside0.mk (below_step (by repeat (first | (with_reducible first | exact HB.out | apply below_alloc | apply pw_below_drewN | apply below_drew1) | exact HB.out)) hb); have GEbx := Aside0.mk (by rw [hg]; exact (below_size (by repeat (first | (with_reducible first | exact HB.out | apply below_alloc | apply pw_below_drewN | apply below_drew1) | exact HB.out))) : W.heap.size ≤ bx); have GNbx := Aside0.mk hg; clear HB; have HB := n0_; have BKbx := Aside0.mk hbox; have hcbx_0 := blk_cell BKbx.out 0; have hfbx_0 := blk_frozen BKbx.out 0; have hcbx_1 := blk_cell BKbx.out 1; have hfbx_1 := blk_frozen BKbx.out 1; have hcbx_2 := blk_cell BKbx.out 2; have hfbx_2 := blk_frozen BKbx.out 2; have hcbx_3 := blk_cell BKbx.out 3; have hfbx_3 := blk_frozen BKbx.out 3; have hcbx_4 := blk_cell BKbx.out 4; have hfbx_4 := blk_frozen BKbx.out 4; simp only [List.getElem?_toArray, List.getElem?_cons_zero, List.getElem?_cons_succ] at hcbx_0 hcbx_1 hcbx_2 hcbx_3 hcbx_4; clear n0_ hb hbox hg) | ((with_reducible refine gate_dst (N := 8) rfl ?_); refine box_event ?hg (N := 8) ?hd (cs := #[.string x.f1.f0, .int .i64 x.f1.f1.f0, .int .i64 x.f1.f1.f1, .string x.f1.f2, .bool x.f1.f3]) (t := 31) ?hr ?_; (case hd => rfl); (case hg => rfl); (case hr => first | (go_simp; done) | (go_simp; rfl)); intro by_ hg W_by_ hbox hb; have n0_ := Aside0.mk (below_step (by repeat (first | (with_reducible first | exact HB.out | apply below_alloc | apply pw_below_drewN | apply below_drew1) | exact HB.out)) hb); have GEby_ := Aside0.mk (by rw [hg]; exact (below_size (by repeat (first | (with_reducible first | exact HB.out | apply below_alloc | apply pw_below_drewN | apply below_drew1) | exact HB.out))) : W.heap.size ≤ by_); have GNby_ := Aside0.mk hg; clear HB; have HB := n0_; have BKby_ := Aside0.mk hbox; have hcby__0 := blk_cell BKby_.out 0; have hfby__0 := blk_frozen BKby_.out 0; have hcby__1 := blk_cell BKby_.out 1; have hfby__1 := blk_frozen BKby_.out 1; have hcby__2 := blk_cell BKby_.out 2; have hfby__2 := blk_frozen BKby_.out 2; have hcby__3 := blk_cell BKby_.out 3; have hfby__3 := blk_frozen BKby_.out 3; have hcby__4 := blk_cell BKby_.out 4; have hfby__4 := blk_frozen BKby_.out 4; simp only [List.getElem?_toArray, List.getElem?_cons_zero, List.getElem?_cons_succ] at hcby__0 hcby__1 hcby__2 hcby__3 hcby__4; clear n0_ hb hbox hg))
      exact hK _ _ _ (Nat.le_refl _) (Nat.le_succ _) (by omega) (below_alloc (below_alloc (Below.refl _ _) _) _) (blk_alloc (blk_new _ _) _) (blk_new2 _ _ _)
    case body =>
      rintro l pre x Bx By W ⟨hu, hF, hg4, hg5⟩ hBx hBy hne hbx hby hlt
      clear BKg4 hcg4_0 hfg4_0; clear BKg5 hcg5_0 hfg5_0; have BKg4 := Aside0.mk hg4; have BKg5 := Aside0.mk hg5; clear hg4 hg5; have hcg4_0 := blk_cell BKg4.out 0; have hfg4_0 := blk_frozen BKg4.out 0; simp only [List.getElem?_toArray, List.getElem?_cons_zero, List.getElem?_cons_succ] at hcg4_0; have hcg5_0 := blk_cell BKg5.out 0; have hfg5_0 := blk_frozen BKg5.out 0; simp only [List.getElem?_toArray, List.getElem?_cons_zero, List.getElem?_cons_succ] at hcg5_0; have hs5 := fun v => (World.cell?_setCell_far W ⟨g4, 0, none⟩ ⟨g5, 0, none⟩ v Hne.out).trans hcg5_0
      have BKbx := Aside0.mk hbx
      have BKby := Aside0.mk hby
      unfold boxE at BKbx BKby
      clear hbx hby
      have hcbx_0 := blk_cell BKbx.out 0; have hfbx_0 := blk_frozen BKbx.out 0; have hcbx_1 := blk_cell BKbx.out 1; have hfbx_1 := blk_frozen BKbx.out 1; have hcbx_2 := blk_cell BKbx.out 2; have hfbx_2 := blk_frozen BKbx.out 2; have hcbx_3 := blk_cell BKbx.out 3; have hfbx_3 := blk_frozen BKbx.out 3; have hcbx_4 := blk_cell BKbx.out 4; have hfbx_4 := blk_frozen BKbx.out 4; simp only [List.getElem?_toArray, List.getElem?_cons_zero, List.getElem?_cons_succ] at hcbx_0 hcbx_1 hcbx_2 hcbx_3 hcbx_4
      have hcby_0 := blk_cell BKby.out 0; have hfby_0 := blk_frozen BKby.out 0; have hcby_1 := blk_cell BKby.out 1; have hfby_1 := blk_frozen BKby.out 1; have hcby_2 := blk_cell BKby.out 2; have hfby_2 := blk_frozen BKby.out 2; have hcby_3 := blk_cell BKby.out 3; have hfby_3 := blk_frozen BKby.out 3; have hcby_4 := blk_cell BKby.out 4; have hfby_4 := blk_frozen BKby.out 4; simp only [List.getElem?_toArray, List.getElem?_cons_zero, List.getElem?_cons_succ] at hcby_0 hcby_1 hcby_2 hcby_3 hcby_4
      unfold roundF
      gi_wp2_with (fail)
      refine ⟨trivial, (CallsIn.inRound l (callsIn_wide.2 (itemNewer_calls x.f1 x.f0 _))).mono ?_⟩
      rintro e1 w1 ⟨rfl, hb⟩
      by_cases hn : newerE x.f1 x.f0 = true
      · rw [hn]
        have n1_ := Aside0.mk (blk_below BKg4.out hb); clear BKg4 hcg4_0 hfg4_0; have BKg4 := n1_; clear n1_; have hcg4_0 := blk_cell BKg4.out 0; have hfg4_0 := blk_frozen BKg4.out 0; simp only [List.getElem?_toArray, List.getElem?_cons_zero, List.getElem?_cons_succ] at hcg4_0
        have n1_ := Aside0.mk (blk_below BKg5.out hb); clear BKg5 hcg5_0 hfg5_0; have BKg5 := n1_; clear n1_; have hcg5_0 := blk_cell BKg5.out 0; have hfg5_0 := blk_frozen BKg5.out 0; simp only [List.getElem?_toArray, List.getElem?_cons_zero, List.getElem?_cons_succ] at hcg5_0
        have hs5 := fun v => (World.cell?_setCell_far w1 ⟨g4, 0, none⟩ ⟨g5, 0, none⟩ v Hne.out).trans hcg5_0
        gi_wp2_with (fail)
        have hf : Frm (fun k => k = g4 ∨ k = g5) W ((w1.setCell ⟨g4, 0, none⟩ (.bool false)).setCell ⟨g5, 0, none⟩ (.int .i64 0)) :=
          ((Frm.of_below hb _).setCell (.inl (.inl rfl)) _).setCell (.inl (.inr rfl)) _
        refine ⟨hf, ?_, hF.trans hf, ?_, ?_⟩
        · unfold upL
          rw [List.all_append]
          simp [hn]
        · exact blk_far (blk1 BKg4.out _) Hne.out _
        · exact blk1 (blk_far BKg5.out Hne.out.symm _) _
      · rw [Bool.eq_false_iff.2 hn]
        gi_wp2_with (fail)
        have hf : Frm (fun k => k = g4 ∨ k = g5) W w1 := Frm.of_below hb _
        refine ⟨hf, ?_, hF.trans hf, blk_below BKg4.out hb, blk_below BKg5.out hb⟩
        unfold upL at hu ⊢
        rw [List.all_append, hu]
        simp [hn]
    case done =>
      rintro D W hD ⟨hu, hF, hg4, hg5⟩ hd
      clear BKg4 hcg4_0 hfg4_0; clear BKg5 hcg5_0 hfg5_0; have BKg4 := Aside0.mk hg4; have BKg5 := Aside0.mk hg5; clear hg4 hg5; have hcg4_0 := blk_cell BKg4.out 0; have hfg4_0 := blk_frozen BKg4.out 0; simp only [List.getElem?_toArray, List.getElem?_cons_zero, List.getElem?_cons_succ] at hcg4_0; have hcg5_0 := blk_cell BKg5.out 0; have hfg5_0 := blk_frozen BKg5.out 0; simp only [List.getElem?_toArray, List.getElem?_cons_zero, List.getElem?_cons_succ] at hcg5_0; have hs5 := fun v => (World.cell?_setCell_far W ⟨g4, 0, none⟩ ⟨g5, 0, none⟩ v Hne.out).trans hcg5_0
      have hD4 : g4 ≠ D := Nat.ne_of_lt (Nat.lt_of_lt_of_le HS2.out.1 hD)
      have hD5 : g5 ≠ D := Nat.ne_of_lt (Nat.lt_of_lt_of_le HS2.out.2 hD)
      go_wp2_with (fail)
      rw [hu]
      have hd' : ((W.setCell ⟨g4, 0, none⟩ (.bool true)).setCell ⟨g5, 0, none⟩ (.int .i64 0)).heap[D]? = some (.deferred (some [])) := (Below.heap_setCell _ _ _ _ hD5.symm).trans ((Below.heap_setCell _ _ _ _ hD4.symm).trans hd)
      refine ⟨by simp, .inl ⟨_, _, rfl, run_takeDeferred hd', ?_⟩⟩
      have hw : Below w.heap.size w W := HB.out.trans (hF.below HB.out.size (by rintro k (rfl | rfl); exact GEg4.out; exact GEg5.out))
      have hw' : Below w.heap.size w ((W.setCell ⟨g4, 0, none⟩ (.bool true)).setCell ⟨g5, 0, none⟩ (.int .i64 0)) := below_set (below_set hw GEg4.out) GEg5.out
      have hc4 := put_cell (.deferred none) (show ((W.setCell ⟨g4, 0, none⟩ (.bool true)).setCell ⟨g5, 0, none⟩ (.int .i64 0)).cell? ⟨g4, 0, none⟩ = _ from blk_cell (blk_far (blk1 BKg4.out _) Hne.out _) 0) hD4
      have hc5 := put_cell (.deferred none) (show ((W.setCell ⟨g4, 0, none⟩ (.bool true)).setCell ⟨g5, 0, none⟩ (.int .i64 0)).cell? ⟨g5, 0, none⟩ = _ from blk_cell (blk1 (blk_far BKg5.out Hne.out.symm _) _) 0) hD5
      refine ⟨.tuple #[.bool true, .int .i64 0], ?_, by rw [HCK.out], below_put hw' hw'.size (Nat.le_trans HB.out.size hD) _⟩
      simp [results, Try.f15, go_sem, hc4, hc5]
    case stop =>
      rintro D c pre W hD hp ⟨rfl, hu, hF, hg4, hg5⟩ hd
      clear BKg4 hcg4_0 hfg4_0; clear BKg5 hcg5_0 hfg5_0; have BKg4 := Aside0.mk hg4; have BKg5 := Aside0.mk hg5; clear hg4 hg5; have hcg4_0 := blk_cell BKg4.out 0; have hfg4_0 := blk_frozen BKg4.out 0; simp only [List.getElem?_toArray, List.getElem?_cons_zero, List.getElem?_cons_succ] at hcg4_0; have hcg5_0 := blk_cell BKg5.out 0; have hfg5_0 := blk_frozen BKg5.out 0; simp only [List.getElem?_toArray, List.getElem?_cons_zero, List.getElem?_cons_succ] at hcg5_0; have hs5 := fun v => (World.cell?_setCell_far W ⟨g4, 0, none⟩ ⟨g5, 0, none⟩ v Hne.out).trans hcg5_0
      have hD4 : g4 ≠ D := Nat.ne_of_lt (Nat.lt_of_lt_of_le HS2.out.1 hD)
      have hD5 : g5 ≠ D := Nat.ne_of_lt (Nat.lt_of_lt_of_le HS2.out.2 hD)
      go_wp2_with (fail)
      rw [upL_prefix hp hu, HCK.out]
      refine ⟨by simp, .inl ⟨_, _, rfl, run_takeDeferred hd, ?_⟩⟩
      have hc4 := put_cell (.deferred none) hcg4_0 hD4
      have hc5 := put_cell (.deferred none) hcg5_0 hD5
      refine ⟨.tuple #[.bool false, .int .i64 0], ?_, rfl, ?_⟩
      · simp [results, Try.f15, go_sem, hc4, hc5]
      · have hw : Below w.heap.size w W := HB.out.trans (hF.below HB.out.size (by rintro k (rfl | rfl); exact GEg4.out; exact GEg5.out))
        exact below_put hw hw.size (Nat.le_trans HB.out.size hD) _
  · have hb1 : (ckBoth a b != 0) = true := by simp [hck]
    rw [if_neg hck]
    have HCK := Aside0.mk hck
    clear hck
    go_enter Try.func15, Try.ntmps15
    go_wp2_with (first | ((with_reducible refine gate_dst (N := 4) rfl ?_); refine box_event ?hg (N := 4) ?hd (cs := #[.bool false]) (t := 4) ?hr ?_; (case hd => rfl); (case hg => rfl); (case hr => first | (go_simp; done) | (go_simp; rfl)); intro g4 hg W_g4 hbox hb; have n0_ := Aside0.mk (below_step (by repeat (first | (with_reducible first | exact HB.out | apply below_alloc | apply pw_below_drewN | apply below_drew1) | exact HB.out)) hb); have GEg4 := Aside0.mk (by rw [hg]; exact (below_size (by repeat (first | (with_reducible first | exact HB.out | apply below_alloc | apply pw_below_drewN | apply below_drew1) | exact HB.out))) : w.heap.size ≤ g4); have GNg4 := Aside0.mk hg; clear HB; have HB := n0_; have BKg4 := Aside0.mk hbox; have hcg4_0 := blk_cell BKg4.out 0; have hfg4_0 := blk_frozen BKg4.out 0; simp only [List.getElem?_toArray, List.getElem?_cons_zero, List.getElem?_cons_succ] at hcg4_0; clear n0_ hb hbox hg) | ((with_reducible refine gate_dst (N := 5) rfl ?_); refine box_event ?hg (N := 5) ?hd (cs := #[.int .i64 0]) (t := 40) ?hr ?_; (case hd => rfl); (case hg => rfl); (case hr => first | (go_simp; done) | (go_simp; rfl)); intro g5 hg W_g5 hbox hb; have n0_ := Aside0.mk (below_step (by repeat (first | (with_reducible first | exact HB.out | apply below_alloc | apply pw_below_drewN | apply below_drew1) | exact HB.out)) hb); have GEg5 := Aside0.mk (by rw [hg]; exact (below_size (by repeat (first | (with_reducible first | exact HB.out | apply below_alloc | apply pw_below_drewN | apply below_drew1) | exact HB.out))) : w.heap.size ≤ g5); have GNg5 := Aside0.mk hg; clear HB; have HB := n0_; have BKg5 := Aside0.mk hbox; have hcg5_0 := blk_cell BKg5.out 0; have hfg5_0 := blk_frozen BKg5.out 0; simp only [List.getElem?_toArray, List.getElem?_cons_zero, List.getElem?_cons_succ] at hcg5_0; have Hne := Aside0.mk (show g4 ≠ g5 by rw [hg]; exact Nat.ne_of_lt (blk_lt BKg4.out)); have n1_ := Aside0.mk (blk_below BKg4.out hb); clear BKg4 hcg4_0 hfg4_0; have BKg4 := n1_; clear n1_; have hcg4_0 := blk_cell BKg4.out 0; have hfg4_0 := blk_frozen BKg4.out 0; simp only [List.getElem?_toArray, List.getElem?_cons_zero, List.getElem?_cons_succ] at hcg4_0; clear n0_ hb hbox hg) | (go_at_call 29; (with_reducible refine (mergecheck_calls A0 c0 a A1 c1 b _ (Kd.C_below HR0.out HB.out) HC0.out (Kd.C_below HR1.out HB.out) HC1.out).mono ?_); rw [show (if ckFrom none a = 0 then ckFrom none b else ckFrom none a) = ckBoth a b from rfl]; rintro e1 w1 ⟨rfl, hb⟩; have n0_ := Aside0.mk (below_step (by repeat (first | (with_reducible first | exact HB.out | apply below_alloc | apply pw_below_drewN | apply below_drew1) | exact HB.out)) hb); clear HB; have HB := n0_; clear n0_; have n1_ := Aside0.mk (blk_below BKg4.out hb); clear BKg4 hcg4_0 hfg4_0; have BKg4 := n1_; clear n1_; have hcg4_0 := blk_cell BKg4.out 0; have hfg4_0 := blk_frozen BKg4.out 0; simp only [List.getElem?_toArray, List.getElem?_cons_zero, List.getElem?_cons_succ] at hcg4_0; have n1_ := Aside0.mk (blk_below BKg5.out hb); clear BKg5 hcg5_0 hfg5_0; have BKg5 := n1_; clear n1_; have hcg5_0 := blk_cell BKg5.out 0; have hfg5_0 := blk_frozen BKg5.out 0; simp only [List.getElem?_toArray, List.getElem?_cons_zero, List.getElem?_cons_succ] at hcg5_0; clear hb; have hs5 := fun v => (World.cell?_setCell_far w1 ⟨g4, 0, none⟩ ⟨g5, 0, none⟩ v Hne.out).trans hcg5_0))
    have hc4 : ((w1.setCell ⟨g4, 0, none⟩ (.bool false)).setCell ⟨g5, 0, none⟩ (.int .i64 (ckBoth a b))).cell? ⟨g4, 0, none⟩ = some (.bool false) := blk_cell (blk_far (blk1 BKg4.out _) Hne.out _) 0
    have hc5 : ((w1.setCell ⟨g4, 0, none⟩ (.bool false)).setCell ⟨g5, 0, none⟩ (.int .i64 (ckBoth a b))).cell? ⟨g5, 0, none⟩ = some (.int .i64 (ckBoth a b)) := blk_cell (blk1 (blk_far BKg5.out Hne.out.symm _) _) 0
    refine ⟨rfl, .tuple #[.bool false, .int .i64 (ckBoth a b)], ?_, rfl, below_set (below_set HB.out GEg4.out) GEg5.out⟩
    simp [results, Try.f15, go_sem, hc4, hc5]
end Go.Proofs.Ytplnofodmgddmaa
