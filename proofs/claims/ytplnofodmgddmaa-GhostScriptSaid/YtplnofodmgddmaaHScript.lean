import Derived.Test.YtplnofodmgddmaaHWeigh
/- GhostScript. -/
set_option linter.unusedVariables false
set_option linter.unusedSimpArgs false
namespace Go.Proofs.Ytplnofodmgddmaa
open Go.RowKit Go.Proofs.YtplnofodmgddmaaW.PrintWords Go.Proofs.YtplnofodmgddmaaW.PrintLast Go.Proofs.YtplnofodmgddmaaW.PrintMore
attribute [local go_sem] Oper.semAt_some

/-- two pairs of ghosts, apart -/
structure Two (B : Nat) (w : World) (N : Nat) (p1 q1 p2 q2 : Nat) : Prop where
  st : ∃ okp1 okq1 okp2 okq2 ws1 ls1 ws2 ls2, Duo B w okp1 okq1 p1 q1 ws1 ls1 ∧ Duo B w okp2 okq2 p2 q2 ws2 ls2 ∧ Inv N 16777216 ws1 ls1 ∧ Inv N 16777216 ws2 ls2 ∧ ∀ k, (okp1 k ∨ okq1 k) → ¬ (okp2 k ∨ okq2 k)
theorem Two.below {B : Nat} {w w' : World} {N p1 q1 p2 q2 : Nat} (h : Two B w N p1 q1 p2 q2) (hb : Below w.heap.size w w') : Two B w' N p1 q1 p2 q2 := by
  obtain ⟨okp1, okq1, okp2, okq2, ws1, ls1, ws2, ls2, h1, h2, h3, h4, h5⟩ := h.st
  exact ⟨okp1, okq1, okp2, okq2, ws1, ls1, ws2, ls2, h1.below hb, h2.below hb, h3, h4, h5⟩
theorem Two.swap {B : Nat} {w : World} {N p1 q1 p2 q2 : Nat} (h : Two B w N p1 q1 p2 q2) : Two B w N p2 q2 p1 q1 := by
  obtain ⟨okp1, okq1, okp2, okq2, ws1, ls1, ws2, ls2, h1, h2, h3, h4, h5⟩ := h.st
  exact ⟨okp2, okq2, okp1, okq1, ws2, ls2, ws1, ls1, h2, h1, h4, h3, fun k hk hk' => h5 k hk' hk⟩
/-- a step at the first pair -/
theorem two_step {w0 w : World} {N p1 q1 p2 q2 : Nat} (h : Two w0.heap.size w N p1 q1 p2 q2) (hB0 : Below w0.heap.size w0 w) (hN : N < 16777216) (o : GOp) (A : Option Addr) (c : Nat) (hl : o.f3.length < 16777216) (hr : Kd.C kEnt w A o.f3.length o.f3) (hc : o.f3.length ≤ c)
    (hA : ∀ ad, A = some ad → 0 < o.f3.length → ad.block < w0.heap.size) :
    Calls Try.prog 8 #[.pointer (some ⟨p1, 0, none⟩), .pointer (some ⟨q1, 0, none⟩), opV o A c] w fun r w' => r = .returned (.bool true) ∧ Two w0.heap.size w' (N + 1) p1 q1 p2 q2 ∧ Below w0.heap.size w0 w' := by
  obtain ⟨okp1, okq1, okp2, okq2, ws1, ls1, ws2, ls2, h1, h2, h3, h4, h5⟩ := h.st
  refine (step_calls w0 w okp1 okq1 p1 q1 ws1 ls1 N o A c hB0 h1 h3 hN hl hr hc hA).mono ?_
  rintro e w' ⟨rfl, okp', okq', hD, hp, hq, hF⟩
  refine ⟨rfl, ⟨okp', okq', okp2, okq2, _, _, ws2, ls2, hD, h2.same hF.size (fun k hk hlt => hF.block k hlt (fun hc => h5 k hc hk)), inv_op h3 o hl, ⟨h4.d, by have := h4.n; omega, h4.ck, h4.m⟩, fun k hk hk' => ?_⟩, hB0.trans (hF.below hB0.size (fun k hk => ?_))⟩
  · have hlt : k < w.heap.size := by
      rcases hk' with h | h
      · exact (h2.kp k h).2
      · exact (h2.kq k h).2
    rcases hk with h | h
    · rcases hp k h with h | h
      · exact h5 k (.inl h) hk'
      · omega
    · rcases hq k h with h | h
      · exact h5 k (.inr h) hk'
      · omega
  · rcases hk with h | h
    · exact (h1.kp k h).1
    · exact (h1.kq k h).1
theorem two_new {w w1 wa wb wc wd : World} {p1 p2 q1 q2 : Nat} (hb : Below w.heap.size w w1)
    (ha : GhostAt wa (fun k => w1.heap.size ≤ k ∧ k < wa.heap.size) p1 [] (fun _ => [])) (ha' : Below w1.heap.size w1 wa) (hb1 : GhostAt wb (fun k => wa.heap.size ≤ k ∧ k < wb.heap.size) p2 [] (fun _ => [])) (hb' : Below wa.heap.size wa wb)
    (hc : RefAt wc w.heap.size (fun k => wb.heap.size ≤ k ∧ k < wc.heap.size) q1 [] (fun _ => [])) (hc' : Below wb.heap.size wb wc) (hd : RefAt wd w.heap.size (fun k => wc.heap.size ≤ k ∧ k < wd.heap.size) q2 [] (fun _ => [])) (hd' : Below wc.heap.size wc wd) : Two w.heap.size wd 0 p1 q1 p2 q2 := by
  have s0 := hb.size
  have s1 := ha'.size
  have s2 := hb'.size
  have s3 := hc'.size
  have s4 := hd'.size
  have hbd := hc'.trans (hd'.mono hc'.size)
  have had := hb'.trans (hbd.mono hb'.size)
  refine ⟨_, _, _, _, _, _, _, _, ⟨ha.same (fun k _ hk => had.block k hk), hc.same (fun k _ hk => hd'.block k hk), fun k hk => ⟨by omega, by omega⟩, fun k hk => ⟨by omega, by omega⟩, fun k hk hk' => by omega⟩,
    ⟨hb1.same (fun k _ hk => hbd.block k hk), hd, fun k hk => ⟨by omega, by omega⟩, fun k hk => ⟨by omega, by omega⟩, fun k hk hk' => by omega⟩, inv_new (by omega), inv_new (by omega), fun k hk hk' => by omega⟩
set_option maxHeartbeats 2000000 in
theorem script_calls (A : Option Addr) (c : Nat) (l : List GOp) (w : World) (hr : Kd.C kGOp w A l.length l) (hc : l.length ≤ c) :
    Calls Try.prog 3 #[.slice A l.length c] w fun r w' => r = .returned (.bool true) ∧ Below w.heap.size w w' := by
  have HR := Aside0.mk hr
  have HC := Aside0.mk hc
  obtain ⟨b, hb, hbd⟩ := beyond_f l
  have HBY := Aside0.mk hb
  have HBD := Aside0.mk hbd
  clear hr hc hb hbd
  have HB := Aside0.mk (Below.refl w.heap.size w)
  have huE := Try.underlying31
  have huO := Try.underlying34
  cases b
  · go_enter Try.func3, Try.ntmps3
    go_wp2_with (go_at_call 5; (with_reducible refine (tidelinelaw19_beyond.calls _ A c l _ _ (Kd.C_below HR.out HB.out) HC.out HBY.out).mono ?_); rintro e1 w1 ⟨rfl, hb⟩; have n0_ := Aside0.mk (below_step (by repeat (first | (with_reducible first | exact HB.out | apply below_alloc | apply pw_below_drewN | apply below_drew1) | exact HB.out)) hb); clear HB; have HB := n0_; clear n0_; clear hb)
    have HB1 := HB
    refine (new_calls _).mono ?_
    rintro ea wa ⟨p1, rfl, hga, hba⟩
    go_wp2_with (fail)
    refine (new_calls _).mono ?_
    rintro eb wb ⟨p2, rfl, hgb, hbb⟩
    go_wp2_with (fail)
    refine (refnew_calls _ w.heap.size (Nat.le_trans HB1.out.size (Nat.le_trans hba.size hbb.size))).mono ?_
    rintro ec wc ⟨q1, rfl, hgc, hbc⟩
    go_wp2_with (fail)
    refine (refnew_calls _ w.heap.size (Nat.le_trans HB1.out.size (Nat.le_trans hba.size (Nat.le_trans hbb.size hbc.size)))).mono ?_
    rintro ed wd ⟨q2, rfl, hgd, hbd⟩
    have HT := Aside0.mk (two_new HB1.out hga hba hgb hbb hgc hbc hgd hbd)
    have n0_ := Aside0.mk (below_step (below_step (below_step (below_step HB1.out hba) hbb) hbc) hbd)
    clear HB HB1 hga hba hgb hbb hgc hbc hgd hbd
    have HB := n0_
    clear n0_
    have HBD2 := Aside0.mk (show l.length < 4194304 ∧ ∀ j, j < l.length → (rd_TGOp l (j : Int)).f3.length < 4194304 by simpa using HBD.out)
    clear HBD
    have hll := HBD2.out.1
    go_wp2_with (fail)
    go_loopw [7] (fun v7 w' => ∃ i : Nat, v7 = .int .i64 i ∧ i ≤ l.length ∧ Aside0 (Two w.heap.size w' i p1 q1 p2 q2) ∧ Aside0 (Below w.heap.size w w')) (fun v7 _ => l.length - (intOf v7).toNat)
    case atStart => exact ⟨0, rfl, Nat.zero_le _, HT, HB⟩
    case round =>
      clear HB HT
      obtain ⟨i, rfl, hi, HT, HB⟩ := hrel
      by_cases hlt : i < l.length
      · obtain ⟨ad, A7, c7, ead, hx0, hx1, hx2, hx3, hx4, hx5, hx6, hx7, hx8, hl7, hC7⟩ := at_TGOp HR.out (i : Int) (by omega) (by omega)
        cases ead
        have ho3 := HBD2.out.2 i hlt
        obtain ⟨x, hx⟩ : ∃ x, rd_TGOp l (i : Int) = x := ⟨_, rfl⟩
        rw [hx] at hx0 hx1 hx2 hx3 hx4 hx5 hx6 hx7 hx8 hl7 hC7 ho3
        simp only [Int.toNat_natCast] at hx0 hx1 hx2 hx3 hx4 hx5 hx6 hx7 hx8
        replace hx0 := pw_cell_below HB.out hx0
        replace hx1 := pw_cell_below HB.out hx1
        replace hx2 := pw_cell_below HB.out hx2
        replace hx3 := pw_cell_below HB.out hx3
        replace hx4 := pw_cell_below HB.out hx4
        replace hx5 := pw_cell_below HB.out hx5
        replace hx6 := pw_cell_below HB.out hx6
        replace hx7 := pw_cell_below HB.out hx7
        replace hx8 := pw_cell_below HB.out hx8
        have HC7 := Aside0.mk hC7
        have HL7 := Aside0.mk hl7
        have HO3 := Aside0.mk ho3
        have HX := Aside0.mk hx
        have hlt' : (i : Int) < (l.length : Int) := by omega
        have hlt0 : (0 : Int) ≤ (i : Int) := by omega
        have HA7 := Aside0.mk (show ∀ ad, A7 = some ad → 0 < x.f3.length → ad.block < w.heap.size from fun ad e hn => C_lt kEnt_szpos HC7.out e hn)
        clear hC7 hl7 ho3 hx
        cases hsec : x.f4
        · rw [hsec] at hx8
          go_wp2_with (fail)
          have hst := two_step HT.out HB.out (by omega) x A7 c7 (Nat.lt_trans HO3.out (by omega)) (Kd.C_below HC7.out HB.out) HL7.out HA7.out
          unfold opV at hst
          rw [hsec] at hst
          refine hst.mono ?_
          rintro e2 w2 ⟨rfl, hT2, hB2⟩
          have HT2 := Aside0.mk hT2
          have HB2 := Aside0.mk hB2
          clear hst hT2 hB2 HT HB hx0 hx1 hx2 hx3 hx4 hx5 hx6 hx7 hx8
          go_wp2_with (fail)
          exact ⟨⟨i + 1, by go_num, by omega, HT2, HB2⟩, by simp [intOf]; omega⟩
        · rw [hsec] at hx8
          go_wp2_with (fail)
          have hst := two_step HT.out.swap HB.out (by omega) x A7 c7 (Nat.lt_trans HO3.out (by omega)) (Kd.C_below HC7.out HB.out) HL7.out HA7.out
          unfold opV at hst
          rw [hsec] at hst
          refine hst.mono ?_
          rintro e2 w2 ⟨rfl, hT2, hB2⟩
          have HT2 := Aside0.mk hT2.swap
          have HB2 := Aside0.mk hB2
          clear hst hT2 hB2 HT HB hx0 hx1 hx2 hx3 hx4 hx5 hx6 hx7 hx8
          go_wp2_with (fail)
          exact ⟨⟨i + 1, by go_num, by omega, HT2, HB2⟩, by simp [intOf]; omega⟩
      · have hge : ¬ (i : Int) < (l.length : Int) := by omega
        go_wp2_with (fail)
        obtain ⟨okp1, okq1, okp2, okq2, ws1, ls1, ws2, ls2, h1, h2, h3, h4, h5⟩ := HT.out.st
        have HD1 := Aside0.mk h1
        have HD2 := Aside0.mk h2
        have HI1 := Aside0.mk h3
        have HI2 := Aside0.mk h4
        clear h1 h2 h3 h4 h5 HT
        obtain ⟨wz, hwz⟩ : ∃ wz, wz = wr := ⟨_, rfl⟩
        have HBz := HB
        have HBw := Aside0.mk (Below.refl wr.heap.size wr)
        rw [← hwz] at HD1 HD2 HBz HBw
        rw [hwz] at HBw
        clear HB
        have HBw2 := Aside0.mk (show Below wz.heap.size wz wr by rw [hwz]; exact HBw.out)
        clear HBw hwz
        go_loopw [9] (fun v9 w' => ∃ m : Int, v9 = .int .i64 m ∧ -1 ≤ m ∧ m ≤ 9 ∧ Aside0 (Below wz.heap.size wz w')) (fun v9 _ => (9 - intOf v9).toNat)
        case atStart => exact ⟨-1, rfl, by omega, by omega, HBw2⟩
        case round =>
          clear HBw2
          obtain ⟨m, rfl, hm0, hm1, HB⟩ := hrel
          by_cases hm8 : m ≤ 8
          · go_wp2_with (fail)
            (refine (held_calls p1 ws1 ls1 okp1 m _ (HD1.out.below HB.out).g (fun i => Nat.lt_trans (HI1.out.m i) (by omega))).mono ?_); rintro e1 wa ⟨va, rfl, hRa, hba⟩; (obtain ⟨Aa, ca, rfl, hca, hCa, _⟩ := own_form hRa); have n0_ := Aside0.mk (below_step HB.out hba); clear HB; have HB := n0_; clear n0_; go_wp2_with (fail); (refine (refheld_calls q1 ws1 ls1 w.heap.size okq1 m _ (HD1.out.below HB.out).d (fun i => Nat.lt_trans (HI1.out.m i) (by omega))).mono ?_); rintro e2 wb ⟨vb, rfl, hRb, hbb⟩; (obtain ⟨Ab, cb, rfl, hcb, hCb, _⟩ := own_form hRb); have n0_ := Aside0.mk (below_step HB.out hbb); clear HB; have HB := n0_; clear n0_; go_wp2_with (fail); (refine (same_calls Aa ca (heldL ls1 m) Ab cb (heldL ls1 m) _ (Kd.C_below hCa hbb) hca hCb hcb (by unfold heldL; split; exact Nat.lt_trans (HI1.out.m _) (by omega); simp)).mono ?_); rintro e3 wc ⟨rfl, hb0⟩; rw [show decide (heldL ls1 m = heldL ls1 m) = true by simp]; have n0_ := Aside0.mk (below_step HB.out (Drawn0.below hb0)); clear HB; have HB := n0_; clear n0_; clear hb0 hba hbb hRa hRb hCa hCb hca hcb; go_wp2_with (fail)
            (refine (held_calls p2 ws2 ls2 okp2 m _ (HD2.out.below HB.out).g (fun i => Nat.lt_trans (HI2.out.m i) (by omega))).mono ?_); rintro e1 wa ⟨va, rfl, hRa, hba⟩; (obtain ⟨Aa, ca, rfl, hca, hCa, _⟩ := own_form hRa); have n0_ := Aside0.mk (below_step HB.out hba); clear HB; have HB := n0_; clear n0_; go_wp2_with (fail); (refine (refheld_calls q2 ws2 ls2 w.heap.size okq2 m _ (HD2.out.below HB.out).d (fun i => Nat.lt_trans (HI2.out.m i) (by omega))).mono ?_); rintro e2 wb ⟨vb, rfl, hRb, hbb⟩; (obtain ⟨Ab, cb, rfl, hcb, hCb, _⟩ := own_form hRb); have n0_ := Aside0.mk (below_step HB.out hbb); clear HB; have HB := n0_; clear n0_; go_wp2_with (fail); (refine (same_calls Aa ca (heldL ls2 m) Ab cb (heldL ls2 m) _ (Kd.C_below hCa hbb) hca hCb hcb (by unfold heldL; split; exact Nat.lt_trans (HI2.out.m _) (by omega); simp)).mono ?_); rintro e3 wc ⟨rfl, hb0⟩; rw [show decide (heldL ls2 m = heldL ls2 m) = true by simp]; have n0_ := Aside0.mk (below_step HB.out (Drawn0.below hb0)); clear HB; have HB := n0_; clear n0_; clear hb0 hba hbb hRa hRb hCa hCb hca hcb; go_wp2_with (fail)
            exact ⟨⟨m + 1, rfl, by omega, by omega, HB⟩, by simp [intOf]; omega⟩
          · go_wp2_with (fail)
            go_ret
            exact ⟨rfl, HBz.out.trans (HB.out.mono HBz.out.size)⟩
  · go_enter Try.func3, Try.ntmps3
    go_wp2_with (go_at_call 5; (with_reducible refine (tidelinelaw19_beyond.calls _ A c l _ _ (Kd.C_below HR.out HB.out) HC.out HBY.out).mono ?_); rintro e1 w1 ⟨rfl, hb⟩; have n0_ := Aside0.mk (below_step (by repeat (first | (with_reducible first | exact HB.out | apply below_alloc | apply pw_below_drewN | apply below_drew1) | exact HB.out)) hb); clear HB; have HB := n0_; clear n0_; clear hb)
    go_ret
    exact ⟨rfl, HB.out⟩
end Go.Proofs.Ytplnofodmgddmaa
