import Derived.Test.YtplnofodmgddmaaHUpPure
/- GhostUpward. -/
set_option linter.unusedVariables false
set_option linter.unusedSimpArgs false
namespace Go.Proofs.Ytplnofodmgddmaa
open Go.RowKit Go.Proofs.YtplnofodmgddmaaW.PrintWords Go.Proofs.YtplnofodmgddmaaW.PrintLast Go.Proofs.YtplnofodmgddmaaW.PrintMore
attribute [local go_sem] Oper.semAt_some

abbrev kRows : Kd (List Ent) := Kd.slice 31 kEnt
theorem at_rows {w : World} {A : Option Addr} {n : Nat} {xs : List (List Ent)} (h : Kd.C kRows w A n xs) (i : Nat) (hi : i < n) :
    ∃ ad A' c', A = some ad ∧ w.cell? (ad.add i) = some (.slice A' (xs.getD i []).length c') ∧ (xs.getD i []).length ≤ c' ∧ Kd.C kEnt w A' (xs.getD i []).length (xs.getD i []) := by
  obtain ⟨ad, c, e, _, hK, hc0⟩ := Kd.C_get h ([] : List Ent) (i : Int) (by omega) (by omega)
  simp only [Int.toNat_natCast] at hK hc0
  obtain ⟨A', c', rfl, hl, hC⟩ := hK
  have h0 := hc0 0 _ rfl
  simp only [show kRows.sz = 1 from rfl, Nat.mul_one, Nat.add_zero] at h0
  exact ⟨ad, A', c', e, h0, hl, hC⟩
/-- the ghost and the map that the node held last -/
def UpSt (w w' : World) (p : Nat) (ws : List Ent) (node : Int) (v : Value) : Prop :=
  ∃ (ok : Nat → Prop) (ls : Nat → List Ent) (A : Option Addr) (c : Nat), v = .slice A (heldL ls node).length c ∧ (heldL ls node).length ≤ c ∧ Kd.C kEnt w' A (heldL ls node).length (heldL ls node) ∧ GhostAt w' ok p ws ls ∧ (∀ k, ok k → w.heap.size ≤ k ∧ k < w'.heap.size) ∧
    (∀ ad, A = some ad → 0 < (heldL ls node).length → ¬ ok ad.block) ∧ (∀ i, ckFrom none (ls i) = 0) ∧ (∀ i, (ls i).length < 16384) ∧ ∀ e ∈ heldL ls node, writtenB ws e = true
theorem rd_mem {l : List Ent} {i : Nat} (h : i < l.length) : rd_TEnt l (i : Int) ∈ l := List.mem_of_getElem? (rd_eq h)
theorem heldL_nil (node : Int) : heldL (fun _ => []) node = [] := by
  unfold heldL
  split <;> rfl
set_option maxRecDepth 100000 in
set_option maxHeartbeats 4000000 in
theorem upward_calls (A0 : Option Addr) (c0 : Nat) (wrs : List Ent) (A1 : Option Addr) (c1 : Nat) (seen : List (List Ent)) (node : Int) (w : World) (hr0 : Kd.C kEnt w A0 wrs.length wrs) (hc0 : wrs.length ≤ c0) (hr1 : Kd.C kRows w A1 seen.length seen) (hc1 : seen.length ≤ c1) :
    Calls Try.prog 4 #[.slice A0 wrs.length c0, .slice A1 seen.length c1, .int .i64 node] w fun r w' => r = .returned (.bool true) ∧ Below w.heap.size w w' := by
  have HR0 := Aside0.mk hr0
  have HC0 := Aside0.mk hc0
  have HR1 := Aside0.mk hr1
  have HC1 := Aside0.mk hc1
  have hm0 := Kd.C_max hr0
  have hm1 := Kd.C_max hr1
  clear hr0 hc0 hr1 hc1
  have HB := Aside0.mk (Below.refl w.heap.size w)
  have huE := Try.underlying31
  obtain ⟨r0, hr0, r00, r01, r02⟩ := weigh_f wrs 1073741825 (Nat.le_refl _)
  go_enter Try.func4, Try.ntmps4
  go_wp2_with (go_at_call 12; (with_reducible refine (tidelinelaw19_weigh.calls _ A0 c0 wrs _ _ (Kd.C_below HR0.out HB.out) HC0.out hr0).mono ?_); rintro e1 w1 ⟨rfl, hb⟩; have n0_ := Aside0.mk (below_step (by repeat (first | (with_reducible first | exact HB.out | apply below_alloc | apply pw_below_drewN | apply below_drew1) | exact HB.out)) hb); clear HB; have HB := n0_; clear n0_; clear hb)
  go_loopw [7, 8] (fun v7 v8 w' => ∃ (n : Int) (i : Nat), v7 = .int .i64 n ∧ v8 = .int .i64 i ∧ i ≤ seen.length ∧ 0 ≤ n ∧ n ≤ 8589934592 ∧ Aside0 (n < 16384 → ∀ j, j < i → (seen.getD j []).length < 16384) ∧ Aside0 (Below w.heap.size w w')) (fun v7 v8 _ => seen.length - (intOf v8).toNat)
  case atStart => exact ⟨r0, 0, rfl, rfl, Nat.zero_le _, r00, by omega, ⟨fun _ j hj => by omega⟩, HB⟩
  case round =>
    clear HB
    obtain ⟨n, i, rfl, rfl, hi, hn0, hn1, HQ, HB⟩ := hrel
    by_cases hlt : i < seen.length
    · have hlt' : (i : Int) < (seen.length : Int) := by omega
      have hlt0 : (0 : Int) ≤ (i : Int) := by omega
      by_cases hn : n < 16384
      · obtain ⟨ad, A', c', rfl, hx, hl', hC'⟩ := at_rows HR1.out i hlt
        obtain ⟨x, hxx⟩ : ∃ x, seen.getD i [] = x := ⟨_, rfl⟩
        rw [hxx] at hx hl' hC'
        have HX := Aside0.mk hxx
        replace hx := pw_cell_below HB.out hx
        have HC' := Aside0.mk hC'
        have HL' := Aside0.mk hl'
        obtain ⟨r1, hr1, r10, r11, r12⟩ := weigh_f x 1073741825 (Nat.le_refl _)
        have HR12 := Aside0.mk r12
        have HRW := Aside0.mk hr1
        clear hC' hl' hxx r12 hr1
        go_wp2_with (fail)
        refine (tidelinelaw19_weigh.calls _ A' c' x _ _ (Kd.C_below HC'.out HB.out) HL'.out HRW.out).mono ?_
        rintro e2 w2 ⟨rfl, hb⟩
        have n0_ := Aside0.mk (below_step HB.out hb)
        clear HB hx hb
        have HB := n0_
        clear n0_
        go_wp2_with (fail)
        refine ⟨⟨n + (1 + r1), i + 1, by go_num, by go_num, by omega, by omega, by omega, ⟨fun hlt2 j hj => ?_⟩, HB⟩, by simp [intOf]; omega⟩
        by_cases hji : j = i
        · subst hji
          rw [HX.out]
          have := HR12.out (by omega)
          omega
        · exact HQ.out (by omega) j (by omega)
      · go_wp2_with (fail)
        go_ret
        exact ⟨rfl, HB.out⟩
    · have hge : ¬ (i : Int) < (seen.length : Int) := by omega
      by_cases g1 : 16384 ≤ n
      · go_wp2_with (fail)
        go_ret
        exact ⟨rfl, HB.out⟩
      by_cases g2 : (512 : Int) < (wrs.length : Int)
      · go_wp2_with (fail)
        go_ret
        exact ⟨rfl, HB.out⟩
      by_cases g3 : (256 : Int) < (seen.length : Int)
      · go_wp2_with (fail)
        go_ret
        exact ⟨rfl, HB.out⟩
      have hsl : seen.length ≤ 256 := by omega
      have hwl : wrs.length ≤ 512 := by omega
      have HQ2 := Aside0.mk (fun j (hj : j < seen.length) => HQ.out (by omega) j (by omega))
      clear HQ
      go_wp2_with (fail)
      refine (new_calls _).mono ?_
      rintro ea wa ⟨p, rfl, hga, hba⟩
      have HOK := Aside0.mk (show ∀ k, (wr.heap.size ≤ k ∧ k < wa.heap.size) → w.heap.size ≤ k from fun k hk => Nat.le_trans HB.out.size hk.1)
      obtain ⟨ok, hok⟩ : ∃ ok : Nat → Prop, ok = (fun k => wr.heap.size ≤ k ∧ k < wa.heap.size) := ⟨_, rfl⟩
      rw [← hok] at hga
      have HOK2 := Aside0.mk (show ∀ k, ok k → w.heap.size ≤ k ∧ k < wa.heap.size from fun k hk => by rw [hok] at hk; exact ⟨HOK.out k hk, hk.2⟩)
      have n0_ := Aside0.mk (below_step HB.out hba)
      have HG := Aside0.mk (show ∃ ws, GhostAt wa ok p ws (fun _ => []) from ⟨_, hga⟩)
      clear HB hba hga HOK hok
      have HB := n0_
      clear n0_
      have HZ := Aside0.mk (Nat.le_refl wa.heap.size)
      go_wp2_with (fail)
      go_loopw [10] (fun v10 w' => ∃ j : Nat, v10 = .int .i64 j ∧ j ≤ wrs.length ∧ Aside0 (∃ ws, GhostAt w' ok p ws (fun _ => [])) ∧ Aside0 (Below w.heap.size w w') ∧ Aside0 (wa.heap.size ≤ w'.heap.size)) (fun v10 _ => wrs.length - (intOf v10).toNat)
      case atStart => exact ⟨0, rfl, Nat.zero_le _, HG, HB, HZ⟩
      case round =>
        clear HB HG HZ
        obtain ⟨j, rfl, hj, HG, HB, HZ⟩ := hrel
        by_cases hjl : j < wrs.length
        · obtain ⟨ad, ead, hx0, hx1, hx2, hx3, hx4⟩ := at_TEnt HR0.out (j : Int) (by omega) (by omega)
          cases ead
          obtain ⟨x, hx⟩ : ∃ x, rd_TEnt wrs (j : Int) = x := ⟨_, rfl⟩
          rw [hx] at hx0 hx1 hx2 hx3 hx4
          simp only [Int.toNat_natCast] at hx0 hx1 hx2 hx3 hx4
          replace hx0 := pw_cell_below HB.out hx0
          replace hx1 := pw_cell_below HB.out hx1
          replace hx2 := pw_cell_below HB.out hx2
          replace hx3 := pw_cell_below HB.out hx3
          replace hx4 := pw_cell_below HB.out hx4
          have hjl' : (j : Int) < (wrs.length : Int) := by omega
          have hj0 : (0 : Int) ≤ (j : Int) := by omega
          obtain ⟨ws, hG⟩ := HG.out
          clear hx
          go_wp2_with (fail)
          refine (wrote_calls p ws _ ok x _ hG).mono ?_
          rintro e2 w2 ⟨rfl, hG2, hF2⟩
          have HG2 := Aside0.mk (show ∃ ws, GhostAt w2 ok p ws (fun _ => []) from ⟨_, hG2⟩)
          have HB2 := Aside0.mk (HB.out.trans (hF2.below HB.out.size (fun k hk => (HOK2.out k hk).1)))
          have HZ2 := Aside0.mk (Nat.le_trans HZ.out hF2.size)
          clear hG hG2 hF2 HB HG HZ hx0 hx1 hx2 hx3 hx4
          go_wp2_with (fail)
          exact ⟨⟨j + 1, by go_num, by omega, HG2, HB2, HZ2⟩, by simp [intOf]; omega⟩
        · have hje : ¬ (j : Int) < (wrs.length : Int) := by omega
          obtain ⟨ws, hG⟩ := HG.out
          have HGG := Aside0.mk hG
          clear hG HG
          go_wp2_with ((with_reducible refine gate_dst (N := 64) rfl ?_); refine Kd.R_lit kEnt _ 31 ?hg (N := 64) ?hd (xs := ([] : List Ent)) (inner := []) (ok := fun _ => True) (okp := fun _ => True) ?hr ?hp (fun _ hk => hk) trivial (Below.refl _ _) (Nat.le_refl _) (by simp) ?_; (case hd => rfl); (case hg => rfl); (case hr => first | (go_simp; done) | (go_simp; rfl)); (case hp => exact (Reps.none _ _)); intro v11 w11 ho5 hb hg_ hnew_; clear hg_ hnew_; have HO := Aside0.mk ho5; have HB11 := Aside0.mk hb; clear ho5 hb)
          have HST := Aside0.mk (show UpSt w w11 p ws node v11 by
            obtain ⟨A11, c11, h1, h2, h3, h4⟩ := own_form HO.out
            have hG := HGG.out.same (fun k _ hk => HB11.out.block k hk)
            refine ⟨ok, fun _ => [], A11, c11, by rw [heldL_nil]; exact h1, by rw [heldL_nil]; exact h2, by rw [heldL_nil]; exact h3, hG, fun k hk => ?_, fun ad e hn => ?_, fun _ => rfl, fun _ => by simp, fun e he => ?_⟩
            · have := HOK2.out k hk
              have := HZ.out
              have := HB11.out.size
              omega
            · rw [heldL_nil] at hn
              simp at hn
            · rw [heldL_nil] at he
              simp at he)
          have n0_ := Aside0.mk (below_step HB.out HB11.out)
          clear HB HB11 HO HGG HZ HOK2
          have HB := n0_
          clear n0_
          go_loopw [11, 12] (fun v11 v12 w' => ∃ i : Nat, v12 = .int .i64 i ∧ i ≤ seen.length ∧ Aside0 (UpSt w w' p ws node v11) ∧ Aside0 (Below w.heap.size w w')) (fun v11 v12 _ => seen.length - (intOf v12).toNat)
          case atStart => exact ⟨0, rfl, Nat.zero_le _, HST, HB⟩
          case round =>
            clear HB HST
            obtain ⟨i2, rfl, hi2, HST, HB⟩ := hrel
            by_cases hlt : i2 < seen.length
            · obtain ⟨ok2, ls, Al, cl, rfl, hcl, hCl, hG, hok2, hAl, hck, hlen, hwr⟩ := HST.out
              obtain ⟨ad, A', c', rfl, hx, hl', hC'⟩ := at_rows HR1.out i2 hlt
              have hxl := HQ2.out i2 hlt
              obtain ⟨x, hxx⟩ : ∃ x, seen.getD i2 [] = x := ⟨_, rfl⟩
              rw [hxx] at hx hl' hC' hxl
              have HXW := Aside0.mk hx
              replace hx := pw_cell_below HB.out hx
              have hlt' : (i2 : Int) < (seen.length : Int) := by omega
              have hlt0 : (0 : Int) ≤ (i2 : Int) := by omega
              obtain ⟨key, hkey⟩ : ∃ key, key = (seesR (writtenB ws) ls node x).1 := ⟨_, rfl⟩
              obtain ⟨code, hcode⟩ : ∃ code, code = (seesR (writtenB ws) ls node x).2 := ⟨_, rfl⟩
              obtain ⟨ls2, hls2⟩ : ∃ ls2, ls2 = seesL (writtenB ws) ls node x := ⟨_, rfl⟩
              have hup := sees_up (writtenB ws) ls node x hck hwr
              simp only [← hcode, ← hls2] at hup
              have hck2 : ∀ j, ckFrom none (ls2 j) = 0 := fun j => by
                rw [hls2]
                unfold seesL
                split
                · rename_i h0
                  show ckFrom none (if j = node.toNat then x else ls j) = 0
                  split
                  · exact seesR_ck h0
                  · exact hck j
                · exact hck j
              have hlen2 : ∀ j, (ls2 j).length < 16384 := fun j => by
                rw [hls2]
                unfold seesL
                split
                · show (if j = node.toNat then x else ls j).length < 16384
                  split
                  · exact hxl
                  · exact hlen j
                · exact hlen j
              have hsc := sees_calls p ws ls ok2 node A' c' x wr hG hck (fun j => Nat.lt_trans (hlen j) (by omega)) (Kd.C_below hC' HB.out) hl' (Nat.lt_trans hxl (by omega))
              rw [← hkey, ← hcode, ← hls2] at hsc
              have HSC := Aside0.mk hsc
              have HX := Aside0.mk hx
              have HUP := Aside0.mk hup
              have HL2 := Aside0.mk (And.intro hck2 hlen2)
              have HKC := Aside0.mk (And.intro hkey (And.intro hcode hls2))
              have HXC := Aside0.mk (And.intro hl' (And.intro hC' hxl))
              have HLAST := Aside0.mk (And.intro hcl (And.intro hCl (And.intro hAl hlen)))
              have HOKG := Aside0.mk (And.intro hG hok2)
              have HXX := Aside0.mk hxx
              clear hsc hup hck2 hlen2 hkey hcode hls2 hl' hC' hxl hcl hCl hAl hG hok2 hck hlen hwr hxx HST
              go_wp2_with (fail)
              refine HSC.out.mono ?_
              rintro e2 w2 ⟨rfl, hG2, hF2⟩
              have hzr := HB.out.size
              have HG2 := Aside0.mk hG2
              have HOK3 := Aside0.mk (show ∀ k, (ok2 k ∨ (wr.heap.size ≤ k ∧ k < w2.heap.size)) → w.heap.size ≤ k ∧ k < w2.heap.size from fun k hk => by
                have := hF2.size
                rcases hk with hk | hk
                · have := HOKG.out.2 k hk
                  omega
                · omega)
              have HBO := HB
              have HB2 := Aside0.mk (HB.out.trans (hF2.below HB.out.size (fun k hk => by rw [hk]; exact (HOKG.out.2 p HOKG.out.1.own).1)))
              have hCl2 : Kd.C kEnt w2 Al (heldL ls node).length (heldL ls node) :=
                C_same kEnt_flat HLAST.out.2.1 (fun ad e hn => hF2.block _ (C_lt kEnt_szpos HLAST.out.2.1 e hn) (fun hk => HLAST.out.2.2.1 ad e hn (hk ▸ HOKG.out.1.own)))
              have HCL2 := Aside0.mk hCl2
              clear hG2 hF2 hx HB hCl2
              go_wp2_with (fail)
              refine (held_calls p ws ls2 _ node _ HG2.out (fun j => Nat.lt_trans (HL2.out.2 j) (by omega))).mono ?_
              rintro e3 w3 ⟨v3, rfl, hR3, hb3⟩
              obtain ⟨now, hnow⟩ : ∃ now, now = heldL ls2 node := ⟨_, rfl⟩
              rw [← hnow] at hR3
              obtain ⟨A3, c3, rfl, hc3, hC3, hA3⟩ := own_form hR3
              have hnl : now.length < 16384 := by
                rw [hnow]
                unfold heldL
                split
                · exact HL2.out.2 _
                · simp
              have hup := HUP.out
              rw [← hnow] at hup
              obtain ⟨up1, up2, up3, up4, up5⟩ := hup
              have HB3 := Aside0.mk (below_step HB2.out hb3)
              have HN := Aside0.mk (And.intro hc3 (And.intro hC3 hnl))
              have HA3 := Aside0.mk (fun ad e => (hA3 ad e).1)
              have HCL3 := Aside0.mk (Kd.C_below HCL2.out hb3)
              have HG3 := Aside0.mk (HG2.out.same (fun k _ hk => hb3.block k hk))
              have HNOW := Aside0.mk hnow
              have HU := Aside0.mk (And.intro up3 (And.intro up4 up5))
              have HZ23 := Aside0.mk hb3.size
              have hab := above_calls A3 c3 now Al cl (heldL ls node) w3 hC3 hc3 HCL3.out HLAST.out.1
              rw [if_pos up1, up1, up2] at hab
              have HAB := Aside0.mk hab
              clear hR3 hC3 hc3 hA3 hnl up1 up2 up3 up4 up5 hnow hb3 hab HUP
              go_wp2_with (fail)
              refine HAB.out.mono ?_
              rintro e4 w4 ⟨rfl, hb4⟩
              have HB4 := Aside0.mk (below_step HB3.out hb4)
              have HB34 := Aside0.mk hb4
              have hx4 := pw_cell_below HB4.out HXW.out
              clear hb4
              by_cases hc0 : code = 0
              · have hcb : (code == 0) = true := by simp [hc0]
                have hnx := HU.out.1 hc0
                have HNX := Aside0.mk hnx
                clear hnx
                subst hc0
                go_wp2_with (fail)
                refine (same_calls A3 c3 now A' c' x _ (Kd.C_below HN.out.2.1 HB34.out) HN.out.1 (Kd.C_below HXC.out.2.1 HB4.out) HXC.out.1 (Nat.lt_trans HN.out.2.2 (by omega))).mono ?_
                rintro e5 w5 ⟨rfl, hb0⟩
                rw [show decide (now = x) = true by simp [HNX.out]]
                have HB35 := Aside0.mk (HB34.out.trans ((Drawn0.below hb0).mono HB34.out.size)); have HB5 := Aside0.mk (below_step HB4.out (Drawn0.below hb0)); have HN5 := Aside0.mk (Kd.C_below HN.out.2.1 HB35.out); have HG5 := Aside0.mk (HG3.out.same (fun k _ hk => HB35.out.block k hk)); have HB55 := Aside0.mk (Below.refl w5.heap.size w5); have hnl := HN.out.2.2; clear hb0 hx4; go_wp2_with (fail); go_loopw [18] (fun v18 w' => ∃ m : Nat, v18 = .int .i64 m ∧ m ≤ now.length ∧ Aside0 (Below w5.heap.size w5 w')) (fun v18 _ => now.length - (intOf v18).toNat); (case atStart => exact ⟨0, rfl, Nat.zero_le _, HB55⟩); (case round => clear HB55; obtain ⟨m, rfl, hm, HBm⟩ := hrel; by_cases hml : m < now.length; (obtain ⟨ad3, ead3, hy0, hy1, hy2, hy3, hy4⟩ := at_TEnt HN5.out (m : Int) (by omega) (by omega); cases ead3; obtain ⟨y, hy⟩ : ∃ y, rd_TEnt now (m : Int) = y := ⟨_, rfl⟩; rw [hy] at hy0 hy1 hy2 hy3 hy4; simp only [Int.toNat_natCast] at hy0 hy1 hy2 hy3 hy4; replace hy0 := pw_cell_below HBm.out hy0; replace hy1 := pw_cell_below HBm.out hy1; replace hy2 := pw_cell_below HBm.out hy2; replace hy3 := pw_cell_below HBm.out hy3; replace hy4 := pw_cell_below HBm.out hy4; have hml' : (m : Int) < (now.length : Int) := (by omega); have hm0' : (0 : Int) ≤ (m : Int) := (by omega); have hyw := HU.out.2.2 y (by rw [← hy]; exact rd_mem hml); have HYW := Aside0.mk hyw; clear hyw hy; go_wp2_with (fail); refine (written_calls p ws ls2 _ y _ (HG5.out.same (fun k _ hk => HBm.out.block k hk))).mono ?_; rintro e6 w6 ⟨rfl, hb6⟩; rw [HYW.out]; have HB6 := Aside0.mk (HBm.out.trans (hb6.mono HBm.out.size)); clear hb6 HBm hy0 hy1 hy2 hy3 hy4; go_wp2_with (fail); exact ⟨⟨m + 1, by go_num, by omega, HB6⟩, by simp [intOf]; omega⟩); (have hmg : ¬ (m : Int) < (now.length : Int) := (by omega); go_wp2_with (fail); refine ⟨⟨i2 + 1, by go_num, by omega, ⟨?_⟩, ⟨HB5.out.trans (HBm.out.mono HB5.out.size)⟩⟩, by simp [intOf]; omega⟩; refine ⟨_, ls2, A3, c3, by rw [← HNOW.out], by rw [← HNOW.out]; exact HN.out.1, by rw [← HNOW.out]; exact Kd.C_below HN5.out HBm.out, HG5.out.same (fun k _ hk => HBm.out.block k hk), fun k hk => ?_, fun ad e hn hk => ?_, HL2.out.1, HL2.out.2, by rw [← HNOW.out]; exact HU.out.2.2⟩; (have h1 := HOK3.out k hk; have h2 := HZ23.out; have h3 := HB35.out.size; have h4 := HBm.out.size; exact ⟨h1.1, by omega⟩); (have h1 := (HOK3.out _ hk).2; have h2 := HA3.out ad e; omega)))
              · have hcb : (code == 0) = false := by simp [hc0]
                have hcb1 : (code != 0) = true := by simp [hc0]
                have HNX := Aside0.mk (HU.out.2.1 hc0)
                go_wp2_with (fail)
                refine (same_calls A3 c3 now Al cl (heldL ls node) _ (Kd.C_below HN.out.2.1 HB34.out) HN.out.1 (Kd.C_below HCL3.out HB34.out) HLAST.out.1 (Nat.lt_trans HN.out.2.2 (by omega))).mono ?_
                rintro e5 w5 ⟨rfl, hb0⟩
                rw [show decide (now = heldL ls node) = true by simp [HNX.out]]
                have HB35 := Aside0.mk (HB34.out.trans ((Drawn0.below hb0).mono HB34.out.size)); have HB5 := Aside0.mk (below_step HB4.out (Drawn0.below hb0)); have HN5 := Aside0.mk (Kd.C_below HN.out.2.1 HB35.out); have HG5 := Aside0.mk (HG3.out.same (fun k _ hk => HB35.out.block k hk)); have HB55 := Aside0.mk (Below.refl w5.heap.size w5); have hnl := HN.out.2.2; clear hb0 hx4; go_wp2_with (fail); go_loopw [18] (fun v18 w' => ∃ m : Nat, v18 = .int .i64 m ∧ m ≤ now.length ∧ Aside0 (Below w5.heap.size w5 w')) (fun v18 _ => now.length - (intOf v18).toNat); (case atStart => exact ⟨0, rfl, Nat.zero_le _, HB55⟩); (case round => clear HB55; obtain ⟨m, rfl, hm, HBm⟩ := hrel; by_cases hml : m < now.length; (obtain ⟨ad3, ead3, hy0, hy1, hy2, hy3, hy4⟩ := at_TEnt HN5.out (m : Int) (by omega) (by omega); cases ead3; obtain ⟨y, hy⟩ : ∃ y, rd_TEnt now (m : Int) = y := ⟨_, rfl⟩; rw [hy] at hy0 hy1 hy2 hy3 hy4; simp only [Int.toNat_natCast] at hy0 hy1 hy2 hy3 hy4; replace hy0 := pw_cell_below HBm.out hy0; replace hy1 := pw_cell_below HBm.out hy1; replace hy2 := pw_cell_below HBm.out hy2; replace hy3 := pw_cell_below HBm.out hy3; replace hy4 := pw_cell_below HBm.out hy4; have hml' : (m : Int) < (now.length : Int) := (by omega); have hm0' : (0 : Int) ≤ (m : Int) := (by omega); have hyw := HU.out.2.2 y (by rw [← hy]; exact rd_mem hml); have HYW := Aside0.mk hyw; clear hyw hy; go_wp2_with (fail); refine (written_calls p ws ls2 _ y _ (HG5.out.same (fun k _ hk => HBm.out.block k hk))).mono ?_; rintro e6 w6 ⟨rfl, hb6⟩; rw [HYW.out]; have HB6 := Aside0.mk (HBm.out.trans (hb6.mono HBm.out.size)); clear hb6 HBm hy0 hy1 hy2 hy3 hy4; go_wp2_with (fail); exact ⟨⟨m + 1, by go_num, by omega, HB6⟩, by simp [intOf]; omega⟩); (have hmg : ¬ (m : Int) < (now.length : Int) := (by omega); go_wp2_with (fail); refine ⟨⟨i2 + 1, by go_num, by omega, ⟨?_⟩, ⟨HB5.out.trans (HBm.out.mono HB5.out.size)⟩⟩, by simp [intOf]; omega⟩; refine ⟨_, ls2, A3, c3, by rw [← HNOW.out], by rw [← HNOW.out]; exact HN.out.1, by rw [← HNOW.out]; exact Kd.C_below HN5.out HBm.out, HG5.out.same (fun k _ hk => HBm.out.block k hk), fun k hk => ?_, fun ad e hn hk => ?_, HL2.out.1, HL2.out.2, by rw [← HNOW.out]; exact HU.out.2.2⟩; (have h1 := HOK3.out k hk; have h2 := HZ23.out; have h3 := HB35.out.size; have h4 := HBm.out.size; exact ⟨h1.1, by omega⟩); (have h1 := (HOK3.out _ hk).2; have h2 := HA3.out ad e; omega)))
            · have hge2 : ¬ (i2 : Int) < (seen.length : Int) := by omega
              go_wp2_with (fail)
              go_ret
              exact ⟨rfl, HB.out⟩
end Go.Proofs.Ytplnofodmgddmaa
