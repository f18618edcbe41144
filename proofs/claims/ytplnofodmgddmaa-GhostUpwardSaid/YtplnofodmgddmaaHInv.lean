import Derived.Test.YtplnofodmgddmaaHStill
/- What two ghosts share, in plain Lean; and two ghosts in one world. -/
set_option linter.unusedVariables false
set_option linter.unusedSimpArgs false
namespace Go.Proofs.Ytplnofodmgddmaa
open Go.RowKit Go.Proofs.YtplnofodmgddmaaW.PrintWords Go.Proofs.YtplnofodmgddmaaW.PrintLast Go.Proofs.YtplnofodmgddmaaW.PrintMore

def DistinctN (ws : List Ent) : Prop := ws.Pairwise (fun x y => sameN x y = false)
theorem sameN_refl (e : Ent) : sameN e e = true := by simp [sameN]
theorem sameN_symm (e x : Ent) : sameN e x = sameN x e := by
  rw [sameN_comm]
  rfl
theorem find_self : ∀ {ws : List Ent} {e : Ent}, DistinctN ws → e ∈ ws → ws.find? (sameN e) = some e
  | [], _, _, h => by simp at h
  | x :: r, e, hd, h => by
    rw [DistinctN, List.pairwise_cons] at hd
    rw [List.find?_cons]
    by_cases hx : x = e
    · subst hx
      rw [sameN_refl]
    · have her : e ∈ r := by
        rcases List.mem_cons.1 h with h | h
        · exact absurd h.symm hx
        · exact h
      have := hd.1 e her
      rw [sameN_symm] at this
      rw [this]
      exact find_self hd.2 her
theorem written_eq {ws : List Ent} (hd : DistinctN ws) : writtenB ws = fun e => decide (e ∈ ws) := by
  funext e
  unfold writtenB
  by_cases he : e ∈ ws
  · rw [find_self hd he]
    simp [he]
  · cases hf : ws.find? (sameN e) with
    | none => simp [he]
    | some x =>
      have hx := List.mem_of_find?_eq_some hf
      have : x ≠ e := fun h => he (h ▸ hx)
      simp [he, this]
theorem distinct_addW {ws : List Ent} (hd : DistinctN ws) (e : Ent) : DistinctN (addW ws e) := by
  unfold addW
  split
  · exact hd
  · rename_i h
    have hn : ws.find? (sameN e) = none := by
      cases hf : ws.find? (sameN e) with
      | none => rfl
      | some x => simp [hf] at h
    unfold DistinctN
    rw [List.pairwise_append]
    refine ⟨hd, by simp, fun x hx y hy => ?_⟩
    rw [List.mem_singleton] at hy
    subst hy
    have := List.find?_eq_none.1 hn x hx
    rw [sameN_symm]
    simpa using this
theorem distinct_wroteW {ws : List Ent} (hd : DistinctN ws) (e : Ent) : DistinctN (wroteW ws e) := by
  unfold wroteW
  split
  · exact distinct_addW hd e
  · exact hd
theorem len_wroteW (ws : List Ent) (e : Ent) : (wroteW ws e).length ≤ ws.length + 1 := by
  unfold wroteW addW
  split
  · split
    · omega
    · simp
  · omega
theorem seesR_ck {wr : Ent → Bool} {ls : Nat → List Ent} {node : Int} {l : List Ent} (h : (seesR wr ls node l).2 = 0) : ckFrom none l = 0 := by
  unfold seesR at h
  split at h
  · split at h
    · assumption
    · exact h
  · simp at h
theorem refsees_calls' (q : Nat) (ws : List Ent) (ls : Nat → List Ent) (B : Nat) (ok : Nat → Prop) (node : Int) (A : Option Addr) (c : Nat) (l : List Ent) (w : World) (hd : DistinctN ws) (hG : RefAt w B ok q ws ls)
    (hs : ∀ i, ckFrom none (ls i) = 0) (hls : ∀ i, (ls i).length < 4611686018) (hr : Kd.C kEnt w A l.length l) (hc : l.length ≤ c) (hl : l.length < 4611686018) :
    Calls Try.prog 20 #[.pointer (some ⟨q, 0, none⟩), .int .i64 node, .slice A l.length c] w fun r w' =>
      r = .returned (.tuple #[.string (seesR (writtenB ws) ls node l).1, .int .i64 (seesR (writtenB ws) ls node l).2]) ∧
      RefAt w' B (fun k => ok k ∨ (w.heap.size ≤ k ∧ k < w'.heap.size)) q ws (seesL (writtenB ws) ls node l) ∧ Frm (fun k => k = q) w w' := by
  rw [written_eq hd]
  exact refsees_calls q ws ls B ok node A c l w hG hs hls hr hc hl
theorem GhostAt.own {w : World} {ok : Nat → Prop} {p : Nat} {ws : List Ent} {ls : Nat → List Ent} (h : GhostAt w ok p ws ls) : ok p := by
  obtain ⟨m, cs, h1, h2, h3, h4, h5, h6, h7⟩ := h
  exact h5
theorem RefAt.own {w : World} {B : Nat} {ok : Nat → Prop} {q : Nat} {ws : List Ent} {ls : Nat → List Ent} (h : RefAt w B ok q ws ls) : ok q := by
  obtain ⟨cs, v, h1, h2, h3, h4, h5, h6, h7⟩ := h
  exact h5
structure Inv (N M : Nat) (ws : List Ent) (ls : Nat → List Ent) : Prop where
  d : DistinctN ws
  n : ws.length ≤ N
  ck : ∀ i, ckFrom none (ls i) = 0
  m : ∀ i, (ls i).length < M
def opWs (ws : List Ent) (o : GOp) : List Ent := if o.f0 = 0 then wroteW ws o.f2 else ws
def opLs (ws : List Ent) (ls : Nat → List Ent) (o : GOp) : Nat → List Ent := if o.f0 = 2 then seesL (writtenB ws) ls o.f1 o.f3 else ls
theorem inv_sees {N M : Nat} {ws : List Ent} {ls : Nat → List Ent} (h : Inv N M ws ls) (wr : Ent → Bool) (node : Int) (l : List Ent) (hl : l.length < M) : Inv N M ws (seesL wr ls node l) := by
  unfold seesL
  split
  · rename_i h0
    refine ⟨h.d, h.n, fun i => ?_, fun i => ?_⟩
    · split
      · exact seesR_ck h0
      · exact h.ck i
    · split
      · exact hl
      · exact h.m i
  · exact h
theorem inv_wrote {N M : Nat} {ws : List Ent} {ls : Nat → List Ent} (h : Inv N M ws ls) (e : Ent) : Inv (N + 1) M (wroteW ws e) ls :=
  ⟨distinct_wroteW h.d e, by have := len_wroteW ws e; have := h.n; omega, h.ck, h.m⟩
theorem inv_op {N M : Nat} {ws : List Ent} {ls : Nat → List Ent} (h : Inv N M ws ls) (o : GOp) (hl : o.f3.length < M) : Inv (N + 1) M (opWs ws o) (opLs ws ls o) := by
  unfold opWs opLs
  by_cases h0 : o.f0 = 0
  · rw [if_pos h0, if_neg (by omega)]
    exact inv_wrote h _
  · rw [if_neg h0]
    have h' : Inv (N + 1) M ws ls := ⟨h.d, by have := h.n; omega, h.ck, h.m⟩
    split
    · exact inv_sees h' _ _ _ hl
    · exact h'
theorem inv_new {M : Nat} (hM : 0 < M) : Inv 0 M [] (fun _ => []) := ⟨List.Pairwise.nil, Nat.le_refl _, fun _ => rfl, fun _ => hM⟩

/-- a ghost and the document's ghost, told alike -/
structure Duo (B : Nat) (w : World) (okp okq : Nat → Prop) (p q : Nat) (ws : List Ent) (ls : Nat → List Ent) : Prop where
  g : GhostAt w okp p ws ls
  d : RefAt w B okq q ws ls
  kp : ∀ k, okp k → B ≤ k ∧ k < w.heap.size
  kq : ∀ k, okq k → B ≤ k ∧ k < w.heap.size
  ap : ∀ k, okp k → ¬ okq k
theorem Duo.same {B : Nat} {w w' : World} {okp okq : Nat → Prop} {p q : Nat} {ws : List Ent} {ls : Nat → List Ent} (h : Duo B w okp okq p q ws ls) (hz : w.heap.size ≤ w'.heap.size) (hs : ∀ k, okp k ∨ okq k → k < w.heap.size → w'.heap[k]? = w.heap[k]?) : Duo B w' okp okq p q ws ls :=
  ⟨h.g.same (fun k hk => hs k (.inl hk)), h.d.same (fun k hk => hs k (.inr hk)), fun k hk => ⟨(h.kp k hk).1, Nat.lt_of_lt_of_le (h.kp k hk).2 hz⟩, fun k hk => ⟨(h.kq k hk).1, Nat.lt_of_lt_of_le (h.kq k hk).2 hz⟩, h.ap⟩
theorem Duo.below {B : Nat} {w w' : World} {okp okq : Nat → Prop} {p q : Nat} {ws : List Ent} {ls : Nat → List Ent} (h : Duo B w okp okq p q ws ls) (hb : Below w.heap.size w w') : Duo B w' okp okq p q ws ls :=
  h.same hb.size (fun k _ hk => hb.block k hk)
theorem RefAt.grow {w : World} {B : Nat} {ok ok' : Nat → Prop} {q : Nat} {ws : List Ent} {ls : Nat → List Ent} (h : RefAt w B ok q ws ls) (ho : ∀ k, ok k → ok' k) : RefAt w B ok' q ws ls := RefAt.mono h ho
theorem Duo.step {B : Nat} {w5 w1 w2 : World} {okp okq okp' okq' : Nat → Prop} {p q : Nat} {ws ws' : List Ent} {ls ls' : Nat → List Ent} (h : Duo B w5 okp okq p q ws ls) (hB : B ≤ w5.heap.size)
    (hF1 : Frm okp w5 w1) (hG1 : GhostAt w1 okp' p ws' ls') (hp : ∀ k, okp' k → okp k ∨ (w5.heap.size ≤ k ∧ k < w1.heap.size))
    (hF2 : Frm okq w1 w2) (hD2 : RefAt w2 B okq' q ws' ls') (hq : ∀ k, okq' k → okq k ∨ (w1.heap.size ≤ k ∧ k < w2.heap.size)) : Duo B w2 okp' okq' p q ws' ls' := by
  have hs1 := hF1.size
  have hs2 := hF2.size
  refine ⟨hG1.same (fun k hk hlt => hF2.block k hlt (fun hkq => ?_)), hD2, fun k hk => ?_, fun k hk => ?_, fun k hk hk' => ?_⟩
  · have := (h.kq k hkq).2
    rcases hp k hk with h1 | h1
    · exact h.ap k h1 hkq
    · omega
  · rcases hp k hk with h1 | h1
    · have := h.kp k h1; omega
    · omega
  · rcases hq k hk with h1 | h1
    · have := h.kq k h1; omega
    · omega
  · rcases hp k hk with h1 | h1
    · rcases hq k hk' with h2 | h2
      · exact h.ap k h1 h2
      · have := (h.kp k h1).2; omega
    · rcases hq k hk' with h2 | h2
      · have := (h.kq k h2).2; omega
      · omega
def StepDone (B : Nat) (w w' : World) (okp okq : Nat → Prop) (p q : Nat) (ws : List Ent) (ls : Nat → List Ent) : Prop :=
  ∃ okp' okq', Duo B w' okp' okq' p q ws ls ∧ (∀ k, okp' k → okp k ∨ w.heap.size ≤ k) ∧ (∀ k, okq' k → okq k ∨ w.heap.size ≤ k) ∧ Frm (fun k => okp k ∨ okq k) w w'
theorem stepDone {B : Nat} {w w5 w1 w2 w3 : World} {okp okq okp' okq' : Nat → Prop} {p q : Nat} {ws ws' : List Ent} {ls ls' : Nat → List Ent} (h : Duo B w okp okq p q ws ls) (hB : B ≤ w.heap.size) (hb : Below w.heap.size w w5)
    (hF1 : Frm okp w5 w1) (hG1 : GhostAt w1 okp' p ws' ls') (hp : ∀ k, okp' k → okp k ∨ (w5.heap.size ≤ k ∧ k < w1.heap.size))
    (hF2 : Frm okq w1 w2) (hD2 : RefAt w2 B okq' q ws' ls') (hq : ∀ k, okq' k → okq k ∨ (w1.heap.size ≤ k ∧ k < w2.heap.size))
    (hF3 : Frm (fun k => w.heap.size ≤ k ∧ k < w5.heap.size) w2 w3) : StepDone B w w3 okp okq p q ws' ls' := by
  have hD5 := h.below hb
  have hD := hD5.step (Nat.le_trans hB hb.size) hF1 hG1 hp hF2 hD2 hq
  have hs := hb.size
  have hs1 := hF1.size
  have hs2 := hF2.size
  refine ⟨okp', okq', hD.same hF3.size (fun k hk hlt => hF3.block k hlt (fun hc => ?_)), fun k hk => ?_, fun k hk => ?_, ?_⟩
  · rcases hk with hk | hk
    · rcases hp k hk with h1 | h1
      · have := (h.kp k h1).2; omega
      · omega
    · rcases hq k hk with h1 | h1
      · have := (h.kq k h1).2; omega
      · omega
  · rcases hp k hk with h1 | h1
    · exact .inl h1
    · right; omega
  · rcases hq k hk with h1 | h1
    · exact .inl h1
    · right; omega
  · exact (((Frm.of_below hb _).trans (hF1.mono (fun k hk => .inl hk))).trans (hF2.mono (fun k hk => .inr hk))).then_ hF3 (fun k hk => .inr hk.1)
theorem stepSame {B : Nat} {w w3 : World} {okp okq : Nat → Prop} {p q : Nat} {ws : List Ent} {ls : Nat → List Ent} (h : Duo B w okp okq p q ws ls) (hb : Below w.heap.size w w3) : StepDone B w w3 okp okq p q ws ls :=
  ⟨okp, okq, h.below hb, fun _ h => .inl h, fun _ h => .inl h, Frm.of_below hb _⟩
end Go.Proofs.Ytplnofodmgddmaa
