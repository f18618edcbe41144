import Derived.Test.YtplnofodmgddmaaHRng
import Derived.RangeFuncRecord
import Derived.RangeFuncOwn
/- A ghost's map of what was written: how it is asked, and written. -/
set_option linter.unusedVariables false
set_option linter.unusedSimpArgs false
namespace Go.Proofs.Ytplnofodmgddmaa
open Go.RowKit Go.Proofs.YtplnofodmgddmaaW.PrintWords Go.Proofs.YtplnofodmgddmaaW.PrintLast Go.Proofs.YtplnofodmgddmaaW.PrintMore

def vName (e : Ent) : Value := .agg #[.string e.f0, .int .i64 e.f1.f0, .int .i64 e.f1.f1]
def sameN (e x : Ent) : Bool := e.f0.toList == x.f0.toList && (e.f1.f0 == x.f1.f0 && (e.f1.f1 == x.f1.f1))
theorem eqName (d : Nat) (w : World) (e x : Ent) : (Op.equalIn (d + 3) 58 (vName e) (vName x)).run Try.prog w = .ok (sameN e x) w := by
  unfold vName sameN
  refine eqA_of Try.underlying58 (by kernel_rfl) ?_
  refine eqf_cons (by rfl) (by go_simp; rfl) (by go_simp; rfl) (by go_simp) ?_
  exact eqf_last (by rfl) (by go_simp) (by go_simp) (eqVer (d + 0) w _ _ _ _)
theorem check_name (b : Bool) (e : Ent) (w : World) : (Instr.checkKey b 10000 58 (vName e)).run Try.prog w = .ok () w := by
  unfold vName; kernel_rfl
def MapIs (w : World) (m : Nat) (ws : List Ent) : Prop := ∃ es clk, w.heap[m]? = some (.map es clk) ∧ es.toList.map (fun e => (e.key, e.val)) = ws.map (fun e => (vName e, vEnt e))
theorem find_asking (e : Ent) (w : World) : ∀ (ws : List Ent) (es : List MapEntry) (i : Nat), es.map (fun e => (e.key, e.val)) = ws.map (fun e => (vName e, vEnt e)) →
    (ws.find? (sameN e) = none ∧ (Instr.findAsking 58 (vName e) es i).run Try.prog w = .ok none w) ∨
    (∃ x j, ws.find? (sameN e) = some x ∧ ws[j]? = some x ∧ sameN e x = true ∧ (Instr.findAsking 58 (vName e) es i).run Try.prog w = .ok (some (i + j, vEnt x)) w) := by
  intro ws
  induction ws with
  | nil => intro es i h; obtain rfl : es = [] := by simpa using h
           exact .inl ⟨rfl, rfl⟩
  | cons x r ih =>
    intro es i h
    rcases es with _ | ⟨y, es⟩
    · simp at h
    · simp only [List.map_cons, List.cons.injEq, Prod.mk.injEq] at h
      obtain ⟨⟨h1, h2⟩, h3⟩ := h
      have he : (Op.equal 58 (vName e) y.key).run Try.prog w = .ok (sameN e x) w := by rw [h1]; exact eqName 9997 w e x
      cases hs : sameN e x
      · rw [hs] at he
        rcases ih es (i + 1) h3 with ⟨g1, g2⟩ | ⟨x', j, g1, g2, g3, g4⟩
        · exact .inl ⟨by simp [List.find?_cons, hs, g1], by simp only [Instr.findAsking, Sem.run_bind, he, Result.andThen, Bool.false_eq_true, if_false]; exact g2⟩
        · exact .inr ⟨x', j + 1, by simp [List.find?_cons, hs, g1], by simpa using g2, g3, by
            simp only [Instr.findAsking, Sem.run_bind, he, Result.andThen, Bool.false_eq_true, if_false]; rw [g4]; congr 3; omega⟩
      · rw [hs] at he
        exact .inr ⟨x, 0, by simp [List.find?_cons, hs], rfl, hs, by
          simp only [Instr.findAsking, Sem.run_bind, he, Result.andThen, if_true]; rw [h2]; rfl⟩
theorem find_key (e : Ent) (w : World) (ws : List Ent) (es : List MapEntry) (h : es.map (fun e => (e.key, e.val)) = ws.map (fun e => (vName e, vEnt e))) :
    (ws.find? (sameN e) = none ∧ (Instr.findKey 58 (vName e) es).run Try.prog w = .ok none w) ∨
    (∃ x j, ws.find? (sameN e) = some x ∧ ws[j]? = some x ∧ sameN e x = true ∧ (Instr.findKey 58 (vName e) es).run Try.prog w = .ok (some (j, vEnt x)) w) := by
  rcases es with _ | ⟨y, es⟩
  · obtain rfl : ws = [] := by simpa using h.symm
    refine .inl ⟨rfl, ?_⟩
    simp [Instr.findKey, Instr.findNow, run_underlying Try.underlying58]
  · have hn : ∀ d, Try.prog.underlying 58 = some d → Instr.findNow d (vName e) (y :: es) 0 = none := by
      intro d hd
      rw [Try.underlying58] at hd
      cases hd
      rfl
    have hk : (Instr.findKey 58 (vName e) (y :: es)).run Try.prog w = (Instr.findAsking 58 (vName e) (y :: es) 0).run Try.prog w := by
      simp only [Instr.findKey, Sem.run_bind, run_underlying Try.underlying58, Result.andThen, hn _ Try.underlying58]
    rw [hk]
    simpa using find_asking e w ws (y :: es) 0 h
def vNone : Value := .agg #[.string ⟨#[]⟩, .int .i64 0, .int .i64 0, .string ⟨#[]⟩, .bool false]
/-- THE MAP IS ASKED -/
theorem look_run (e : Ent) (m : Nat) (ws : List Ent) : ∀ w : World, MapIs w m ws →
    (Instr.lookup 48 (.map (some m)) (vName e) true).run Try.prog w = .ok (.tuple #[((ws.find? (sameN e)).map vEnt).getD vNone, .bool (ws.find? (sameN e)).isSome]) w := by
  intro w ⟨es, clk, hm, hes⟩
  have hz : (zeroValue 31).run Try.prog w = .ok vNone w := by kernel_rfl
  have hg : (getObj m).run Try.prog w = .ok (.map es clk) w := by simp [getObj, Sem.run, hm]
  rcases find_key e w ws es.toList hes with ⟨h1, h2⟩ | ⟨x, j, h1, _, _, h2⟩
  · simp [Instr.lookup, run_underlying Try.underlying48, hg, check_name, h1, h2, hz]
  · simp [Instr.lookup, run_underlying Try.underlying48, hg, check_name, h1, h2]

theorem stays_name (e : Ent) (w : World) : (Instr.keyThatStays (vName e) (vName e)).run Try.prog w = .ok (vName e) w := by
  have h : Instr.sameBits 10000 (vName e) (vName e) = true := by
    unfold vName
    rw [show (10000 : Nat) = 9999 + 1 from rfl]
    simp [Instr.sameBits, (MapKept.bytes_beq e.f0 e.f0).2 rfl]
  simp [Instr.keyThatStays, h]
def addW (ws : List Ent) (e : Ent) : List Ent := if (ws.find? (sameN e)).isSome = true then ws else ws ++ [e]
/-- THE MAP IS WRITTEN -/
theorem upd_run (e : Ent) (m : Nat) (ws : List Ent) (hx : ∀ x, ws.find? (sameN e) = some x → x = e) : ∀ w : World, MapIs w m ws →
    ∃ w', (Instr.mapUpdate 48 (.map (some m)) (vName e) (vEnt e)).run Try.prog w = .ok () w' ∧ MapIs w' m (addW ws e) ∧ w.grownBy w' (some m) := by
  intro w ⟨es, clk, hm, hes⟩
  have hg : (getObj m).run Try.prog w = .ok (.map es clk) w := by simp [getObj, Sem.run, hm]
  have hlt : m < w.heap.size := (Array.getElem?_eq_some_iff.1 hm).1
  have hset : ∀ es' clk', (setObj m (.map es' clk')).run Try.prog w = .ok () (w.putObj m (.map es' clk')) := fun es' clk' => by simp [setObj, Sem.run, hm, World.putObj]
  rcases find_key e w ws es.toList hes with ⟨h1, h2⟩ | ⟨x, j, h1, hj, _, h2⟩
  · refine ⟨w.putObj m (.map (es.push { key := vName e, val := vEnt e, born := clk }) (clk + 1)), ?_, ?_, grownBy_putObj' w m _⟩
    · simp [Instr.mapUpdate, run_underlying Try.underlying48, hg, check_name, h2, hset]
    · refine ⟨_, _, World.putObj_heap_same hlt, ?_⟩
      simp [addW, h1, hes]
  · obtain rfl := hx x h1
    have hl : es.toList.length = ws.length := by simpa using congrArg List.length hes
    have hjw : j < ws.length := (List.getElem?_eq_some_iff.1 hj).1
    have hje : j < es.size := by rw [← Array.length_toList]; omega
    have hkey : es[j].key = vName x := by
      have := congrArg (fun l => l[j]?) hes
      simp [hj, hje] at this
      exact this.1
    refine ⟨w.putObj m (.map (es.modify j fun en => { en with key := vName x, val := vEnt x }) clk), ?_, ?_, grownBy_putObj' w m _⟩
    · simp [Instr.mapUpdate, run_underlying Try.underlying48, hg, check_name, h2, hset, hje, hkey, stays_name]
    · refine ⟨_, _, World.putObj_heap_same hlt, ?_⟩
      rw [addW, h1, if_pos (by rfl), ← hes]
      apply List.ext_getElem?
      intro i
      have hj2 : es.toList[j]? = some es[j] := by simp [hje]
      have hv : (es[j].key, es[j].val) = (vName x, vEnt x) := by
        have := congrArg (fun l => l[j]?) hes
        simpa [hj, hje] using this
      simp only [Array.toList_modify, List.getElem?_map, List.getElem?_modify]
      by_cases hij : j = i
      · subst hij; simp [hj2, hje]; simpa using hv.symm
      · simp [hij]
end Go.Proofs.Ytplnofodmgddmaa
