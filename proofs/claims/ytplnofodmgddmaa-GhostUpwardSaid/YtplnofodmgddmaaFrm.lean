import Derived.Below
import Derived.RangeFuncNested
import Derived.RangeFuncBound
import Derived.RangeFuncCalls
import Derived.RangeFuncLeaves
import Derived.RangeFuncBox
import Derived.Test.YtplnofodmgddmaaWKept
/- What a call may have turned: the blocks of a set, and new ones; a loop's relation that speaks of elder blocks alone. -/
set_option linter.unusedVariables false
namespace Go.Proofs.Ytplnofodmgddmaa
open Go.RowKit Go.Proofs.YtplnofodmgddmaaW.PrintWords
/-- of what was there nothing has turned but the blocks of S -/
structure Frm (S : Nat → Prop) (w w' : World) : Prop where
  os : w'.os = w.os
  tape : w'.tape = w.tape
  output : w'.output = w.output
  size : w.heap.size ≤ w'.heap.size
  block : ∀ k, k < w.heap.size → ¬ S k → w'.heap[k]? = w.heap[k]?
theorem Frm.refl (S : Nat → Prop) (w : World) : Frm S w w := ⟨rfl, rfl, rfl, Nat.le_refl _, fun _ _ _ => rfl⟩
theorem Frm.of_below {w w' : World} (h : Below w.heap.size w w') (S : Nat → Prop) : Frm S w w' := ⟨h.os, h.tape, h.output, h.size, fun k hk _ => h.block k hk⟩
theorem Frm.trans {S : Nat → Prop} {a b c : World} (h : Frm S a b) (k : Frm S b c) : Frm S a c :=
  ⟨k.os.trans h.os, k.tape.trans h.tape, k.output.trans h.output, Nat.le_trans h.size k.size, fun i hi hn => (k.block i (Nat.lt_of_lt_of_le hi h.size) hn).trans (h.block i hi hn)⟩
theorem Frm.mono {S S' : Nat → Prop} {a b : World} (h : Frm S a b) (hs : ∀ k, S k → S' k) : Frm S' a b := ⟨h.os, h.tape, h.output, h.size, fun i hi hn => h.block i hi (fun hk => hn (hs i hk))⟩
/-- two steps: the second one may have turned what the first one may, or made -/
theorem Frm.then_ {S S' : Nat → Prop} {a b c : World} (h : Frm S a b) (k : Frm S' b c) (hs : ∀ k, S' k → S k ∨ a.heap.size ≤ k) : Frm S a c :=
  ⟨k.os.trans h.os, k.tape.trans h.tape, k.output.trans h.output, Nat.le_trans h.size k.size, fun i hi hn => (k.block i (Nat.lt_of_lt_of_le hi h.size) (fun hk => (hs i hk).elim hn (fun hle => by omega))).trans (h.block i hi hn)⟩
theorem Frm.below {S : Nat → Prop} {a b : World} (h : Frm S a b) {B : Nat} (hB : B ≤ a.heap.size) (hs : ∀ k, S k → B ≤ k) : Below B a b :=
  ⟨h.os, h.tape, h.output, h.size, fun k hk => h.block k (Nat.lt_of_lt_of_le hk hB) (fun hS => by have := hs k hS; omega)⟩
theorem Frm.all {S : Nat → Prop} {a b : World} (h : Frm S a b) (hs : ∀ k, ¬ S k) : Below a.heap.size a b := ⟨h.os, h.tape, h.output, h.size, fun k hk => h.block k hk (hs k)⟩
theorem Frm.kept {S : Nat → Prop} {a b : World} (h : Frm S a b) : Kept a b S := ⟨h.size, fun i hi hn => h.block i hi hn⟩
theorem Frm.of_kept {S : Nat → Prop} {w a b : World} (h : Kept a b S) (ha : Below w.heap.size w a) (hb : Below w.heap.size w b) : Frm S a b :=
  ⟨hb.os.trans ha.os.symm, hb.tape.trans ha.tape.symm, hb.output.trans ha.output.symm, h.1, h.2⟩
theorem Frm.of_grown {S : Nat → Prop} {a b : World} {row : Option Nat} (h : a.grownBy b row) (hs : ∀ k, row = some k → S k ∨ a.heap.size ≤ k) : Frm S a b :=
  ⟨h.os, h.tape, h.output, h.size, fun k hk hn => h.block k hk (fun e => (hs k e.symm).elim hn (fun hle => by omega))⟩
theorem Frm.drewN {S : Nat → Prop} {a b : World} (h : Frm S a b) (m : Nat) : Frm S a (b.drewN m) := ⟨h.os, h.tape, h.output, h.size, h.block⟩
theorem Frm.drew {S : Nat → Prop} {a b : World} (h : Frm S a b) : Frm S a b.drew := ⟨h.os, h.tape, h.output, h.size, h.block⟩
theorem Frm.alloc {S : Nat → Prop} {a b : World} (h : Frm S a b) (o : Obj) : Frm S a (b.alloc o) := h.trans (Frm.of_below (below_alloc (Below.refl _ _) o) S)
theorem Frm.setCell {S : Nat → Prop} {a b : World} (h : Frm S a b) {p : Addr} (hp : S p.block ∨ a.heap.size ≤ p.block) (v : Value) : Frm S a (b.setCell p v) :=
  ⟨h.os, h.tape, h.output, by simpa [World.setCell] using h.size, fun k hk hn => (Below.heap_setCell b p v k (fun e => by
    rcases hp with hp | hp
    · exact hn (e ▸ hp)
    · omega)).trans (h.block k hk hn)⟩
theorem Frm.blk {S : Nat → Prop} {a b : World} (h : Frm S a b) {g : Nat} {o : Obj} (hb : a.heap[g]? = some o) (hn : ¬ S g) : b.heap[g]? = some o := (h.block g (blk_lt hb) hn).trans hb
theorem Frm.cell {S : Nat → Prop} {a b : World} (h : Frm S a b) {p : Addr} {v : Value} (hc : a.cell? p = some v) (hn : ¬ S p.block) : b.cell? p = some v :=
  (World.cell?_of_block (h.block p.block (World.block_lt_of_cell? a p hc) hn)).trans hc

/-- what held below B: of the world W the blocks from B on may have turned -/
theorem Frm.of_blk {B : Nat} {a b : World} (h : Below B a b) (hB : B ≤ a.heap.size) : Frm (fun k => B ≤ k) a b := ⟨h.os, h.tape, h.output, h.size, fun k _ hn => h.block k (by omega)⟩
/-- the iterator keeps what lay below B, but for S -/
def KpB (B : Nat) (S : Nat → Prop) (A C : World) : Prop := ∀ k, k < B → ¬ S k → C.heap[k]? = A.heap[k]?
theorem kpB_t {B : Nat} {S : Nat → Prop} {A C D : World} (h : KpB B S A C) (k : KpB B S C D) : KpB B S A D := fun i hi hn => (k i hi hn).trans (h i hi hn)
theorem kpB_b {w : World} {B : Nat} {S : Nat → Prop} (hB : B ≤ w.heap.size) (W : World) (l : Nat) (o o' : Obj) (hl : w.heap.size ≤ l) (h : W.heap[l]? = some o) (_ : o.isCells = false) (_ : o.isWalk = false) : KpB B S W (W.putObj l o') :=
  fun k hk _ => World.putObj_heap_other (by omega)
theorem kpB_of_frm {B : Nat} {S : Nat → Prop} {W W' : World} (h : Frm S W W') (hB : B ≤ W.heap.size) : KpB B S W W' := fun k hk hn => h.block k (Nat.lt_of_lt_of_le hk hB) hn
theorem keepsFrom_of_frm {B : Nat} {S : Nat → Prop} {W W' : World} (h : Frm S W W') (hS : ∀ k, S k → k < B) : KeepsFrom B W W' :=
  ⟨h.size, fun k o hB hk ho => (h.block k (Array.getElem?_eq_some_iff.1 hk).1 (fun hs => by have := hS k hs; omega)).trans hk⟩
theorem ownFrom_of_below {β : Type} {B : Nat} {I : β → World → Prop} (hB : ∀ s W, I s W → B ≤ W.heap.size) (h : ∀ s W W', Below B W W' → I s W → I s W') : OwnFrom B I := fun s W W' row hs hg hr =>
  h s W W' ⟨hg.os, hg.tape, hg.output, hg.size, fun k hk => hg.block k (Nat.lt_of_lt_of_le hk (hB s W hs)) (fun e => by
    have := (hr k e.symm).1
    omega)⟩ hs
/-- a row of flat elements reads the same where its block is the same -/
theorem C_same {α : Type} {d : Kd α} (hf : ∀ (w w' : World) x cs, d.K w x cs → d.K w' x cs) {W W' : World} {A : Option Addr} {n : Nat} {xs : List α} (h : d.C W A n xs)
    (hs : ∀ ad, A = some ad → 0 < n → W'.heap[ad.block]? = W.heap[ad.block]?) : d.C W' A n xs := by
  refine ⟨h.1, h.2.1, fun hn => ?_⟩
  obtain ⟨ad, e, hc⟩ := h.2.2 hn
  refine ⟨ad, e, fun j p hj => ?_⟩
  obtain ⟨c, hl, hr, hcell⟩ := hc j p hj
  refine ⟨c, hl, hf _ _ _ _ hr, fun i u hu => ?_⟩
  have hb : ∀ m, (ad.add m).block = ad.block := fun m => by unfold Addr.add; split <;> rfl
  exact (World.cell?_of_block (by rw [hb]; exact hs ad e hn)).trans (hcell i u hu)
theorem C_lt {α : Type} {d : Kd α} {W : World} {A : Option Addr} {n : Nat} {xs : List α} (hsz : 0 < d.sz) (h : d.C W A n xs) {ad : Addr} (ha : A = some ad) (hn : 0 < n) : ad.block < W.heap.size := by
  obtain ⟨ad', e, hc⟩ := h.2.2 hn
  obtain rfl : ad = ad' := by rw [ha] at e; exact Option.some.inj e
  have hl : 0 < xs.length := by rw [h.1]; exact hn
  obtain ⟨c, hl2, _, hcell⟩ := hc 0 _ (List.getElem?_eq_getElem hl)
  have h0 := hcell 0 (c[0]'(by omega)) (List.getElem?_eq_getElem (by omega))
  have := World.block_lt_of_cell? W _ h0
  have hb : ∀ m, (ad.add m).block = ad.block := fun m => by unfold Addr.add; split <;> rfl
  rwa [hb] at this
end Go.Proofs.Ytplnofodmgddmaa
