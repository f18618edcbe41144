/- Kinds and calls: lines that the kit's print tool wrote for this seat, taken over as texts of this claim, with the structs' names in place of numbers. -/
import Derived.Test.YtplnofodmgddmaaBase
import Derived.Test.YtplnofodmgddmaaProg
import Derived.Below
import Derived.Deep.Draws
import Derived.Deep.AppendLies
import Derived.Maps.AppendAt
import Derived.OwnWalk
import Derived.Laws.BytesArg
import Derived.Laws.MakeOwn
import Derived.Laws.OwnMore
import Derived.Deep.OwnRows
import Derived.Tactics
import Derived.Lib.ConvBytes
import Derived.Laws.Slices
import Derived.WalkKit
import Derived.KernelRfl
import Derived.RowKit3
import Derived.Deep.LoopGhost
import Derived.Deep.QuietTactic
import Derived.BigQuiet
import Derived.WideLaws
import Derived.Deep.DeepCutAuto
import Derived.Deep.CutBlock
import Derived.Deep.RegionHeld3
import Derived.Laws.Rows
import Derived.Lib.AppendStr
import Derived.ArgAppend
import Derived.Laws.IdiomCopy
import Derived.OrdersHeld
import Derived.Laws.BitsLemmas
import Derived.RowKit
import Derived.Test.YtplnofodmgddmaaWWords
import Derived.Test.YtplnofodmgddmaaWLast
import Derived.Test.YtplnofodmgddmaaWTab
import Derived.Test.YtplnofodmgddmaaWFour
import Derived.Test.YtplnofodmgddmaaWQPut
import Derived.Test.YtplnofodmgddmaaWApart
import Derived.Test.YtplnofodmgddmaaWArr
import Derived.Test.YtplnofodmgddmaaWZeros
import Derived.Test.YtplnofodmgddmaaWFoot
import Derived.Test.YtplnofodmgddmaaWKept
import Derived.Test.YtplnofodmgddmaaWShare
import Derived.Test.YtplnofodmgddmaaWN
import Derived.Test.YtplnofodmgddmaaWFootNe
import Derived.Test.YtplnofodmgddmaaWAt
import Derived.Test.YtplnofodmgddmaaWEqStruct
import Derived.Test.YtplnofodmgddmaaWRepsOne
import Derived.Test.YtplnofodmgddmaaWInv
import Derived.Test.YtplnofodmgddmaaWInvWords
import Derived.Test.YtplnofodmgddmaaWGuard
import Derived.Test.YtplnofodmgddmaaWNEv
import Derived.Test.YtplnofodmgddmaaWMore
namespace Go.Proofs.Ytplnofodmgddmaa
open Go.RowKit Go.Proofs.YtplnofodmgddmaaW.PrintWords Go.Proofs.YtplnofodmgddmaaW.PrintLast Go.Proofs.YtplnofodmgddmaaW.PrintMore
attribute [local go_sem] max2_int min2_int max_two min_two max_three min_three max_four min_four
set_option linter.unusedVariables false
set_option linter.unusedSimpArgs false
def errW : Option Int → Value
  | none => .nilIface
  | some c => .iface 0 (.int .i64 c)
theorem errW_none : errW none = .nilIface := rfl
theorem errW_some (c : Int) : errW (some c) = .iface 0 (.int .i64 c) := rfl

theorem info3 : (Try.prog.info? 3).map (fun i => (i.zero, i.size, i.bytes)) = some (some (.int .i64 0), 1, 8) := by kernel_rfl
theorem infoEnt : (Try.prog.info? 31).map (fun i => (i.zero, i.size, i.bytes)) = some (some (.agg #[(.string ⟨#[]⟩), (.int .i64 0), (.int .i64 0), (.string ⟨#[]⟩), (.bool false)]), 5, 56) := by kernel_rfl
theorem infoPairE : (Try.prog.info? 69).map (fun i => (i.zero, i.size, i.bytes)) = some (some (.agg #[(.string ⟨#[]⟩), (.int .i64 0), (.int .i64 0), (.string ⟨#[]⟩), (.bool false), (.string ⟨#[]⟩), (.int .i64 0), (.int .i64 0), (.string ⟨#[]⟩), (.bool false)]), 10, 112) := by kernel_rfl
def zVer : Ver := ⟨(0 : Int), (0 : Int)⟩
def kVer : Kd Ver := Kd.iso (Kd.pair (Kd.int .i64) (Kd.int .i64)) (fun x : Ver => (x.f0, x.f1))
theorem kVer_open {w : World} {x : Ver} {cs : List Value} (h : kVer.K w x cs) : cs = [.int .i64 x.f0, .int .i64 x.f1] := by
  obtain ⟨_, _, rfl, rfl, rfl⟩ := h
  exact rfl
theorem kVer_openM {w : World} {base : Nat} {ok : Nat → Prop} {x : Ver} {cs : List Value} (h : kVer.M w base ok x cs) : cs = [.int .i64 x.f0, .int .i64 x.f1] := by
  obtain ⟨_, _, rfl, rfl, rfl⟩ := h
  exact rfl
theorem kVer_mk (w : World) (x : Ver)  : kVer.K w x [.int .i64 x.f0, .int .i64 x.f1] := ⟨[.int .i64 x.f0], [.int .i64 x.f1], rfl, rfl, rfl⟩
theorem kVer_mkM (w : World) (base : Nat) (ok : Nat → Prop) (x : Ver)  : kVer.M w base ok x [.int .i64 x.f0, .int .i64 x.f1] := ⟨[.int .i64 x.f0], [.int .i64 x.f1], rfl, rfl, rfl⟩
def rd_TVer (xs : List Ver) (i : Int) : Ver := xs.getD i.toNat zVer
theorem at_TVer {w : World} {A : Option Addr} {n : Nat} {xs : List Ver} (h : Kd.C kVer w A n xs) (i : Int) (h0 : 0 ≤ i) (h1 : i < n) : ∃ ad , A = some ad ∧ w.cell? (ad.add (i.toNat * 2)) = some (.int .i64 (rd_TVer xs i).f0) ∧ w.cell? ⟨(ad.add (i.toNat * 2)).block, (ad.add (i.toNat * 2)).off + 1, none⟩ = some (.int .i64 (rd_TVer xs i).f1) := by
  obtain ⟨ad, c, e, _, hK, hc0⟩ := Kd.C_get h zVer i h0 h1
  have hc : ∀ j u, c[j]? = some u → w.cell? (ad.add (i.toNat * 2 + j)) = some u := hc0
  obtain rfl := kVer_open hK
  exact ⟨ad, e, hc 0 _ rfl, by rw [← add_field _ _ 1 (by omega)]; exact hc 1 _ rfl⟩

def zEnt : Ent := ⟨(⟨#[]⟩ : ByteArray), zVer, (⟨#[]⟩ : ByteArray), false⟩
def kEnt : Kd Ent := Kd.iso (Kd.pair Kd.string (Kd.pair kVer (Kd.pair Kd.string Kd.bool))) (fun x : Ent => (x.f0, x.f1, x.f2, x.f3))
theorem kEnt_open {w : World} {x : Ent} {cs : List Value} (h : kEnt.K w x cs) : cs = [.string x.f0, .int .i64 x.f1.f0, .int .i64 x.f1.f1, .string x.f2, .bool x.f3] := by
  obtain ⟨_, _, rfl, rfl, ⟨_, _, rfl, s1, ⟨_, _, rfl, rfl, rfl⟩⟩⟩ := h
  obtain rfl := kVer_open s1
  exact rfl
theorem kEnt_openM {w : World} {base : Nat} {ok : Nat → Prop} {x : Ent} {cs : List Value} (h : kEnt.M w base ok x cs) : cs = [.string x.f0, .int .i64 x.f1.f0, .int .i64 x.f1.f1, .string x.f2, .bool x.f3] := by
  obtain ⟨_, _, rfl, rfl, ⟨_, _, rfl, s1, ⟨_, _, rfl, rfl, rfl⟩⟩⟩ := h
  obtain rfl := kVer_openM s1
  exact rfl
theorem kEnt_mk (w : World) (x : Ent)  : kEnt.K w x [.string x.f0, .int .i64 x.f1.f0, .int .i64 x.f1.f1, .string x.f2, .bool x.f3] := ⟨[.string x.f0], [.int .i64 x.f1.f0, .int .i64 x.f1.f1, .string x.f2, .bool x.f3], rfl, rfl, ⟨[.int .i64 x.f1.f0, .int .i64 x.f1.f1], [.string x.f2, .bool x.f3], rfl, (kVer_mk w x.f1 ), ⟨[.string x.f2], [.bool x.f3], rfl, rfl, rfl⟩⟩⟩
theorem kEnt_mkM (w : World) (base : Nat) (ok : Nat → Prop) (x : Ent)  : kEnt.M w base ok x [.string x.f0, .int .i64 x.f1.f0, .int .i64 x.f1.f1, .string x.f2, .bool x.f3] := ⟨[.string x.f0], [.int .i64 x.f1.f0, .int .i64 x.f1.f1, .string x.f2, .bool x.f3], rfl, rfl, ⟨[.int .i64 x.f1.f0, .int .i64 x.f1.f1], [.string x.f2, .bool x.f3], rfl, (kVer_mkM w base ok x.f1 ), ⟨[.string x.f2], [.bool x.f3], rfl, rfl, rfl⟩⟩⟩
def rd_TEnt (xs : List Ent) (i : Int) : Ent := xs.getD i.toNat zEnt
theorem at_TEnt {w : World} {A : Option Addr} {n : Nat} {xs : List Ent} (h : Kd.C kEnt w A n xs) (i : Int) (h0 : 0 ≤ i) (h1 : i < n) : ∃ ad , A = some ad ∧ w.cell? (ad.add (i.toNat * 5)) = some (.string (rd_TEnt xs i).f0) ∧ w.cell? ⟨(ad.add (i.toNat * 5)).block, (ad.add (i.toNat * 5)).off + 1, none⟩ = some (.int .i64 (rd_TEnt xs i).f1.f0) ∧ w.cell? ⟨(ad.add (i.toNat * 5)).block, (ad.add (i.toNat * 5)).off + 2, none⟩ = some (.int .i64 (rd_TEnt xs i).f1.f1) ∧ w.cell? ⟨(ad.add (i.toNat * 5)).block, (ad.add (i.toNat * 5)).off + 3, none⟩ = some (.string (rd_TEnt xs i).f2) ∧ w.cell? ⟨(ad.add (i.toNat * 5)).block, (ad.add (i.toNat * 5)).off + 4, none⟩ = some (.bool (rd_TEnt xs i).f3) := by
  obtain ⟨ad, c, e, _, hK, hc0⟩ := Kd.C_get h zEnt i h0 h1
  have hc : ∀ j u, c[j]? = some u → w.cell? (ad.add (i.toNat * 5 + j)) = some u := hc0
  obtain rfl := kEnt_open hK
  exact ⟨ad, e, hc 0 _ rfl, by rw [← add_field _ _ 1 (by omega)]; exact hc 1 _ rfl, by rw [← add_field _ _ 2 (by omega)]; exact hc 2 _ rfl, by rw [← add_field _ _ 3 (by omega)]; exact hc 3 _ rfl, by rw [← add_field _ _ 4 (by omega)]; exact hc 4 _ rfl⟩

def rd_L5 (xs : List (List Ent)) (i : Int) : (List Ent) := xs.getD i.toNat ([] : List Ent)
theorem at_L5 {w : World} {A : Option Addr} {n : Nat} {xs : List (List Ent)} (h : Kd.C (Kd.slice 31 kEnt) w A n xs) (i : Int) (h0 : 0 ≤ i) (h1 : i < n) : ∃ ad A0 c0, A = some ad ∧ w.cell? (ad.add i.toNat) = some (.slice A0 (rd_L5 xs i).length c0) ∧ (rd_L5 xs i).length ≤ c0 ∧ kEnt.C w A0 (rd_L5 xs i).length (rd_L5 xs i) := by
  obtain ⟨ad, c, e, _, hK, hc0⟩ := Kd.C_get h ([] : List Ent) i h0 h1
  have hc : ∀ j u, c[j]? = some u → w.cell? (ad.add (i.toNat * 1 + j)) = some u := hc0
  obtain ⟨A0, c0, rfl, l0, g0⟩ := hK
  exact ⟨ad, A0, c0, e, by have hq := hc 0 _ rfl; rwa [Nat.mul_one, Nat.add_zero] at hq, l0, g0⟩

def zGOp : GOp := ⟨(0 : Int), (0 : Int), zEnt, ([] : List Ent), false⟩
def kGOp : Kd GOp := Kd.iso (Kd.pair (Kd.int .i64) (Kd.pair (Kd.int .i64) (Kd.pair kEnt (Kd.pair (Kd.slice 31 kEnt) Kd.bool)))) (fun x : GOp => (x.f0, x.f1, x.f2, x.f3, x.f4))
theorem kGOp_open {w : World} {x : GOp} {cs : List Value} (h : kGOp.K w x cs) : ∃ A7 c7, cs = [.int .i64 x.f0, .int .i64 x.f1, .string x.f2.f0, .int .i64 x.f2.f1.f0, .int .i64 x.f2.f1.f1, .string x.f2.f2, .bool x.f2.f3, .slice A7 x.f3.length c7, .bool x.f4] ∧ x.f3.length ≤ c7 ∧ kEnt.C w A7 x.f3.length x.f3 := by
  obtain ⟨_, _, rfl, rfl, ⟨_, _, rfl, rfl, ⟨_, _, rfl, s2, ⟨_, _, rfl, ⟨A7, c7, rfl, l7, g7⟩, rfl⟩⟩⟩⟩ := h
  obtain rfl := kEnt_open s2
  exact ⟨A7, c7, rfl, l7, g7⟩
theorem kGOp_openM {w : World} {base : Nat} {ok : Nat → Prop} {x : GOp} {cs : List Value} (h : kGOp.M w base ok x cs) : ∃ v7, cs = [.int .i64 x.f0, .int .i64 x.f1, .string x.f2.f0, .int .i64 x.f2.f1.f0, .int .i64 x.f2.f1.f1, .string x.f2.f2, .bool x.f2.f3, v7, .bool x.f4] ∧ kEnt.R 31 w base ok v7 x.f3 := by
  obtain ⟨_, _, rfl, rfl, ⟨_, _, rfl, rfl, ⟨_, _, rfl, s2, ⟨_, _, rfl, ⟨v7, rfl, g7⟩, rfl⟩⟩⟩⟩ := h
  obtain rfl := kEnt_openM s2
  exact ⟨v7, rfl, g7⟩
theorem kGOp_mk (w : World) (x : GOp) {A7 : Option Addr} {c7 : Nat} (l7 : x.f3.length ≤ c7) (g7 : kEnt.C w A7 x.f3.length x.f3) : kGOp.K w x [.int .i64 x.f0, .int .i64 x.f1, .string x.f2.f0, .int .i64 x.f2.f1.f0, .int .i64 x.f2.f1.f1, .string x.f2.f2, .bool x.f2.f3, .slice A7 x.f3.length c7, .bool x.f4] := ⟨[.int .i64 x.f0], [.int .i64 x.f1, .string x.f2.f0, .int .i64 x.f2.f1.f0, .int .i64 x.f2.f1.f1, .string x.f2.f2, .bool x.f2.f3, .slice A7 x.f3.length c7, .bool x.f4], rfl, rfl, ⟨[.int .i64 x.f1], [.string x.f2.f0, .int .i64 x.f2.f1.f0, .int .i64 x.f2.f1.f1, .string x.f2.f2, .bool x.f2.f3, .slice A7 x.f3.length c7, .bool x.f4], rfl, rfl, ⟨[.string x.f2.f0, .int .i64 x.f2.f1.f0, .int .i64 x.f2.f1.f1, .string x.f2.f2, .bool x.f2.f3], [.slice A7 x.f3.length c7, .bool x.f4], rfl, (kEnt_mk w x.f2 ), ⟨[.slice A7 x.f3.length c7], [.bool x.f4], rfl, ⟨A7, c7, rfl, l7, g7⟩, rfl⟩⟩⟩⟩
theorem kGOp_mkM (w : World) (base : Nat) (ok : Nat → Prop) (x : GOp) {v7 : Value} (g7 : kEnt.R 31 w base ok v7 x.f3) : kGOp.M w base ok x [.int .i64 x.f0, .int .i64 x.f1, .string x.f2.f0, .int .i64 x.f2.f1.f0, .int .i64 x.f2.f1.f1, .string x.f2.f2, .bool x.f2.f3, v7, .bool x.f4] := ⟨[.int .i64 x.f0], [.int .i64 x.f1, .string x.f2.f0, .int .i64 x.f2.f1.f0, .int .i64 x.f2.f1.f1, .string x.f2.f2, .bool x.f2.f3, v7, .bool x.f4], rfl, rfl, ⟨[.int .i64 x.f1], [.string x.f2.f0, .int .i64 x.f2.f1.f0, .int .i64 x.f2.f1.f1, .string x.f2.f2, .bool x.f2.f3, v7, .bool x.f4], rfl, rfl, ⟨[.string x.f2.f0, .int .i64 x.f2.f1.f0, .int .i64 x.f2.f1.f1, .string x.f2.f2, .bool x.f2.f3], [v7, .bool x.f4], rfl, (kEnt_mkM w base ok x.f2 ), ⟨[v7], [.bool x.f4], rfl, ⟨v7, rfl, g7⟩, rfl⟩⟩⟩⟩
def rd_TGOp (xs : List GOp) (i : Int) : GOp := xs.getD i.toNat zGOp
theorem at_TGOp {w : World} {A : Option Addr} {n : Nat} {xs : List GOp} (h : Kd.C kGOp w A n xs) (i : Int) (h0 : 0 ≤ i) (h1 : i < n) : ∃ ad A7 c7, A = some ad ∧ w.cell? (ad.add (i.toNat * 9)) = some (.int .i64 (rd_TGOp xs i).f0) ∧ w.cell? ⟨(ad.add (i.toNat * 9)).block, (ad.add (i.toNat * 9)).off + 1, none⟩ = some (.int .i64 (rd_TGOp xs i).f1) ∧ w.cell? ⟨(ad.add (i.toNat * 9)).block, (ad.add (i.toNat * 9)).off + 2, none⟩ = some (.string (rd_TGOp xs i).f2.f0) ∧ w.cell? ⟨(ad.add (i.toNat * 9)).block, (ad.add (i.toNat * 9)).off + 3, none⟩ = some (.int .i64 (rd_TGOp xs i).f2.f1.f0) ∧ w.cell? ⟨(ad.add (i.toNat * 9)).block, (ad.add (i.toNat * 9)).off + 4, none⟩ = some (.int .i64 (rd_TGOp xs i).f2.f1.f1) ∧ w.cell? ⟨(ad.add (i.toNat * 9)).block, (ad.add (i.toNat * 9)).off + 5, none⟩ = some (.string (rd_TGOp xs i).f2.f2) ∧ w.cell? ⟨(ad.add (i.toNat * 9)).block, (ad.add (i.toNat * 9)).off + 6, none⟩ = some (.bool (rd_TGOp xs i).f2.f3) ∧ w.cell? ⟨(ad.add (i.toNat * 9)).block, (ad.add (i.toNat * 9)).off + 7, none⟩ = some (.slice A7 (rd_TGOp xs i).f3.length c7) ∧ w.cell? ⟨(ad.add (i.toNat * 9)).block, (ad.add (i.toNat * 9)).off + 8, none⟩ = some (.bool (rd_TGOp xs i).f4) ∧ (rd_TGOp xs i).f3.length ≤ c7 ∧ kEnt.C w A7 (rd_TGOp xs i).f3.length (rd_TGOp xs i).f3 := by
  obtain ⟨ad, c, e, _, hK, hc0⟩ := Kd.C_get h zGOp i h0 h1
  have hc : ∀ j u, c[j]? = some u → w.cell? (ad.add (i.toNat * 9 + j)) = some u := hc0
  obtain ⟨A7, c7, rfl, l7, g7⟩ := kGOp_open hK
  exact ⟨ad, A7, c7, e, hc 0 _ rfl, by rw [← add_field _ _ 1 (by omega)]; exact hc 1 _ rfl, by rw [← add_field _ _ 2 (by omega)]; exact hc 2 _ rfl, by rw [← add_field _ _ 3 (by omega)]; exact hc 3 _ rfl, by rw [← add_field _ _ 4 (by omega)]; exact hc 4 _ rfl, by rw [← add_field _ _ 5 (by omega)]; exact hc 5 _ rfl, by rw [← add_field _ _ 6 (by omega)]; exact hc 6 _ rfl, by rw [← add_field _ _ 7 (by omega)]; exact hc 7 _ rfl, by rw [← add_field _ _ 8 (by omega)]; exact hc 8 _ rfl, l7, g7⟩

def zPairE : PairE := ⟨zEnt, zEnt⟩
def kPairE : Kd PairE := Kd.iso (Kd.pair kEnt kEnt) (fun x : PairE => (x.f0, x.f1))
theorem kPairE_open {w : World} {x : PairE} {cs : List Value} (h : kPairE.K w x cs) : cs = [.string x.f0.f0, .int .i64 x.f0.f1.f0, .int .i64 x.f0.f1.f1, .string x.f0.f2, .bool x.f0.f3, .string x.f1.f0, .int .i64 x.f1.f1.f0, .int .i64 x.f1.f1.f1, .string x.f1.f2, .bool x.f1.f3] := by
  obtain ⟨_, _, rfl, s0, s5⟩ := h
  obtain rfl := kEnt_open s0
  obtain rfl := kEnt_open s5
  exact rfl
theorem kPairE_openM {w : World} {base : Nat} {ok : Nat → Prop} {x : PairE} {cs : List Value} (h : kPairE.M w base ok x cs) : cs = [.string x.f0.f0, .int .i64 x.f0.f1.f0, .int .i64 x.f0.f1.f1, .string x.f0.f2, .bool x.f0.f3, .string x.f1.f0, .int .i64 x.f1.f1.f0, .int .i64 x.f1.f1.f1, .string x.f1.f2, .bool x.f1.f3] := by
  obtain ⟨_, _, rfl, s0, s5⟩ := h
  obtain rfl := kEnt_openM s0
  obtain rfl := kEnt_openM s5
  exact rfl
theorem kPairE_mk (w : World) (x : PairE)  : kPairE.K w x [.string x.f0.f0, .int .i64 x.f0.f1.f0, .int .i64 x.f0.f1.f1, .string x.f0.f2, .bool x.f0.f3, .string x.f1.f0, .int .i64 x.f1.f1.f0, .int .i64 x.f1.f1.f1, .string x.f1.f2, .bool x.f1.f3] := ⟨[.string x.f0.f0, .int .i64 x.f0.f1.f0, .int .i64 x.f0.f1.f1, .string x.f0.f2, .bool x.f0.f3], [.string x.f1.f0, .int .i64 x.f1.f1.f0, .int .i64 x.f1.f1.f1, .string x.f1.f2, .bool x.f1.f3], rfl, (kEnt_mk w x.f0 ), (kEnt_mk w x.f1 )⟩
theorem kPairE_mkM (w : World) (base : Nat) (ok : Nat → Prop) (x : PairE)  : kPairE.M w base ok x [.string x.f0.f0, .int .i64 x.f0.f1.f0, .int .i64 x.f0.f1.f1, .string x.f0.f2, .bool x.f0.f3, .string x.f1.f0, .int .i64 x.f1.f1.f0, .int .i64 x.f1.f1.f1, .string x.f1.f2, .bool x.f1.f3] := ⟨[.string x.f0.f0, .int .i64 x.f0.f1.f0, .int .i64 x.f0.f1.f1, .string x.f0.f2, .bool x.f0.f3], [.string x.f1.f0, .int .i64 x.f1.f1.f0, .int .i64 x.f1.f1.f1, .string x.f1.f2, .bool x.f1.f3], rfl, (kEnt_mkM w base ok x.f0 ), (kEnt_mkM w base ok x.f1 )⟩
def rd_TPairE (xs : List PairE) (i : Int) : PairE := xs.getD i.toNat zPairE
theorem at_TPairE {w : World} {A : Option Addr} {n : Nat} {xs : List PairE} (h : Kd.C kPairE w A n xs) (i : Int) (h0 : 0 ≤ i) (h1 : i < n) : ∃ ad , A = some ad ∧ w.cell? (ad.add (i.toNat * 10)) = some (.string (rd_TPairE xs i).f0.f0) ∧ w.cell? ⟨(ad.add (i.toNat * 10)).block, (ad.add (i.toNat * 10)).off + 1, none⟩ = some (.int .i64 (rd_TPairE xs i).f0.f1.f0) ∧ w.cell? ⟨(ad.add (i.toNat * 10)).block, (ad.add (i.toNat * 10)).off + 2, none⟩ = some (.int .i64 (rd_TPairE xs i).f0.f1.f1) ∧ w.cell? ⟨(ad.add (i.toNat * 10)).block, (ad.add (i.toNat * 10)).off + 3, none⟩ = some (.string (rd_TPairE xs i).f0.f2) ∧ w.cell? ⟨(ad.add (i.toNat * 10)).block, (ad.add (i.toNat * 10)).off + 4, none⟩ = some (.bool (rd_TPairE xs i).f0.f3) ∧ w.cell? ⟨(ad.add (i.toNat * 10)).block, (ad.add (i.toNat * 10)).off + 5, none⟩ = some (.string (rd_TPairE xs i).f1.f0) ∧ w.cell? ⟨(ad.add (i.toNat * 10)).block, (ad.add (i.toNat * 10)).off + 6, none⟩ = some (.int .i64 (rd_TPairE xs i).f1.f1.f0) ∧ w.cell? ⟨(ad.add (i.toNat * 10)).block, (ad.add (i.toNat * 10)).off + 7, none⟩ = some (.int .i64 (rd_TPairE xs i).f1.f1.f1) ∧ w.cell? ⟨(ad.add (i.toNat * 10)).block, (ad.add (i.toNat * 10)).off + 8, none⟩ = some (.string (rd_TPairE xs i).f1.f2) ∧ w.cell? ⟨(ad.add (i.toNat * 10)).block, (ad.add (i.toNat * 10)).off + 9, none⟩ = some (.bool (rd_TPairE xs i).f1.f3) := by
  obtain ⟨ad, c, e, _, hK, hc0⟩ := Kd.C_get h zPairE i h0 h1
  have hc : ∀ j u, c[j]? = some u → w.cell? (ad.add (i.toNat * 10 + j)) = some u := hc0
  obtain rfl := kPairE_open hK
  exact ⟨ad, e, hc 0 _ rfl, by rw [← add_field _ _ 1 (by omega)]; exact hc 1 _ rfl, by rw [← add_field _ _ 2 (by omega)]; exact hc 2 _ rfl, by rw [← add_field _ _ 3 (by omega)]; exact hc 3 _ rfl, by rw [← add_field _ _ 4 (by omega)]; exact hc 4 _ rfl, by rw [← add_field _ _ 5 (by omega)]; exact hc 5 _ rfl, by rw [← add_field _ _ 6 (by omega)]; exact hc 6 _ rfl, by rw [← add_field _ _ 7 (by omega)]; exact hc 7 _ rfl, by rw [← add_field _ _ 8 (by omega)]; exact hc 8 _ rfl, by rw [← add_field _ _ 9 (by omega)]; exact hc 9 _ rfl⟩
theorem eqVer (d : Nat) (w : World) (x0 y0 : Int) (x1 y1 : Int) :
    (Op.equalIn (d + 2) 29 (.agg #[.int .i64 x0, .int .i64 x1]) (.agg #[.int .i64 y0, .int .i64 y1])).run Try.prog w = .ok (x0 == y0 && (x1 == y1)) w := by
  refine eqA_of Try.underlying29 (by kernel_rfl) ?_
  refine eqf_cons (by rfl) (by go_simp; rfl) (by go_simp; rfl) (by go_simp) ?_
  exact eqf_last (by rfl) (by go_simp; rfl) (by go_simp; rfl) (by go_simp)
theorem eqEnt (d : Nat) (w : World) (x0 y0 : ByteArray) (x1 y1 : Int) (x2 y2 : Int) (x3 y3 : ByteArray) (x4 y4 : Bool) :
    (Op.equalIn (d + 3) 31 (.agg #[.string x0, .int .i64 x1, .int .i64 x2, .string x3, .bool x4]) (.agg #[.string y0, .int .i64 y1, .int .i64 y2, .string y3, .bool y4])).run Try.prog w = .ok (x0.toList == y0.toList && ((x1 == y1 && (x2 == y2)) && (x3.toList == y3.toList && (x4 == y4)))) w := by
  refine eqA_of Try.underlying31 (by kernel_rfl) ?_
  refine eqf_cons (by rfl) (by go_simp; rfl) (by go_simp; rfl) (by go_simp) ?_
  refine eqf_cons (by rfl) (by go_simp) (by go_simp) (eqVer (d + 0) w _ _ _ _) ?_
  refine eqf_cons (by rfl) (by go_simp; rfl) (by go_simp; rfl) (by go_simp) ?_
  exact eqf_last (by rfl) (by go_simp; rfl) (by go_simp; rfl) (by go_simp)
end Go.Proofs.Ytplnofodmgddmaa
