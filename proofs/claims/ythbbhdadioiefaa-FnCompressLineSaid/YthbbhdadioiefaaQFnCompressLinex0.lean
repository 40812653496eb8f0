-- Written by wip/pr2.py: a program of this session's own, which runs the kit's print over contracts of its own.
import Derived.Test.YthbbhdadioiefaaProg
import Derived.Below
import Derived.Deep.Draws
import Derived.Deep.AppendLies
import Derived.Maps.AppendAt
import Derived.OwnWalk
import Derived.Laws.BytesArg
import Derived.Laws.MakeOwn
import Derived.Laws.OwnMore
import Derived.Deep.OwnRows
import Derived.Tactics
import Derived.Lib.ConvBytes
import Derived.Laws.Slices
import Derived.WalkKit
import Derived.KernelRfl
import Derived.RowKit3
import Derived.Deep.LoopGhost
import Derived.Deep.QuietTactic
import Derived.BigQuiet
import Derived.WideLaws
import Derived.Deep.DeepCutAuto
import Derived.Deep.CutBlock
import Derived.Deep.RegionHeld3
import Derived.Laws.Rows
import Derived.Lib.AppendStr
import Derived.ArgAppend
import Derived.Laws.IdiomCopy
import Derived.OrdersHeld
import Derived.Laws.BitsLemmas
import Derived.RowKit
import Derived.Lib.Hide
import Derived.Lib.SliceRun
import Derived.Shelf.Abstract
import Derived.Test.YthbbhdadioiefaaClip
import Derived.Test.YthbbhdadioiefaaWWords
import Derived.Test.YthbbhdadioiefaaWLast
import Derived.Test.YthbbhdadioiefaaWTab
import Derived.Test.YthbbhdadioiefaaWFour
import Derived.Test.YthbbhdadioiefaaWQPut
import Derived.Test.YthbbhdadioiefaaWApart
import Derived.Test.YthbbhdadioiefaaWArr
import Derived.Test.YthbbhdadioiefaaWZeros
import Derived.Test.YthbbhdadioiefaaWFoot
import Derived.Test.YthbbhdadioiefaaWKept
import Derived.Test.YthbbhdadioiefaaWShare
import Derived.Test.YthbbhdadioiefaaWN
import Derived.Test.YthbbhdadioiefaaWFootNe
import Derived.Test.YthbbhdadioiefaaWAt
import Derived.Test.YthbbhdadioiefaaWEqStruct
import Derived.Test.YthbbhdadioiefaaWRepsOne
import Derived.Test.YthbbhdadioiefaaWInv
import Derived.Test.YthbbhdadioiefaaWInvWords
import Derived.Test.YthbbhdadioiefaaWGuard
import Derived.Test.YthbbhdadioiefaaWNEv
import Derived.Test.YthbbhdadioiefaaWMore
namespace Go.Proofs.Ythbbhdadioiefaa.QFnCompressLine
open Go.RowKit Go.Proofs.YthbbhdadioiefaaW.PrintWords Go.Proofs.YthbbhdadioiefaaW.PrintLast Go.Proofs.YthbbhdadioiefaaW.PrintMore
attribute [local go_sem] max2_int min2_int max_two min_two max_three min_three max_four min_four   -- for this text's walks alone
set_option linter.unusedVariables false
set_option linter.unusedSimpArgs false



def errW : Option Int → Value
  | none => .nilIface
  | some c => .iface 0 (.int .i64 c)
theorem errW_none : errW none = .nilIface := rfl
theorem errW_some (c : Int) : errW (some c) = .iface 0 (.int .i64 c) := rfl

theorem info3 : (Try.prog.info? 3).map (fun i => (i.zero, i.size, i.bytes)) = some (some (.int .i64 0), 1, 8) := by kernel_rfl
theorem info5 : (Try.prog.info? 5).map (fun i => (i.zero, i.size, i.bytes)) = some (some (.int .u8 0), 1, 1) := by kernel_rfl
theorem info84 : (Try.prog.info? 84).map (fun i => (i.zero, i.size, i.bytes)) = some (some (.agg #[(.int .i64 0), (.int .i64 0)]), 2, 16) := by kernel_rfl
-- the values' own types
/-! #### struct type 84 -/
structure S84 where
  f0 : Int
  f1 : Int
def z84 : S84 := ⟨(0 : Int), (0 : Int)⟩
def k84 : Kd S84 := Kd.iso (Kd.pair (Kd.int .i64) (Kd.int .i64)) (fun x : S84 => (x.f0, x.f1))
theorem k84_open {w : World} {x : S84} {cs : List Value} (h : k84.K w x cs) : cs = [.int .i64 x.f0, .int .i64 x.f1] := by
  obtain ⟨_, _, rfl, rfl, rfl⟩ := h
  exact rfl
theorem k84_openM {w : World} {base : Nat} {ok : Nat → Prop} {x : S84} {cs : List Value} (h : k84.M w base ok x cs) : cs = [.int .i64 x.f0, .int .i64 x.f1] := by
  obtain ⟨_, _, rfl, rfl, rfl⟩ := h
  exact rfl
theorem k84_mk (w : World) (x : S84)  : k84.K w x [.int .i64 x.f0, .int .i64 x.f1] := ⟨[.int .i64 x.f0], [.int .i64 x.f1], rfl, rfl, rfl⟩
theorem k84_mkM (w : World) (base : Nat) (ok : Nat → Prop) (x : S84)  : k84.M w base ok x [.int .i64 x.f0, .int .i64 x.f1] := ⟨[.int .i64 x.f0], [.int .i64 x.f1], rfl, rfl, rfl⟩
def rd_T84 (xs : List S84) (i : Int) : S84 := xs.getD i.toNat z84
theorem at_T84 {w : World} {A : Option Addr} {n : Nat} {xs : List S84} (h : Kd.C k84 w A n xs) (i : Int) (h0 : 0 ≤ i) (h1 : i < n) : ∃ ad , A = some ad ∧ w.cell? (ad.add (i.toNat * 2)) = some (.int .i64 (rd_T84 xs i).f0) ∧ w.cell? ⟨(ad.add (i.toNat * 2)).block, (ad.add (i.toNat * 2)).off + 1, none⟩ = some (.int .i64 (rd_T84 xs i).f1) := by
  obtain ⟨ad, c, e, _, hK, hc0⟩ := Kd.C_get h z84 i h0 h1
  have hc : ∀ j u, c[j]? = some u → w.cell? (ad.add (i.toNat * 2 + j)) = some u := hc0
  obtain rfl := k84_open hK
  exact ⟨ad, e, hc 0 _ rfl, by rw [← add_field _ _ 1 (by omega)]; exact hc 1 _ rfl⟩

def rd_L2 (xs : List (List S84)) (i : Int) : (List S84) := xs.getD i.toNat ([] : List S84)
theorem at_L2 {w : World} {A : Option Addr} {n : Nat} {xs : List (List S84)} (h : Kd.C (Kd.slice 84 k84) w A n xs) (i : Int) (h0 : 0 ≤ i) (h1 : i < n) : ∃ ad A0 c0, A = some ad ∧ w.cell? (ad.add i.toNat) = some (.slice A0 (rd_L2 xs i).length c0) ∧ (rd_L2 xs i).length ≤ c0 ∧ k84.C w A0 (rd_L2 xs i).length (rd_L2 xs i) := by
  obtain ⟨ad, c, e, _, hK, hc0⟩ := Kd.C_get h ([] : List S84) i h0 h1
  have hc : ∀ j u, c[j]? = some u → w.cell? (ad.add (i.toNat * 1 + j)) = some u := hc0
  obtain ⟨A0, c0, rfl, l0, g0⟩ := hK
  exact ⟨ad, A0, c0, e, by have hq := hc 0 _ rfl; rwa [Nat.mul_one, Nat.add_zero] at hq, l0, g0⟩

end Go.Proofs.Ythbbhdadioiefaa.QFnCompressLine
