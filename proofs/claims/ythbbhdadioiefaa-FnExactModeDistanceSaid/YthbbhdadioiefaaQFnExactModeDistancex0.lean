-- Written by wip/pr2.py: a program of this session's own, which runs the kit's print over contracts of its own.
import Derived.Test.YthbbhdadioiefaaProg
import Derived.Below
import Derived.Deep.Draws
import Derived.Deep.AppendLies
import Derived.Maps.AppendAt
import Derived.OwnWalk
import Derived.Laws.BytesArg
import Derived.Laws.MakeOwn
import Derived.Laws.OwnMore
import Derived.Deep.OwnRows
import Derived.Tactics
import Derived.Lib.ConvBytes
import Derived.Laws.Slices
import Derived.WalkKit
import Derived.KernelRfl
import Derived.RowKit3
import Derived.Deep.LoopGhost
import Derived.Deep.QuietTactic
import Derived.BigQuiet
import Derived.WideLaws
import Derived.Deep.DeepCutAuto
import Derived.Deep.CutBlock
import Derived.Deep.RegionHeld3
import Derived.Laws.Rows
import Derived.Lib.AppendStr
import Derived.ArgAppend
import Derived.Laws.IdiomCopy
import Derived.OrdersHeld
import Derived.Laws.BitsLemmas
import Derived.RowKit
import Derived.Lib.Hide
import Derived.Lib.SliceRun
import Derived.Shelf.Abstract
import Derived.Maps.OwnOps
import Derived.Maps.OwnSet
import Derived.Lib.AppendZeros
import Derived.DeepKeys4
import Derived.Maps.Views
import Derived.Test.YthbbhdadioiefaaClip
import Derived.Test.YthbbhdadioiefaaWWords
import Derived.Test.YthbbhdadioiefaaWLast
import Derived.Test.YthbbhdadioiefaaWTab
import Derived.Test.YthbbhdadioiefaaWFour
import Derived.Test.YthbbhdadioiefaaWQPut
import Derived.Test.YthbbhdadioiefaaWApart
import Derived.Test.YthbbhdadioiefaaWArr
import Derived.Test.YthbbhdadioiefaaWZeros
import Derived.Test.YthbbhdadioiefaaWFoot
import Derived.Test.YthbbhdadioiefaaWKept
import Derived.Test.YthbbhdadioiefaaWShare
import Derived.Test.YthbbhdadioiefaaWN
import Derived.Test.YthbbhdadioiefaaWFootNe
import Derived.Test.YthbbhdadioiefaaWAt
import Derived.Test.YthbbhdadioiefaaWEqStruct
import Derived.Test.YthbbhdadioiefaaWRepsOne
import Derived.Test.YthbbhdadioiefaaWInv
import Derived.Test.YthbbhdadioiefaaWInvWords
import Derived.Test.YthbbhdadioiefaaWGuard
import Derived.Test.YthbbhdadioiefaaWNEv
import Derived.Test.YthbbhdadioiefaaWMore
namespace Go.Proofs.Ythbbhdadioiefaa.QFnExactModeDistance
open Go.RowKit Go.Proofs.YthbbhdadioiefaaW.PrintWords Go.Proofs.YthbbhdadioiefaaW.PrintLast Go.Proofs.YthbbhdadioiefaaW.PrintMore
attribute [local go_sem] max2_int min2_int max_two min_two max_three min_three max_four min_four   -- for this text's walks alone
set_option linter.unusedVariables false
set_option linter.unusedSimpArgs false



def errW : Option Int → Value
  | none => .nilIface
  | some c => .iface 0 (.int .i64 c)
theorem errW_none : errW none = .nilIface := rfl
theorem errW_some (c : Int) : errW (some c) = .iface 0 (.int .i64 c) := rfl

theorem info3 : (Try.prog.info? 3).map (fun i => (i.zero, i.size, i.bytes)) = some (some (.int .i64 0), 1, 8) := by kernel_rfl
-- the values' own types

end Go.Proofs.Ythbbhdadioiefaa.QFnExactModeDistance
