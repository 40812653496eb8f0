-- Written by wip/pr2.py: a program of this session's own, which runs the kit's print over contracts of its own.
import Derived.Test.YtdihemmbhddghaaProg
import Derived.Below
import Derived.Deep.Draws
import Derived.Deep.AppendLies
import Derived.Maps.AppendAt
import Derived.OwnWalk
import Derived.Laws.BytesArg
import Derived.Laws.MakeOwn
import Derived.Laws.OwnMore
import Derived.Deep.OwnRows
import Derived.Tactics
import Derived.Lib.ConvBytes
import Derived.Laws.Slices
import Derived.WalkKit
import Derived.KernelRfl
import Derived.RowKit3
import Derived.Deep.LoopGhost
import Derived.Deep.QuietTactic
import Derived.BigQuiet
import Derived.WideLaws
import Derived.Deep.DeepCutAuto
import Derived.Deep.CutBlock
import Derived.Deep.RegionHeld3
import Derived.Laws.Rows
import Derived.Lib.AppendStr
import Derived.ArgAppend
import Derived.Laws.IdiomCopy
import Derived.OrdersHeld
import Derived.Laws.BitsLemmas
import Derived.RowKit
import Derived.Lib.Hide
import Derived.Lib.SliceRun
import Derived.Shelf.Abstract
import Derived.Maps.OwnOps
import Derived.Maps.OwnSet
import Derived.DeepKeys4
import Derived.Maps.Views
import Derived.Test.YtdihemmbhddghaaClip
import Derived.Test.YtdihemmbhddghaaWWords
import Derived.Test.YtdihemmbhddghaaWLast
import Derived.Test.YtdihemmbhddghaaWTab
import Derived.Test.YtdihemmbhddghaaWFour
import Derived.Test.YtdihemmbhddghaaWQPut
import Derived.Test.YtdihemmbhddghaaWApart
import Derived.Test.YtdihemmbhddghaaWArr
import Derived.Test.YtdihemmbhddghaaWZeros
import Derived.Test.YtdihemmbhddghaaWFoot
import Derived.Test.YtdihemmbhddghaaWKept
import Derived.Test.YtdihemmbhddghaaWShare
import Derived.Test.YtdihemmbhddghaaWN
import Derived.Test.YtdihemmbhddghaaWFootNe
import Derived.Test.YtdihemmbhddghaaWAt
import Derived.Test.YtdihemmbhddghaaWEqStruct
import Derived.Test.YtdihemmbhddghaaWRepsOne
import Derived.Test.YtdihemmbhddghaaWInv
import Derived.Test.YtdihemmbhddghaaWInvWords
import Derived.Test.YtdihemmbhddghaaWGuard
import Derived.Test.YtdihemmbhddghaaWNEv
import Derived.Test.YtdihemmbhddghaaWMore
namespace Go.Proofs.Ytdihemmbhddghaa.QFnExactModeStep
open Go.RowKit Go.Proofs.YtdihemmbhddghaaW.PrintWords Go.Proofs.YtdihemmbhddghaaW.PrintLast Go.Proofs.YtdihemmbhddghaaW.PrintMore
attribute [local go_sem] max2_int min2_int max_two min_two max_three min_three max_four min_four   -- for this text's walks alone
set_option linter.unusedVariables false
set_option linter.unusedSimpArgs false



def errW : Option Int → Value
  | none => .nilIface
  | some c => .iface 0 (.int .i64 c)
theorem errW_none : errW none = .nilIface := rfl
theorem errW_some (c : Int) : errW (some c) = .iface 0 (.int .i64 c) := rfl

-- the values' own types

end Go.Proofs.Ytdihemmbhddghaa.QFnExactModeStep
