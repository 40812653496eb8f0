-- Written by wip/pr2.py: a program of this session's own, which runs the kit's print over contracts of its own.
import Derived.Test.YtdbbdikkboppnaaProg
import Derived.Below
import Derived.Deep.Draws
import Derived.Deep.AppendLies
import Derived.Maps.AppendAt
import Derived.OwnWalk
import Derived.Laws.BytesArg
import Derived.Laws.MakeOwn
import Derived.Laws.OwnMore
import Derived.Deep.OwnRows
import Derived.Tactics
import Derived.Lib.ConvBytes
import Derived.Laws.Slices
import Derived.WalkKit
import Derived.KernelRfl
import Derived.RowKit3
import Derived.Deep.LoopGhost
import Derived.Deep.QuietTactic
import Derived.BigQuiet
import Derived.WideLaws
import Derived.Deep.DeepCutAuto
import Derived.Deep.CutBlock
import Derived.Deep.RegionHeld3
import Derived.Laws.Rows
import Derived.Lib.AppendStr
import Derived.ArgAppend
import Derived.Laws.IdiomCopy
import Derived.OrdersHeld
import Derived.Laws.BitsLemmas
import Derived.RowKit
import Derived.Lib.Hide
import Derived.Lib.SliceRun
import Derived.Shelf.Abstract
import Derived.Test.YtdbbdikkboppnaaClip
import Derived.Test.YtdbbdikkboppnaaWWords
import Derived.Test.YtdbbdikkboppnaaWLast
import Derived.Test.YtdbbdikkboppnaaWTab
import Derived.Test.YtdbbdikkboppnaaWFour
import Derived.Test.YtdbbdikkboppnaaWQPut
import Derived.Test.YtdbbdikkboppnaaWApart
import Derived.Test.YtdbbdikkboppnaaWArr
import Derived.Test.YtdbbdikkboppnaaWZeros
import Derived.Test.YtdbbdikkboppnaaWFoot
import Derived.Test.YtdbbdikkboppnaaWKept
import Derived.Test.YtdbbdikkboppnaaWShare
import Derived.Test.YtdbbdikkboppnaaWN
import Derived.Test.YtdbbdikkboppnaaWFootNe
import Derived.Test.YtdbbdikkboppnaaWAt
import Derived.Test.YtdbbdikkboppnaaWEqStruct
import Derived.Test.YtdbbdikkboppnaaWRepsOne
import Derived.Test.YtdbbdikkboppnaaWInv
import Derived.Test.YtdbbdikkboppnaaWInvWords
import Derived.Test.YtdbbdikkboppnaaWGuard
import Derived.Test.YtdbbdikkboppnaaWNEv
import Derived.Test.YtdbbdikkboppnaaWMore
namespace Go.Proofs.Ytdbbdikkboppnaa.QFnExactBitsToBytes
open Go.RowKit Go.Proofs.YtdbbdikkboppnaaW.PrintWords Go.Proofs.YtdbbdikkboppnaaW.PrintLast Go.Proofs.YtdbbdikkboppnaaW.PrintMore
attribute [local go_sem] max2_int min2_int max_two min_two max_three min_three max_four min_four   -- for this text's walks alone
set_option linter.unusedVariables false
set_option linter.unusedSimpArgs false



def errW : Option Int → Value
  | none => .nilIface
  | some c => .iface 0 (.int .i64 c)
theorem errW_none : errW none = .nilIface := rfl
theorem errW_some (c : Int) : errW (some c) = .iface 0 (.int .i64 c) := rfl

theorem info4 : (Try.prog.info? 4).map (fun i => (i.zero, i.size, i.bytes)) = some (some (.bool false), 1, 1) := by kernel_rfl
theorem info5 : (Try.prog.info? 5).map (fun i => (i.zero, i.size, i.bytes)) = some (some (.int .u8 0), 1, 1) := by kernel_rfl
-- the values' own types

end Go.Proofs.Ytdbbdikkboppnaa.QFnExactBitsToBytes
