/-
  No cell of these rows narrows 'for every input' (looked for: loops, veiled, ifaces, maps, wideKeys, modest, calm, conditions, laid).
  DERIVED. THE GIVEN ROWS OF THIS SEAT. 12 by the template 'for every input the law returns true; each argument reads behind the call as it read before'; 0 by the template 'total and deterministic' (their statements: YtdihemmbhddghaaTotals.lean).
  GIVEN WITH THE SEED: the statements are not yours to turn. If you find one false, say at which input.
  Laid BY PROGRAM, IN A SANDBOX (cutbox-rows.mjs): the forced cells as the released guide's own fill.sh prints them over the translation 10de6a37a24fdcd0… (all of the seat's roots in one cut). By AI agents, Wed Nov 11 2026. No macro, syntax, notation, axiom, sorry.
-/
import Derived.Test.YtdihemmbhddghaaChecked
import GoSem.Claim
import GoSem.ClaimJoined
import GoSem.ClaimMapViews
import Derived.JoinedTies
import Derived.KernelRfl
namespace Go.Proofs.Ytdihemmbhddghaa
/- THE CELL 'sum', in the pinned program and in every row, IS THE sha256 OF THE DUMP (.gsa) THAT YtdihemmbhddghaaProg.lean LOADS. Nothing in Lean hashes anything: it is a label: what it is worth is what the hold of that sum in a sandbox is worth. -/
noncomputable def Try.pinned : Pinned := { name := "ytdihemmbhddghaa", sum := "10de6a37a24fdcd0f08703db44e0f3ca6720b6a96cacb3755f5b3908b27dccb5", checked := Try.checked }
namespace Rows
def none {H : Type} : Left H := { results := [], args := [] }

/-- 'laws.FnExactTankSafe': WHATEVER THE INPUT: true; the input reads as it did. -/
def fnExactTankSafeSpec : ChangeSpec := { name := "fnExactTankSafe", fn := fun _ => fun
  | [d1, d2, d3, d4] => { results := [.lit (.bool true)], args := [d1, d2, d3, d4] }
  | _ => none }
def fnExactTankSafeRow : OpenClaim := { program := "ytdihemmbhddghaa", sum := "10de6a37a24fdcd0f08703db44e0f3ca6720b6a96cacb3755f5b3908b27dccb5", func := "loop.example/plcruntime/laws.FnExactTankSafe", spec := "fnExactTankSafe", plainKeys := false, apart := false }
def FnExactTankSafeSaid : Prop := fnExactTankSafeRow.holds Try.pinned (OpenSpec.ofChange fnExactTankSafeSpec)

/-- ITS FALSE NEIGHBOUR: 'it returns false'. Refute it at one input. -/
def fnExactTankSafeWrong : ChangeSpec := { name := "fnExactTankSafe", fn := fun _ => fun
  | [d1, d2, d3, d4] => { results := [.lit (.bool false)], args := [d1, d2, d3, d4] }
  | _ => none }
def FnExactTankSafeWrongFalsely : Prop := fnExactTankSafeRow.holds Try.pinned (OpenSpec.ofChange fnExactTankSafeWrong)

/-- 'laws.FnExactTankStep': WHATEVER THE INPUT: true; the input reads as it did. -/
def fnExactTankStepSpec : ChangeSpec := { name := "fnExactTankStep", fn := fun _ => fun
  | [d1, d2, d3, d4] => { results := [.lit (.bool true)], args := [d1, d2, d3, d4] }
  | _ => none }
def fnExactTankStepRow : OpenClaim := { program := "ytdihemmbhddghaa", sum := "10de6a37a24fdcd0f08703db44e0f3ca6720b6a96cacb3755f5b3908b27dccb5", func := "loop.example/plcruntime/laws.FnExactTankStep", spec := "fnExactTankStep", plainKeys := false, apart := false }
def FnExactTankStepSaid : Prop := fnExactTankStepRow.holds Try.pinned (OpenSpec.ofChange fnExactTankStepSpec)

/-- ITS FALSE NEIGHBOUR: 'it returns false'. Refute it at one input. -/
def fnExactTankStepWrong : ChangeSpec := { name := "fnExactTankStep", fn := fun _ => fun
  | [d1, d2, d3, d4] => { results := [.lit (.bool false)], args := [d1, d2, d3, d4] }
  | _ => none }
def FnExactTankStepWrongFalsely : Prop := fnExactTankStepRow.holds Try.pinned (OpenSpec.ofChange fnExactTankStepWrong)

/-- 'laws.FnExactAlarmStep': WHATEVER THE INPUT: true; the input reads as it did. -/
def fnExactAlarmStepSpec : ChangeSpec := { name := "fnExactAlarmStep", fn := fun _ => fun
  | [d1, d2, d3] => { results := [.lit (.bool true)], args := [d1, d2, d3] }
  | _ => none }
def fnExactAlarmStepRow : OpenClaim := { program := "ytdihemmbhddghaa", sum := "10de6a37a24fdcd0f08703db44e0f3ca6720b6a96cacb3755f5b3908b27dccb5", func := "loop.example/plcruntime/laws.FnExactAlarmStep", spec := "fnExactAlarmStep", plainKeys := false, apart := false }
def FnExactAlarmStepSaid : Prop := fnExactAlarmStepRow.holds Try.pinned (OpenSpec.ofChange fnExactAlarmStepSpec)

/-- ITS FALSE NEIGHBOUR: 'it returns false'. Refute it at one input. -/
def fnExactAlarmStepWrong : ChangeSpec := { name := "fnExactAlarmStep", fn := fun _ => fun
  | [d1, d2, d3] => { results := [.lit (.bool false)], args := [d1, d2, d3] }
  | _ => none }
def FnExactAlarmStepWrongFalsely : Prop := fnExactAlarmStepRow.holds Try.pinned (OpenSpec.ofChange fnExactAlarmStepWrong)

/-- 'laws.FnExactLimitState': WHATEVER THE INPUT: true; the input reads as it did. -/
def fnExactLimitStateSpec : ChangeSpec := { name := "fnExactLimitState", fn := fun _ => fun
  | [d1, d2, d3, d4, d5] => { results := [.lit (.bool true)], args := [d1, d2, d3, d4, d5] }
  | _ => none }
def fnExactLimitStateRow : OpenClaim := { program := "ytdihemmbhddghaa", sum := "10de6a37a24fdcd0f08703db44e0f3ca6720b6a96cacb3755f5b3908b27dccb5", func := "loop.example/plcruntime/laws.FnExactLimitState", spec := "fnExactLimitState", unfollowed := true, recurses := true, plainKeys := false, apart := false }
def FnExactLimitStateSaid : Prop := fnExactLimitStateRow.holds Try.pinned (OpenSpec.ofChange fnExactLimitStateSpec)

/-- ITS FALSE NEIGHBOUR: 'it returns false'. Refute it at one input. -/
def fnExactLimitStateWrong : ChangeSpec := { name := "fnExactLimitState", fn := fun _ => fun
  | [d1, d2, d3, d4, d5] => { results := [.lit (.bool false)], args := [d1, d2, d3, d4, d5] }
  | _ => none }
def FnExactLimitStateWrongFalsely : Prop := fnExactLimitStateRow.holds Try.pinned (OpenSpec.ofChange fnExactLimitStateWrong)

/-- 'laws.FnExactCrc8': WHATEVER THE INPUT: true; the input reads as it did. -/
def fnExactCrc8Spec : ChangeSpec := { name := "fnExactCrc8", fn := fun _ => fun
  | [d] => { results := [.lit (.bool true)], args := [d] }
  | _ => none }
def fnExactCrc8Row : OpenClaim := { program := "ytdihemmbhddghaa", sum := "10de6a37a24fdcd0f08703db44e0f3ca6720b6a96cacb3755f5b3908b27dccb5", func := "loop.example/plcruntime/laws.FnExactCrc8", spec := "fnExactCrc8", plainKeys := false, apart := false }
def FnExactCrc8Said : Prop := fnExactCrc8Row.holds Try.pinned (OpenSpec.ofChange fnExactCrc8Spec)

/-- ITS FALSE NEIGHBOUR: 'it returns false'. Refute it at one input. -/
def fnExactCrc8Wrong : ChangeSpec := { name := "fnExactCrc8", fn := fun _ => fun
  | [d] => { results := [.lit (.bool false)], args := [d] }
  | _ => none }
def FnExactCrc8WrongFalsely : Prop := fnExactCrc8Row.holds Try.pinned (OpenSpec.ofChange fnExactCrc8Wrong)

/-- 'laws.FnExactCountRises': WHATEVER THE INPUT: true; the input reads as it did. -/
def fnExactCountRisesSpec : ChangeSpec := { name := "fnExactCountRises", fn := fun _ => fun
  | [d] => { results := [.lit (.bool true)], args := [d] }
  | _ => none }
def fnExactCountRisesRow : OpenClaim := { program := "ytdihemmbhddghaa", sum := "10de6a37a24fdcd0f08703db44e0f3ca6720b6a96cacb3755f5b3908b27dccb5", func := "loop.example/plcruntime/laws.FnExactCountRises", spec := "fnExactCountRises", plainKeys := false, apart := false }
def FnExactCountRisesSaid : Prop := fnExactCountRisesRow.holds Try.pinned (OpenSpec.ofChange fnExactCountRisesSpec)

/-- ITS FALSE NEIGHBOUR: 'it returns false'. Refute it at one input. -/
def fnExactCountRisesWrong : ChangeSpec := { name := "fnExactCountRises", fn := fun _ => fun
  | [d] => { results := [.lit (.bool false)], args := [d] }
  | _ => none }
def FnExactCountRisesWrongFalsely : Prop := fnExactCountRisesRow.holds Try.pinned (OpenSpec.ofChange fnExactCountRisesWrong)

/-- 'laws.FnExactDeadSets': WHATEVER THE INPUT: true; the input reads as it did. -/
def fnExactDeadSetsSpec : ChangeSpec := { name := "fnExactDeadSets", fn := fun _ => fun
  | [d1, d2, d3] => { results := [.lit (.bool true)], args := [d1, d2, d3] }
  | _ => none }
def fnExactDeadSetsRow : OpenClaim := { program := "ytdihemmbhddghaa", sum := "10de6a37a24fdcd0f08703db44e0f3ca6720b6a96cacb3755f5b3908b27dccb5", func := "loop.example/plcruntime/laws.FnExactDeadSets", spec := "fnExactDeadSets", unfollowed := true, recurses := true, plainKeys := false, apart := false }
def FnExactDeadSetsSaid : Prop := fnExactDeadSetsRow.holds Try.pinned (OpenSpec.ofChange fnExactDeadSetsSpec)

/-- ITS FALSE NEIGHBOUR: 'it returns false'. Refute it at one input. -/
def fnExactDeadSetsWrong : ChangeSpec := { name := "fnExactDeadSets", fn := fun _ => fun
  | [d1, d2, d3] => { results := [.lit (.bool false)], args := [d1, d2, d3] }
  | _ => none }
def FnExactDeadSetsWrongFalsely : Prop := fnExactDeadSetsRow.holds Try.pinned (OpenSpec.ofChange fnExactDeadSetsWrong)

/-- 'laws.FnExactDutyCycle': WHATEVER THE INPUT: true; the input reads as it did. -/
def fnExactDutyCycleSpec : ChangeSpec := { name := "fnExactDutyCycle", fn := fun _ => fun
  | [d] => { results := [.lit (.bool true)], args := [d] }
  | _ => none }
def fnExactDutyCycleRow : OpenClaim := { program := "ytdihemmbhddghaa", sum := "10de6a37a24fdcd0f08703db44e0f3ca6720b6a96cacb3755f5b3908b27dccb5", func := "loop.example/plcruntime/laws.FnExactDutyCycle", spec := "fnExactDutyCycle", plainKeys := false, apart := false }
def FnExactDutyCycleSaid : Prop := fnExactDutyCycleRow.holds Try.pinned (OpenSpec.ofChange fnExactDutyCycleSpec)

/-- ITS FALSE NEIGHBOUR: 'it returns false'. Refute it at one input. -/
def fnExactDutyCycleWrong : ChangeSpec := { name := "fnExactDutyCycle", fn := fun _ => fun
  | [d] => { results := [.lit (.bool false)], args := [d] }
  | _ => none }
def FnExactDutyCycleWrongFalsely : Prop := fnExactDutyCycleRow.holds Try.pinned (OpenSpec.ofChange fnExactDutyCycleWrong)

/-- 'laws.FnExactModeStep': WHATEVER THE INPUT: true; the input reads as it did. -/
def fnExactModeStepSpec : ChangeSpec := { name := "fnExactModeStep", fn := fun _ => fun
  | [d1, d2, d3, d4] => { results := [.lit (.bool true)], args := [d1, d2, d3, d4] }
  | _ => none }
def fnExactModeStepRow : OpenClaim := { program := "ytdihemmbhddghaa", sum := "10de6a37a24fdcd0f08703db44e0f3ca6720b6a96cacb3755f5b3908b27dccb5", func := "loop.example/plcruntime/laws.FnExactModeStep", spec := "fnExactModeStep", plainKeys := false, apart := false }
def FnExactModeStepSaid : Prop := fnExactModeStepRow.holds Try.pinned (OpenSpec.ofChange fnExactModeStepSpec)

/-- ITS FALSE NEIGHBOUR: 'it returns false'. Refute it at one input. -/
def fnExactModeStepWrong : ChangeSpec := { name := "fnExactModeStep", fn := fun _ => fun
  | [d1, d2, d3, d4] => { results := [.lit (.bool false)], args := [d1, d2, d3, d4] }
  | _ => none }
def FnExactModeStepWrongFalsely : Prop := fnExactModeStepRow.holds Try.pinned (OpenSpec.ofChange fnExactModeStepWrong)

/-- 'laws.FnExactHeatStep': WHATEVER THE INPUT: true; the input reads as it did. -/
def fnExactHeatStepSpec : ChangeSpec := { name := "fnExactHeatStep", fn := fun _ => fun
  | [d1, d2, d3] => { results := [.lit (.bool true)], args := [d1, d2, d3] }
  | _ => none }
def fnExactHeatStepRow : OpenClaim := { program := "ytdihemmbhddghaa", sum := "10de6a37a24fdcd0f08703db44e0f3ca6720b6a96cacb3755f5b3908b27dccb5", func := "loop.example/plcruntime/laws.FnExactHeatStep", spec := "fnExactHeatStep", unfollowed := true, recurses := true, plainKeys := false, apart := false }
def FnExactHeatStepSaid : Prop := fnExactHeatStepRow.holds Try.pinned (OpenSpec.ofChange fnExactHeatStepSpec)

/-- ITS FALSE NEIGHBOUR: 'it returns false'. Refute it at one input. -/
def fnExactHeatStepWrong : ChangeSpec := { name := "fnExactHeatStep", fn := fun _ => fun
  | [d1, d2, d3] => { results := [.lit (.bool false)], args := [d1, d2, d3] }
  | _ => none }
def FnExactHeatStepWrongFalsely : Prop := fnExactHeatStepRow.holds Try.pinned (OpenSpec.ofChange fnExactHeatStepWrong)

/-- 'laws.FnExactFrameValid': WHATEVER THE INPUT: true; the input reads as it did. -/
def fnExactFrameValidSpec : ChangeSpec := { name := "fnExactFrameValid", fn := fun _ => fun
  | [d] => { results := [.lit (.bool true)], args := [d] }
  | _ => none }
def fnExactFrameValidRow : OpenClaim := { program := "ytdihemmbhddghaa", sum := "10de6a37a24fdcd0f08703db44e0f3ca6720b6a96cacb3755f5b3908b27dccb5", func := "loop.example/plcruntime/laws.FnExactFrameValid", spec := "fnExactFrameValid", plainKeys := false, apart := false }
def FnExactFrameValidSaid : Prop := fnExactFrameValidRow.holds Try.pinned (OpenSpec.ofChange fnExactFrameValidSpec)

/-- ITS FALSE NEIGHBOUR: 'it returns false'. Refute it at one input. -/
def fnExactFrameValidWrong : ChangeSpec := { name := "fnExactFrameValid", fn := fun _ => fun
  | [d] => { results := [.lit (.bool false)], args := [d] }
  | _ => none }
def FnExactFrameValidWrongFalsely : Prop := fnExactFrameValidRow.holds Try.pinned (OpenSpec.ofChange fnExactFrameValidWrong)

/-- 'laws.FnExactReachableStates': WHATEVER THE INPUT: true; the input reads as it did. -/
def fnExactReachableStatesSpec : ChangeSpec := { name := "fnExactReachableStates", fn := fun _ => fun
  | [d1, d2, d3] => { results := [.lit (.bool true)], args := [d1, d2, d3] }
  | _ => none }
def fnExactReachableStatesRow : OpenClaim := { program := "ytdihemmbhddghaa", sum := "10de6a37a24fdcd0f08703db44e0f3ca6720b6a96cacb3755f5b3908b27dccb5", func := "loop.example/plcruntime/laws.FnExactReachableStates", spec := "fnExactReachableStates", unfollowed := true, recurses := true, plainKeys := false, apart := false }
def FnExactReachableStatesSaid : Prop := fnExactReachableStatesRow.holds Try.pinned (OpenSpec.ofChange fnExactReachableStatesSpec)

/-- ITS FALSE NEIGHBOUR: 'it returns false'. Refute it at one input. -/
def fnExactReachableStatesWrong : ChangeSpec := { name := "fnExactReachableStates", fn := fun _ => fun
  | [d1, d2, d3] => { results := [.lit (.bool false)], args := [d1, d2, d3] }
  | _ => none }
def FnExactReachableStatesWrongFalsely : Prop := fnExactReachableStatesRow.holds Try.pinned (OpenSpec.ofChange fnExactReachableStatesWrong)

/- THE SECOND FORM. 'bulk': how many values and letters a reading holds, each counted each time it is reached (what is shared counts as often as it is met; a slice's spare places count too). A statement '..UptoSaid' is the law's where the arguments, and the package variables that the reading takes, are together of bulk at most 1048576: NARROWER than '..Said'. Prove '..Said' where nothing that the law and all that it calls make is longer than what came in: it says more and counts as full. Else prove '..UptoSaid'. A law counts once. -/
mutual
def uptoBulk {H : Type} : DataW H → Nat
  | .lit (.string bytes) => bytes.length + 1
  | .lit _ => 1
  | .nil => 1
  | .ptr d => uptoBulk d + 1
  | .slice elems spare => uptoBulkAll elems + uptoBulkAll spare + 1
  | .agg parts => uptoBulkAll parts + 1
  | .iface _ d => uptoBulk d + 1
  | .map entries => uptoBulkEntries entries + 1
  | .held _ => 1
def uptoBulkAll {H : Type} : List (DataW H) → Nat
  | [] => 0
  | d :: r => uptoBulk d + uptoBulkAll r
def uptoBulkEntries {H : Type} : List (Lit × DataW H) → Nat
  | [] => 0
  | x :: r => uptoBulkEntry x + uptoBulkEntries r
def uptoBulkEntry {H : Type} : Lit × DataW H → Nat
  | (.string bytes, d) => bytes.length + uptoBulk d + 1
  | (_, d) => uptoBulk d + 1
 end
def uptoSmall : (H : Type) → List (DataW H) → Bool := fun _ ds => decide (uptoBulkAll ds ≤ 1048576)
def OpenSpec.upto (s : _root_.Go.ChangeSpec) : _root_.Go.OpenSpec := { _root_.Go.OpenSpec.ofChange s with cond := some uptoSmall }

/-- 'laws.FnExactTankSafe', WHERE WHAT IT READS IS OF BULK AT MOST 1048576: true; the input reads as it did. -/
def fnExactTankSafeUptoRow : OpenClaim := { program := "ytdihemmbhddghaa", sum := "10de6a37a24fdcd0f08703db44e0f3ca6720b6a96cacb3755f5b3908b27dccb5", func := "loop.example/plcruntime/laws.FnExactTankSafe", spec := "fnExactTankSafe", plainKeys := false, apart := false, narrowed := true }
def FnExactTankSafeUptoSaid : Prop := fnExactTankSafeUptoRow.holds Try.pinned (OpenSpec.upto fnExactTankSafeSpec)

/-- 'laws.FnExactTankStep', WHERE WHAT IT READS IS OF BULK AT MOST 1048576: true; the input reads as it did. -/
def fnExactTankStepUptoRow : OpenClaim := { program := "ytdihemmbhddghaa", sum := "10de6a37a24fdcd0f08703db44e0f3ca6720b6a96cacb3755f5b3908b27dccb5", func := "loop.example/plcruntime/laws.FnExactTankStep", spec := "fnExactTankStep", plainKeys := false, apart := false, narrowed := true }
def FnExactTankStepUptoSaid : Prop := fnExactTankStepUptoRow.holds Try.pinned (OpenSpec.upto fnExactTankStepSpec)

/-- 'laws.FnExactAlarmStep', WHERE WHAT IT READS IS OF BULK AT MOST 1048576: true; the input reads as it did. -/
def fnExactAlarmStepUptoRow : OpenClaim := { program := "ytdihemmbhddghaa", sum := "10de6a37a24fdcd0f08703db44e0f3ca6720b6a96cacb3755f5b3908b27dccb5", func := "loop.example/plcruntime/laws.FnExactAlarmStep", spec := "fnExactAlarmStep", plainKeys := false, apart := false, narrowed := true }
def FnExactAlarmStepUptoSaid : Prop := fnExactAlarmStepUptoRow.holds Try.pinned (OpenSpec.upto fnExactAlarmStepSpec)

/-- 'laws.FnExactLimitState', WHERE WHAT IT READS IS OF BULK AT MOST 1048576: true; the input reads as it did. -/
def fnExactLimitStateUptoRow : OpenClaim := { program := "ytdihemmbhddghaa", sum := "10de6a37a24fdcd0f08703db44e0f3ca6720b6a96cacb3755f5b3908b27dccb5", func := "loop.example/plcruntime/laws.FnExactLimitState", spec := "fnExactLimitState", unfollowed := true, recurses := true, plainKeys := false, apart := false, narrowed := true }
def FnExactLimitStateUptoSaid : Prop := fnExactLimitStateUptoRow.holds Try.pinned (OpenSpec.upto fnExactLimitStateSpec)

/-- 'laws.FnExactCrc8', WHERE WHAT IT READS IS OF BULK AT MOST 1048576: true; the input reads as it did. -/
def fnExactCrc8UptoRow : OpenClaim := { program := "ytdihemmbhddghaa", sum := "10de6a37a24fdcd0f08703db44e0f3ca6720b6a96cacb3755f5b3908b27dccb5", func := "loop.example/plcruntime/laws.FnExactCrc8", spec := "fnExactCrc8", plainKeys := false, apart := false, narrowed := true }
def FnExactCrc8UptoSaid : Prop := fnExactCrc8UptoRow.holds Try.pinned (OpenSpec.upto fnExactCrc8Spec)

/-- 'laws.FnExactCountRises', WHERE WHAT IT READS IS OF BULK AT MOST 1048576: true; the input reads as it did. -/
def fnExactCountRisesUptoRow : OpenClaim := { program := "ytdihemmbhddghaa", sum := "10de6a37a24fdcd0f08703db44e0f3ca6720b6a96cacb3755f5b3908b27dccb5", func := "loop.example/plcruntime/laws.FnExactCountRises", spec := "fnExactCountRises", plainKeys := false, apart := false, narrowed := true }
def FnExactCountRisesUptoSaid : Prop := fnExactCountRisesUptoRow.holds Try.pinned (OpenSpec.upto fnExactCountRisesSpec)

/-- 'laws.FnExactDeadSets', WHERE WHAT IT READS IS OF BULK AT MOST 1048576: true; the input reads as it did. -/
def fnExactDeadSetsUptoRow : OpenClaim := { program := "ytdihemmbhddghaa", sum := "10de6a37a24fdcd0f08703db44e0f3ca6720b6a96cacb3755f5b3908b27dccb5", func := "loop.example/plcruntime/laws.FnExactDeadSets", spec := "fnExactDeadSets", unfollowed := true, recurses := true, plainKeys := false, apart := false, narrowed := true }
def FnExactDeadSetsUptoSaid : Prop := fnExactDeadSetsUptoRow.holds Try.pinned (OpenSpec.upto fnExactDeadSetsSpec)

/-- 'laws.FnExactDutyCycle', WHERE WHAT IT READS IS OF BULK AT MOST 1048576: true; the input reads as it did. -/
def fnExactDutyCycleUptoRow : OpenClaim := { program := "ytdihemmbhddghaa", sum := "10de6a37a24fdcd0f08703db44e0f3ca6720b6a96cacb3755f5b3908b27dccb5", func := "loop.example/plcruntime/laws.FnExactDutyCycle", spec := "fnExactDutyCycle", plainKeys := false, apart := false, narrowed := true }
def FnExactDutyCycleUptoSaid : Prop := fnExactDutyCycleUptoRow.holds Try.pinned (OpenSpec.upto fnExactDutyCycleSpec)

/-- 'laws.FnExactModeStep', WHERE WHAT IT READS IS OF BULK AT MOST 1048576: true; the input reads as it did. -/
def fnExactModeStepUptoRow : OpenClaim := { program := "ytdihemmbhddghaa", sum := "10de6a37a24fdcd0f08703db44e0f3ca6720b6a96cacb3755f5b3908b27dccb5", func := "loop.example/plcruntime/laws.FnExactModeStep", spec := "fnExactModeStep", plainKeys := false, apart := false, narrowed := true }
def FnExactModeStepUptoSaid : Prop := fnExactModeStepUptoRow.holds Try.pinned (OpenSpec.upto fnExactModeStepSpec)

/-- 'laws.FnExactHeatStep', WHERE WHAT IT READS IS OF BULK AT MOST 1048576: true; the input reads as it did. -/
def fnExactHeatStepUptoRow : OpenClaim := { program := "ytdihemmbhddghaa", sum := "10de6a37a24fdcd0f08703db44e0f3ca6720b6a96cacb3755f5b3908b27dccb5", func := "loop.example/plcruntime/laws.FnExactHeatStep", spec := "fnExactHeatStep", unfollowed := true, recurses := true, plainKeys := false, apart := false, narrowed := true }
def FnExactHeatStepUptoSaid : Prop := fnExactHeatStepUptoRow.holds Try.pinned (OpenSpec.upto fnExactHeatStepSpec)

/-- 'laws.FnExactFrameValid', WHERE WHAT IT READS IS OF BULK AT MOST 1048576: true; the input reads as it did. -/
def fnExactFrameValidUptoRow : OpenClaim := { program := "ytdihemmbhddghaa", sum := "10de6a37a24fdcd0f08703db44e0f3ca6720b6a96cacb3755f5b3908b27dccb5", func := "loop.example/plcruntime/laws.FnExactFrameValid", spec := "fnExactFrameValid", plainKeys := false, apart := false, narrowed := true }
def FnExactFrameValidUptoSaid : Prop := fnExactFrameValidUptoRow.holds Try.pinned (OpenSpec.upto fnExactFrameValidSpec)

/-- 'laws.FnExactReachableStates', WHERE WHAT IT READS IS OF BULK AT MOST 1048576: true; the input reads as it did. -/
def fnExactReachableStatesUptoRow : OpenClaim := { program := "ytdihemmbhddghaa", sum := "10de6a37a24fdcd0f08703db44e0f3ca6720b6a96cacb3755f5b3908b27dccb5", func := "loop.example/plcruntime/laws.FnExactReachableStates", spec := "fnExactReachableStates", unfollowed := true, recurses := true, plainKeys := false, apart := false, narrowed := true }
def FnExactReachableStatesUptoSaid : Prop := fnExactReachableStatesUptoRow.holds Try.pinned (OpenSpec.upto fnExactReachableStatesSpec)

end Rows
end Go.Proofs.Ytdihemmbhddghaa
