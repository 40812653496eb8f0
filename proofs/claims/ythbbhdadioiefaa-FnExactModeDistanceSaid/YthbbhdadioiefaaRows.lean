/-
  No cell of these rows narrows 'for every input' (looked for: loops, veiled, ifaces, maps, wideKeys, modest, calm, conditions, laid).
  DERIVED. THE GIVEN ROWS OF THIS SEAT. 14 by the template 'for every input the law returns true; each argument reads behind the call as it read before'; 0 by the template 'total and deterministic' (their statements: YthbbhdadioiefaaTotals.lean).
  GIVEN WITH THE SEED: the statements are not yours to turn. If you find one false, say at which input.
  Laid BY PROGRAM, IN A SANDBOX (cutbox-rows.mjs): the forced cells as the released guide's own fill.sh prints them over the translation 7321d289e0d1c025… (all of the seat's roots in one cut). By AI agents, Wed Nov 11 2026. No macro, syntax, notation, axiom, sorry.
-/
import Derived.Test.YthbbhdadioiefaaChecked
import GoSem.Claim
import GoSem.ClaimJoined
import GoSem.ClaimMapViews
import Derived.JoinedTies
import Derived.KernelRfl
namespace Go.Proofs.Ythbbhdadioiefaa
/- THE CELL 'sum', in the pinned program and in every row, IS THE sha256 OF THE DUMP (.gsa) THAT YthbbhdadioiefaaProg.lean LOADS. Nothing in Lean hashes anything: it is a label: what it is worth is what the hold of that sum in a sandbox is worth. -/
noncomputable def Try.pinned : Pinned := { name := "ythbbhdadioiefaa", sum := "7321d289e0d1c0254dff474088e898170ef4946e1bb3f921637428e85c8e4db9", checked := Try.checked }
namespace Rows
def none {H : Type} : Left H := { results := [], args := [] }

/-- 'laws.FnExactTrendValid': WHATEVER THE INPUT: true; the input reads as it did. -/
def fnExactTrendValidSpec : ChangeSpec := { name := "fnExactTrendValid", fn := fun _ => fun
  | [d] => { results := [.lit (.bool true)], args := [d] }
  | _ => none }
def fnExactTrendValidRow : OpenClaim := { program := "ythbbhdadioiefaa", sum := "7321d289e0d1c0254dff474088e898170ef4946e1bb3f921637428e85c8e4db9", func := "loop.example/plcruntime/laws.FnExactTrendValid", spec := "fnExactTrendValid", plainKeys := false, apart := false }
def FnExactTrendValidSaid : Prop := fnExactTrendValidRow.holds Try.pinned (OpenSpec.ofChange fnExactTrendValidSpec)

/-- ITS FALSE NEIGHBOUR: 'it returns false'. Refute it at one input. -/
def fnExactTrendValidWrong : ChangeSpec := { name := "fnExactTrendValid", fn := fun _ => fun
  | [d] => { results := [.lit (.bool false)], args := [d] }
  | _ => none }
def FnExactTrendValidWrongFalsely : Prop := fnExactTrendValidRow.holds Try.pinned (OpenSpec.ofChange fnExactTrendValidWrong)

/-- 'laws.FnExactChartValid': WHATEVER THE INPUT: true; the input reads as it did. -/
def fnExactChartValidSpec : ChangeSpec := { name := "fnExactChartValid", fn := fun _ => fun
  | [d1, d2, d3] => { results := [.lit (.bool true)], args := [d1, d2, d3] }
  | _ => none }
def fnExactChartValidRow : OpenClaim := { program := "ythbbhdadioiefaa", sum := "7321d289e0d1c0254dff474088e898170ef4946e1bb3f921637428e85c8e4db9", func := "loop.example/plcruntime/laws.FnExactChartValid", spec := "fnExactChartValid", plainKeys := false, apart := false }
def FnExactChartValidSaid : Prop := fnExactChartValidRow.holds Try.pinned (OpenSpec.ofChange fnExactChartValidSpec)

/-- ITS FALSE NEIGHBOUR: 'it returns false'. Refute it at one input. -/
def fnExactChartValidWrong : ChangeSpec := { name := "fnExactChartValid", fn := fun _ => fun
  | [d1, d2, d3] => { results := [.lit (.bool false)], args := [d1, d2, d3] }
  | _ => none }
def FnExactChartValidWrongFalsely : Prop := fnExactChartValidRow.holds Try.pinned (OpenSpec.ofChange fnExactChartValidWrong)

/-- 'laws.FnExactTasksValid': WHATEVER THE INPUT: true; the input reads as it did. -/
def fnExactTasksValidSpec : ChangeSpec := { name := "fnExactTasksValid", fn := fun _ => fun
  | [d] => { results := [.lit (.bool true)], args := [d] }
  | _ => none }
def fnExactTasksValidRow : OpenClaim := { program := "ythbbhdadioiefaa", sum := "7321d289e0d1c0254dff474088e898170ef4946e1bb3f921637428e85c8e4db9", func := "loop.example/plcruntime/laws.FnExactTasksValid", spec := "fnExactTasksValid", plainKeys := false, apart := false }
def FnExactTasksValidSaid : Prop := fnExactTasksValidRow.holds Try.pinned (OpenSpec.ofChange fnExactTasksValidSpec)

/-- ITS FALSE NEIGHBOUR: 'it returns false'. Refute it at one input. -/
def fnExactTasksValidWrong : ChangeSpec := { name := "fnExactTasksValid", fn := fun _ => fun
  | [d] => { results := [.lit (.bool false)], args := [d] }
  | _ => none }
def FnExactTasksValidWrongFalsely : Prop := fnExactTasksValidRow.holds Try.pinned (OpenSpec.ofChange fnExactTasksValidWrong)

/-- 'laws.FnExactAlarmsValid': WHATEVER THE INPUT: true; the input reads as it did. -/
def fnExactAlarmsValidSpec : ChangeSpec := { name := "fnExactAlarmsValid", fn := fun _ => fun
  | [d] => { results := [.lit (.bool true)], args := [d] }
  | _ => none }
def fnExactAlarmsValidRow : OpenClaim := { program := "ythbbhdadioiefaa", sum := "7321d289e0d1c0254dff474088e898170ef4946e1bb3f921637428e85c8e4db9", func := "loop.example/plcruntime/laws.FnExactAlarmsValid", spec := "fnExactAlarmsValid", unfollowed := true, recurses := true, plainKeys := false, apart := false }
def FnExactAlarmsValidSaid : Prop := fnExactAlarmsValidRow.holds Try.pinned (OpenSpec.ofChange fnExactAlarmsValidSpec)

/-- ITS FALSE NEIGHBOUR: 'it returns false'. Refute it at one input. -/
def fnExactAlarmsValidWrong : ChangeSpec := { name := "fnExactAlarmsValid", fn := fun _ => fun
  | [d] => { results := [.lit (.bool false)], args := [d] }
  | _ => none }
def FnExactAlarmsValidWrongFalsely : Prop := fnExactAlarmsValidRow.holds Try.pinned (OpenSpec.ofChange fnExactAlarmsValidWrong)

/-- 'laws.FnExactTaskLoad': WHATEVER THE INPUT: true; the input reads as it did. -/
def fnExactTaskLoadSpec : ChangeSpec := { name := "fnExactTaskLoad", fn := fun _ => fun
  | [d] => { results := [.lit (.bool true)], args := [d] }
  | _ => none }
def fnExactTaskLoadRow : OpenClaim := { program := "ythbbhdadioiefaa", sum := "7321d289e0d1c0254dff474088e898170ef4946e1bb3f921637428e85c8e4db9", func := "loop.example/plcruntime/laws.FnExactTaskLoad", spec := "fnExactTaskLoad", plainKeys := false, apart := false }
def FnExactTaskLoadSaid : Prop := fnExactTaskLoadRow.holds Try.pinned (OpenSpec.ofChange fnExactTaskLoadSpec)

/-- ITS FALSE NEIGHBOUR: 'it returns false'. Refute it at one input. -/
def fnExactTaskLoadWrong : ChangeSpec := { name := "fnExactTaskLoad", fn := fun _ => fun
  | [d] => { results := [.lit (.bool false)], args := [d] }
  | _ => none }
def FnExactTaskLoadWrongFalsely : Prop := fnExactTaskLoadRow.holds Try.pinned (OpenSpec.ofChange fnExactTaskLoadWrong)

/-- 'laws.FnExactModeDistance': WHATEVER THE INPUT: true; the input reads as it did. -/
def fnExactModeDistanceSpec : ChangeSpec := { name := "fnExactModeDistance", fn := fun _ => fun
  | [d1, d2] => { results := [.lit (.bool true)], args := [d1, d2] }
  | _ => none }
def fnExactModeDistanceRow : OpenClaim := { program := "ythbbhdadioiefaa", sum := "7321d289e0d1c0254dff474088e898170ef4946e1bb3f921637428e85c8e4db9", func := "loop.example/plcruntime/laws.FnExactModeDistance", spec := "fnExactModeDistance", plainKeys := false, apart := false }
def FnExactModeDistanceSaid : Prop := fnExactModeDistanceRow.holds Try.pinned (OpenSpec.ofChange fnExactModeDistanceSpec)

/-- ITS FALSE NEIGHBOUR: 'it returns false'. Refute it at one input. -/
def fnExactModeDistanceWrong : ChangeSpec := { name := "fnExactModeDistance", fn := fun _ => fun
  | [d1, d2] => { results := [.lit (.bool false)], args := [d1, d2] }
  | _ => none }
def FnExactModeDistanceWrongFalsely : Prop := fnExactModeDistanceRow.holds Try.pinned (OpenSpec.ofChange fnExactModeDistanceWrong)

/-- 'laws.FnExactTrendAt': WHATEVER THE INPUT: true; the input reads as it did. -/
def fnExactTrendAtSpec : ChangeSpec := { name := "fnExactTrendAt", fn := fun _ => fun
  | [d1, d2] => { results := [.lit (.bool true)], args := [d1, d2] }
  | _ => none }
def fnExactTrendAtRow : OpenClaim := { program := "ythbbhdadioiefaa", sum := "7321d289e0d1c0254dff474088e898170ef4946e1bb3f921637428e85c8e4db9", func := "loop.example/plcruntime/laws.FnExactTrendAt", spec := "fnExactTrendAt", plainKeys := false, apart := false }
def FnExactTrendAtSaid : Prop := fnExactTrendAtRow.holds Try.pinned (OpenSpec.ofChange fnExactTrendAtSpec)

/-- ITS FALSE NEIGHBOUR: 'it returns false'. Refute it at one input. -/
def fnExactTrendAtWrong : ChangeSpec := { name := "fnExactTrendAt", fn := fun _ => fun
  | [d1, d2] => { results := [.lit (.bool false)], args := [d1, d2] }
  | _ => none }
def FnExactTrendAtWrongFalsely : Prop := fnExactTrendAtRow.holds Try.pinned (OpenSpec.ofChange fnExactTrendAtWrong)

/-- 'laws.FnExactTrendError': WHATEVER THE INPUT: true; the input reads as it did. -/
def fnExactTrendErrorSpec : ChangeSpec := { name := "fnExactTrendError", fn := fun _ => fun
  | [d1, d2] => { results := [.lit (.bool true)], args := [d1, d2] }
  | _ => none }
def fnExactTrendErrorRow : OpenClaim := { program := "ythbbhdadioiefaa", sum := "7321d289e0d1c0254dff474088e898170ef4946e1bb3f921637428e85c8e4db9", func := "loop.example/plcruntime/laws.FnExactTrendError", spec := "fnExactTrendError", plainKeys := false, apart := false }
def FnExactTrendErrorSaid : Prop := fnExactTrendErrorRow.holds Try.pinned (OpenSpec.ofChange fnExactTrendErrorSpec)

/-- ITS FALSE NEIGHBOUR: 'it returns false'. Refute it at one input. -/
def fnExactTrendErrorWrong : ChangeSpec := { name := "fnExactTrendError", fn := fun _ => fun
  | [d1, d2] => { results := [.lit (.bool false)], args := [d1, d2] }
  | _ => none }
def FnExactTrendErrorWrongFalsely : Prop := fnExactTrendErrorRow.holds Try.pinned (OpenSpec.ofChange fnExactTrendErrorWrong)

/-- 'laws.FnAlarmLimit': WHATEVER THE INPUT: true; the input reads as it did. -/
def fnAlarmLimitSpec : ChangeSpec := { name := "fnAlarmLimit", fn := fun _ => fun
  | [d] => { results := [.lit (.bool true)], args := [d] }
  | _ => none }
def fnAlarmLimitRow : OpenClaim := { program := "ythbbhdadioiefaa", sum := "7321d289e0d1c0254dff474088e898170ef4946e1bb3f921637428e85c8e4db9", func := "loop.example/plcruntime/laws.FnAlarmLimit", spec := "fnAlarmLimit", unfollowed := true, recurses := true, plainKeys := false, apart := false }
def FnAlarmLimitSaid : Prop := fnAlarmLimitRow.holds Try.pinned (OpenSpec.ofChange fnAlarmLimitSpec)

/-- ITS FALSE NEIGHBOUR: 'it returns false'. Refute it at one input. -/
def fnAlarmLimitWrong : ChangeSpec := { name := "fnAlarmLimit", fn := fun _ => fun
  | [d] => { results := [.lit (.bool false)], args := [d] }
  | _ => none }
def FnAlarmLimitWrongFalsely : Prop := fnAlarmLimitRow.holds Try.pinned (OpenSpec.ofChange fnAlarmLimitWrong)

/-- 'laws.FnExactModeTrace': WHATEVER THE INPUT: true; the input reads as it did. -/
def fnExactModeTraceSpec : ChangeSpec := { name := "fnExactModeTrace", fn := fun _ => fun
  | [d1, d2, d3] => { results := [.lit (.bool true)], args := [d1, d2, d3] }
  | _ => none }
def fnExactModeTraceRow : OpenClaim := { program := "ythbbhdadioiefaa", sum := "7321d289e0d1c0254dff474088e898170ef4946e1bb3f921637428e85c8e4db9", func := "loop.example/plcruntime/laws.FnExactModeTrace", spec := "fnExactModeTrace", unfollowed := true, recurses := true, plainKeys := false, apart := false }
def FnExactModeTraceSaid : Prop := fnExactModeTraceRow.holds Try.pinned (OpenSpec.ofChange fnExactModeTraceSpec)

/-- ITS FALSE NEIGHBOUR: 'it returns false'. Refute it at one input. -/
def fnExactModeTraceWrong : ChangeSpec := { name := "fnExactModeTrace", fn := fun _ => fun
  | [d1, d2, d3] => { results := [.lit (.bool false)], args := [d1, d2, d3] }
  | _ => none }
def FnExactModeTraceWrongFalsely : Prop := fnExactModeTraceRow.holds Try.pinned (OpenSpec.ofChange fnExactModeTraceWrong)

/-- 'laws.FnExactCompressTrend': WHATEVER THE INPUT: true; the input reads as it did. -/
def fnExactCompressTrendSpec : ChangeSpec := { name := "fnExactCompressTrend", fn := fun _ => fun
  | [d1, d2] => { results := [.lit (.bool true)], args := [d1, d2] }
  | _ => none }
def fnExactCompressTrendRow : OpenClaim := { program := "ythbbhdadioiefaa", sum := "7321d289e0d1c0254dff474088e898170ef4946e1bb3f921637428e85c8e4db9", func := "loop.example/plcruntime/laws.FnExactCompressTrend", spec := "fnExactCompressTrend", plainKeys := false, apart := false }
def FnExactCompressTrendSaid : Prop := fnExactCompressTrendRow.holds Try.pinned (OpenSpec.ofChange fnExactCompressTrendSpec)

/-- ITS FALSE NEIGHBOUR: 'it returns false'. Refute it at one input. -/
def fnExactCompressTrendWrong : ChangeSpec := { name := "fnExactCompressTrend", fn := fun _ => fun
  | [d1, d2] => { results := [.lit (.bool false)], args := [d1, d2] }
  | _ => none }
def FnExactCompressTrendWrongFalsely : Prop := fnExactCompressTrendRow.holds Try.pinned (OpenSpec.ofChange fnExactCompressTrendWrong)

/-- 'laws.FnExactWatchdogTrips': WHATEVER THE INPUT: true; the input reads as it did. -/
def fnExactWatchdogTripsSpec : ChangeSpec := { name := "fnExactWatchdogTrips", fn := fun _ => fun
  | [d1, d2, d3, d4] => { results := [.lit (.bool true)], args := [d1, d2, d3, d4] }
  | _ => none }
def fnExactWatchdogTripsRow : OpenClaim := { program := "ythbbhdadioiefaa", sum := "7321d289e0d1c0254dff474088e898170ef4946e1bb3f921637428e85c8e4db9", func := "loop.example/plcruntime/laws.FnExactWatchdogTrips", spec := "fnExactWatchdogTrips", plainKeys := false, apart := false }
def FnExactWatchdogTripsSaid : Prop := fnExactWatchdogTripsRow.holds Try.pinned (OpenSpec.ofChange fnExactWatchdogTripsSpec)

/-- ITS FALSE NEIGHBOUR: 'it returns false'. Refute it at one input. -/
def fnExactWatchdogTripsWrong : ChangeSpec := { name := "fnExactWatchdogTrips", fn := fun _ => fun
  | [d1, d2, d3, d4] => { results := [.lit (.bool false)], args := [d1, d2, d3, d4] }
  | _ => none }
def FnExactWatchdogTripsWrongFalsely : Prop := fnExactWatchdogTripsRow.holds Try.pinned (OpenSpec.ofChange fnExactWatchdogTripsWrong)

/-- 'laws.FnExactTaskSchedule': WHATEVER THE INPUT: true; the input reads as it did. -/
def fnExactTaskScheduleSpec : ChangeSpec := { name := "fnExactTaskSchedule", fn := fun _ => fun
  | [d1, d2] => { results := [.lit (.bool true)], args := [d1, d2] }
  | _ => none }
def fnExactTaskScheduleRow : OpenClaim := { program := "ythbbhdadioiefaa", sum := "7321d289e0d1c0254dff474088e898170ef4946e1bb3f921637428e85c8e4db9", func := "loop.example/plcruntime/laws.FnExactTaskSchedule", spec := "fnExactTaskSchedule", plainKeys := false, apart := false }
def FnExactTaskScheduleSaid : Prop := fnExactTaskScheduleRow.holds Try.pinned (OpenSpec.ofChange fnExactTaskScheduleSpec)

/-- ITS FALSE NEIGHBOUR: 'it returns false'. Refute it at one input. -/
def fnExactTaskScheduleWrong : ChangeSpec := { name := "fnExactTaskSchedule", fn := fun _ => fun
  | [d1, d2] => { results := [.lit (.bool false)], args := [d1, d2] }
  | _ => none }
def FnExactTaskScheduleWrongFalsely : Prop := fnExactTaskScheduleRow.holds Try.pinned (OpenSpec.ofChange fnExactTaskScheduleWrong)

/-- 'laws.FnCompressLine': WHATEVER THE INPUT: true; the input reads as it did. -/
def fnCompressLineSpec : ChangeSpec := { name := "fnCompressLine", fn := fun _ => fun
  | [d] => { results := [.lit (.bool true)], args := [d] }
  | _ => none }
def fnCompressLineRow : OpenClaim := { program := "ythbbhdadioiefaa", sum := "7321d289e0d1c0254dff474088e898170ef4946e1bb3f921637428e85c8e4db9", func := "loop.example/plcruntime/laws.FnCompressLine", spec := "fnCompressLine", plainKeys := false, apart := false }
def FnCompressLineSaid : Prop := fnCompressLineRow.holds Try.pinned (OpenSpec.ofChange fnCompressLineSpec)

/-- ITS FALSE NEIGHBOUR: 'it returns false'. Refute it at one input. -/
def fnCompressLineWrong : ChangeSpec := { name := "fnCompressLine", fn := fun _ => fun
  | [d] => { results := [.lit (.bool false)], args := [d] }
  | _ => none }
def FnCompressLineWrongFalsely : Prop := fnCompressLineRow.holds Try.pinned (OpenSpec.ofChange fnCompressLineWrong)

/- THE SECOND FORM. 'bulk': how many values and letters a reading holds, each counted each time it is reached (what is shared counts as often as it is met; a slice's spare places count too). A statement '..UptoSaid' is the law's where the arguments, and the package variables that the reading takes, are together of bulk at most 1048576: NARROWER than '..Said'. Prove '..Said' where nothing that the law and all that it calls make is longer than what came in: it says more and counts as full. Else prove '..UptoSaid'. A law counts once. -/
mutual
def uptoBulk {H : Type} : DataW H → Nat
  | .lit (.string bytes) => bytes.length + 1
  | .lit _ => 1
  | .nil => 1
  | .ptr d => uptoBulk d + 1
  | .slice elems spare => uptoBulkAll elems + uptoBulkAll spare + 1
  | .agg parts => uptoBulkAll parts + 1
  | .iface _ d => uptoBulk d + 1
  | .map entries => uptoBulkEntries entries + 1
  | .held _ => 1
def uptoBulkAll {H : Type} : List (DataW H) → Nat
  | [] => 0
  | d :: r => uptoBulk d + uptoBulkAll r
def uptoBulkEntries {H : Type} : List (Lit × DataW H) → Nat
  | [] => 0
  | x :: r => uptoBulkEntry x + uptoBulkEntries r
def uptoBulkEntry {H : Type} : Lit × DataW H → Nat
  | (.string bytes, d) => bytes.length + uptoBulk d + 1
  | (_, d) => uptoBulk d + 1
 end
def uptoSmall : (H : Type) → List (DataW H) → Bool := fun _ ds => decide (uptoBulkAll ds ≤ 1048576)
def OpenSpec.upto (s : _root_.Go.ChangeSpec) : _root_.Go.OpenSpec := { _root_.Go.OpenSpec.ofChange s with cond := some uptoSmall }

/-- 'laws.FnExactTrendValid', WHERE WHAT IT READS IS OF BULK AT MOST 1048576: true; the input reads as it did. -/
def fnExactTrendValidUptoRow : OpenClaim := { program := "ythbbhdadioiefaa", sum := "7321d289e0d1c0254dff474088e898170ef4946e1bb3f921637428e85c8e4db9", func := "loop.example/plcruntime/laws.FnExactTrendValid", spec := "fnExactTrendValid", plainKeys := false, apart := false, narrowed := true }
def FnExactTrendValidUptoSaid : Prop := fnExactTrendValidUptoRow.holds Try.pinned (OpenSpec.upto fnExactTrendValidSpec)

/-- 'laws.FnExactChartValid', WHERE WHAT IT READS IS OF BULK AT MOST 1048576: true; the input reads as it did. -/
def fnExactChartValidUptoRow : OpenClaim := { program := "ythbbhdadioiefaa", sum := "7321d289e0d1c0254dff474088e898170ef4946e1bb3f921637428e85c8e4db9", func := "loop.example/plcruntime/laws.FnExactChartValid", spec := "fnExactChartValid", plainKeys := false, apart := false, narrowed := true }
def FnExactChartValidUptoSaid : Prop := fnExactChartValidUptoRow.holds Try.pinned (OpenSpec.upto fnExactChartValidSpec)

/-- 'laws.FnExactTasksValid', WHERE WHAT IT READS IS OF BULK AT MOST 1048576: true; the input reads as it did. -/
def fnExactTasksValidUptoRow : OpenClaim := { program := "ythbbhdadioiefaa", sum := "7321d289e0d1c0254dff474088e898170ef4946e1bb3f921637428e85c8e4db9", func := "loop.example/plcruntime/laws.FnExactTasksValid", spec := "fnExactTasksValid", plainKeys := false, apart := false, narrowed := true }
def FnExactTasksValidUptoSaid : Prop := fnExactTasksValidUptoRow.holds Try.pinned (OpenSpec.upto fnExactTasksValidSpec)

/-- 'laws.FnExactAlarmsValid', WHERE WHAT IT READS IS OF BULK AT MOST 1048576: true; the input reads as it did. -/
def fnExactAlarmsValidUptoRow : OpenClaim := { program := "ythbbhdadioiefaa", sum := "7321d289e0d1c0254dff474088e898170ef4946e1bb3f921637428e85c8e4db9", func := "loop.example/plcruntime/laws.FnExactAlarmsValid", spec := "fnExactAlarmsValid", unfollowed := true, recurses := true, plainKeys := false, apart := false, narrowed := true }
def FnExactAlarmsValidUptoSaid : Prop := fnExactAlarmsValidUptoRow.holds Try.pinned (OpenSpec.upto fnExactAlarmsValidSpec)

/-- 'laws.FnExactTaskLoad', WHERE WHAT IT READS IS OF BULK AT MOST 1048576: true; the input reads as it did. -/
def fnExactTaskLoadUptoRow : OpenClaim := { program := "ythbbhdadioiefaa", sum := "7321d289e0d1c0254dff474088e898170ef4946e1bb3f921637428e85c8e4db9", func := "loop.example/plcruntime/laws.FnExactTaskLoad", spec := "fnExactTaskLoad", plainKeys := false, apart := false, narrowed := true }
def FnExactTaskLoadUptoSaid : Prop := fnExactTaskLoadUptoRow.holds Try.pinned (OpenSpec.upto fnExactTaskLoadSpec)

/-- 'laws.FnExactModeDistance', WHERE WHAT IT READS IS OF BULK AT MOST 1048576: true; the input reads as it did. -/
def fnExactModeDistanceUptoRow : OpenClaim := { program := "ythbbhdadioiefaa", sum := "7321d289e0d1c0254dff474088e898170ef4946e1bb3f921637428e85c8e4db9", func := "loop.example/plcruntime/laws.FnExactModeDistance", spec := "fnExactModeDistance", plainKeys := false, apart := false, narrowed := true }
def FnExactModeDistanceUptoSaid : Prop := fnExactModeDistanceUptoRow.holds Try.pinned (OpenSpec.upto fnExactModeDistanceSpec)

/-- 'laws.FnExactTrendAt', WHERE WHAT IT READS IS OF BULK AT MOST 1048576: true; the input reads as it did. -/
def fnExactTrendAtUptoRow : OpenClaim := { program := "ythbbhdadioiefaa", sum := "7321d289e0d1c0254dff474088e898170ef4946e1bb3f921637428e85c8e4db9", func := "loop.example/plcruntime/laws.FnExactTrendAt", spec := "fnExactTrendAt", plainKeys := false, apart := false, narrowed := true }
def FnExactTrendAtUptoSaid : Prop := fnExactTrendAtUptoRow.holds Try.pinned (OpenSpec.upto fnExactTrendAtSpec)

/-- 'laws.FnExactTrendError', WHERE WHAT IT READS IS OF BULK AT MOST 1048576: true; the input reads as it did. -/
def fnExactTrendErrorUptoRow : OpenClaim := { program := "ythbbhdadioiefaa", sum := "7321d289e0d1c0254dff474088e898170ef4946e1bb3f921637428e85c8e4db9", func := "loop.example/plcruntime/laws.FnExactTrendError", spec := "fnExactTrendError", plainKeys := false, apart := false, narrowed := true }
def FnExactTrendErrorUptoSaid : Prop := fnExactTrendErrorUptoRow.holds Try.pinned (OpenSpec.upto fnExactTrendErrorSpec)

/-- 'laws.FnAlarmLimit', WHERE WHAT IT READS IS OF BULK AT MOST 1048576: true; the input reads as it did. -/
def fnAlarmLimitUptoRow : OpenClaim := { program := "ythbbhdadioiefaa", sum := "7321d289e0d1c0254dff474088e898170ef4946e1bb3f921637428e85c8e4db9", func := "loop.example/plcruntime/laws.FnAlarmLimit", spec := "fnAlarmLimit", unfollowed := true, recurses := true, plainKeys := false, apart := false, narrowed := true }
def FnAlarmLimitUptoSaid : Prop := fnAlarmLimitUptoRow.holds Try.pinned (OpenSpec.upto fnAlarmLimitSpec)

/-- 'laws.FnExactModeTrace', WHERE WHAT IT READS IS OF BULK AT MOST 1048576: true; the input reads as it did. -/
def fnExactModeTraceUptoRow : OpenClaim := { program := "ythbbhdadioiefaa", sum := "7321d289e0d1c0254dff474088e898170ef4946e1bb3f921637428e85c8e4db9", func := "loop.example/plcruntime/laws.FnExactModeTrace", spec := "fnExactModeTrace", unfollowed := true, recurses := true, plainKeys := false, apart := false, narrowed := true }
def FnExactModeTraceUptoSaid : Prop := fnExactModeTraceUptoRow.holds Try.pinned (OpenSpec.upto fnExactModeTraceSpec)

/-- 'laws.FnExactCompressTrend', WHERE WHAT IT READS IS OF BULK AT MOST 1048576: true; the input reads as it did. -/
def fnExactCompressTrendUptoRow : OpenClaim := { program := "ythbbhdadioiefaa", sum := "7321d289e0d1c0254dff474088e898170ef4946e1bb3f921637428e85c8e4db9", func := "loop.example/plcruntime/laws.FnExactCompressTrend", spec := "fnExactCompressTrend", plainKeys := false, apart := false, narrowed := true }
def FnExactCompressTrendUptoSaid : Prop := fnExactCompressTrendUptoRow.holds Try.pinned (OpenSpec.upto fnExactCompressTrendSpec)

/-- 'laws.FnExactWatchdogTrips', WHERE WHAT IT READS IS OF BULK AT MOST 1048576: true; the input reads as it did. -/
def fnExactWatchdogTripsUptoRow : OpenClaim := { program := "ythbbhdadioiefaa", sum := "7321d289e0d1c0254dff474088e898170ef4946e1bb3f921637428e85c8e4db9", func := "loop.example/plcruntime/laws.FnExactWatchdogTrips", spec := "fnExactWatchdogTrips", plainKeys := false, apart := false, narrowed := true }
def FnExactWatchdogTripsUptoSaid : Prop := fnExactWatchdogTripsUptoRow.holds Try.pinned (OpenSpec.upto fnExactWatchdogTripsSpec)

/-- 'laws.FnExactTaskSchedule', WHERE WHAT IT READS IS OF BULK AT MOST 1048576: true; the input reads as it did. -/
def fnExactTaskScheduleUptoRow : OpenClaim := { program := "ythbbhdadioiefaa", sum := "7321d289e0d1c0254dff474088e898170ef4946e1bb3f921637428e85c8e4db9", func := "loop.example/plcruntime/laws.FnExactTaskSchedule", spec := "fnExactTaskSchedule", plainKeys := false, apart := false, narrowed := true }
def FnExactTaskScheduleUptoSaid : Prop := fnExactTaskScheduleUptoRow.holds Try.pinned (OpenSpec.upto fnExactTaskScheduleSpec)

/-- 'laws.FnCompressLine', WHERE WHAT IT READS IS OF BULK AT MOST 1048576: true; the input reads as it did. -/
def fnCompressLineUptoRow : OpenClaim := { program := "ythbbhdadioiefaa", sum := "7321d289e0d1c0254dff474088e898170ef4946e1bb3f921637428e85c8e4db9", func := "loop.example/plcruntime/laws.FnCompressLine", spec := "fnCompressLine", plainKeys := false, apart := false, narrowed := true }
def FnCompressLineUptoSaid : Prop := fnCompressLineUptoRow.holds Try.pinned (OpenSpec.upto fnCompressLineSpec)

end Rows
end Go.Proofs.Ythbbhdadioiefaa
