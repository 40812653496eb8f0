/-
  No cell of these rows narrows 'for every input' (looked for: loops, veiled, ifaces, maps, wideKeys, modest, calm, conditions, laid).
  DERIVED. THE GIVEN ROWS OF THIS SEAT. 10 by the template 'for every input the law returns true; each argument reads behind the call as it read before'; 0 by the template 'total and deterministic' (their statements: YtdbbdikkboppnaaTotals.lean).
  GIVEN WITH THE SEED: the statements are not yours to turn. If you find one false, say at which input.
  Laid BY PROGRAM, IN A SANDBOX (cutbox-rows.mjs): the forced cells as the released guide's own fill.sh prints them over the translation f4d820dd59461815… (all of the seat's roots in one cut). By AI agents, Wed Nov 11 2026. No macro, syntax, notation, axiom, sorry.
-/
import Derived.Test.YtdbbdikkboppnaaChecked
import GoSem.Claim
import GoSem.ClaimJoined
import GoSem.ClaimMapViews
import Derived.JoinedTies
import Derived.KernelRfl
namespace Go.Proofs.Ytdbbdikkboppnaa
/- THE CELL 'sum', in the pinned program and in every row, IS THE sha256 OF THE DUMP (.gsa) THAT YtdbbdikkboppnaaProg.lean LOADS. Nothing in Lean hashes anything: it is a label: what it is worth is what the hold of that sum in a sandbox is worth. -/
noncomputable def Try.pinned : Pinned := { name := "ytdbbdikkboppnaa", sum := "f4d820dd594618155ee2f8b0b351d332388ce73d70ece0a6c8770991f757872c", checked := Try.checked }
namespace Rows
def none {H : Type} : Left H := { results := [], args := [] }

/-- 'laws.FnExactTraceWindow': WHATEVER THE INPUT: true; the input reads as it did. -/
def fnExactTraceWindowSpec : ChangeSpec := { name := "fnExactTraceWindow", fn := fun _ => fun
  | [d1, d2, d3, d4] => { results := [.lit (.bool true)], args := [d1, d2, d3, d4] }
  | _ => none }
def fnExactTraceWindowRow : OpenClaim := { program := "ytdbbdikkboppnaa", sum := "f4d820dd594618155ee2f8b0b351d332388ce73d70ece0a6c8770991f757872c", func := "loop.example/plcruntime/laws.FnExactTraceWindow", spec := "fnExactTraceWindow", apart := false }
def FnExactTraceWindowSaid : Prop := fnExactTraceWindowRow.holds Try.pinned (OpenSpec.ofChange fnExactTraceWindowSpec)

/-- ITS FALSE NEIGHBOUR: 'it returns false'. Refute it at one input. -/
def fnExactTraceWindowWrong : ChangeSpec := { name := "fnExactTraceWindow", fn := fun _ => fun
  | [d1, d2, d3, d4] => { results := [.lit (.bool false)], args := [d1, d2, d3, d4] }
  | _ => none }
def FnExactTraceWindowWrongFalsely : Prop := fnExactTraceWindowRow.holds Try.pinned (OpenSpec.ofChange fnExactTraceWindowWrong)

/-- 'laws.FnExactBytesToBits': WHATEVER THE INPUT: true; the input reads as it did. -/
def fnExactBytesToBitsSpec : ChangeSpec := { name := "fnExactBytesToBits", fn := fun _ => fun
  | [d1, d2] => { results := [.lit (.bool true)], args := [d1, d2] }
  | _ => none }
def fnExactBytesToBitsRow : OpenClaim := { program := "ytdbbdikkboppnaa", sum := "f4d820dd594618155ee2f8b0b351d332388ce73d70ece0a6c8770991f757872c", func := "loop.example/plcruntime/laws.FnExactBytesToBits", spec := "fnExactBytesToBits", apart := false }
def FnExactBytesToBitsSaid : Prop := fnExactBytesToBitsRow.holds Try.pinned (OpenSpec.ofChange fnExactBytesToBitsSpec)

/-- ITS FALSE NEIGHBOUR: 'it returns false'. Refute it at one input. -/
def fnExactBytesToBitsWrong : ChangeSpec := { name := "fnExactBytesToBits", fn := fun _ => fun
  | [d1, d2] => { results := [.lit (.bool false)], args := [d1, d2] }
  | _ => none }
def FnExactBytesToBitsWrongFalsely : Prop := fnExactBytesToBitsRow.holds Try.pinned (OpenSpec.ofChange fnExactBytesToBitsWrong)

/-- 'laws.FnExactBitsToBytes': WHATEVER THE INPUT: true; the input reads as it did. -/
def fnExactBitsToBytesSpec : ChangeSpec := { name := "fnExactBitsToBytes", fn := fun _ => fun
  | [d] => { results := [.lit (.bool true)], args := [d] }
  | _ => none }
def fnExactBitsToBytesRow : OpenClaim := { program := "ytdbbdikkboppnaa", sum := "f4d820dd594618155ee2f8b0b351d332388ce73d70ece0a6c8770991f757872c", func := "loop.example/plcruntime/laws.FnExactBitsToBytes", spec := "fnExactBitsToBytes", apart := false }
def FnExactBitsToBytesSaid : Prop := fnExactBitsToBytesRow.holds Try.pinned (OpenSpec.ofChange fnExactBitsToBytesSpec)

/-- ITS FALSE NEIGHBOUR: 'it returns false'. Refute it at one input. -/
def fnExactBitsToBytesWrong : ChangeSpec := { name := "fnExactBitsToBytes", fn := fun _ => fun
  | [d] => { results := [.lit (.bool false)], args := [d] }
  | _ => none }
def FnExactBitsToBytesWrongFalsely : Prop := fnExactBitsToBytesRow.holds Try.pinned (OpenSpec.ofChange fnExactBitsToBytesWrong)

/-- 'laws.FnExactActionBits': WHATEVER THE INPUT: true; the input reads as it did. -/
def fnExactActionBitsSpec : ChangeSpec := { name := "fnExactActionBits", fn := fun _ => fun
  | [d1, d2] => { results := [.lit (.bool true)], args := [d1, d2] }
  | _ => none }
def fnExactActionBitsRow : OpenClaim := { program := "ytdbbdikkboppnaa", sum := "f4d820dd594618155ee2f8b0b351d332388ce73d70ece0a6c8770991f757872c", func := "loop.example/plcruntime/laws.FnExactActionBits", spec := "fnExactActionBits", unfollowed := true, recurses := true, apart := false }
def FnExactActionBitsSaid : Prop := fnExactActionBitsRow.holds Try.pinned (OpenSpec.ofChange fnExactActionBitsSpec)

/-- ITS FALSE NEIGHBOUR: 'it returns false'. Refute it at one input. -/
def fnExactActionBitsWrong : ChangeSpec := { name := "fnExactActionBits", fn := fun _ => fun
  | [d1, d2] => { results := [.lit (.bool false)], args := [d1, d2] }
  | _ => none }
def FnExactActionBitsWrongFalsely : Prop := fnExactActionBitsRow.holds Try.pinned (OpenSpec.ofChange fnExactActionBitsWrong)

/-- 'laws.FnExactTraceFrom': WHATEVER THE INPUT: true; the input reads as it did. -/
def fnExactTraceFromSpec : ChangeSpec := { name := "fnExactTraceFrom", fn := fun _ => fun
  | [d] => { results := [.lit (.bool true)], args := [d] }
  | _ => none }
def fnExactTraceFromRow : OpenClaim := { program := "ytdbbdikkboppnaa", sum := "f4d820dd594618155ee2f8b0b351d332388ce73d70ece0a6c8770991f757872c", func := "loop.example/plcruntime/laws.FnExactTraceFrom", spec := "fnExactTraceFrom", apart := false }
def FnExactTraceFromSaid : Prop := fnExactTraceFromRow.holds Try.pinned (OpenSpec.ofChange fnExactTraceFromSpec)

/-- ITS FALSE NEIGHBOUR: 'it returns false'. Refute it at one input. -/
def fnExactTraceFromWrong : ChangeSpec := { name := "fnExactTraceFrom", fn := fun _ => fun
  | [d] => { results := [.lit (.bool false)], args := [d] }
  | _ => none }
def FnExactTraceFromWrongFalsely : Prop := fnExactTraceFromRow.holds Try.pinned (OpenSpec.ofChange fnExactTraceFromWrong)

/-- 'laws.FnExactTraceRuns': WHATEVER THE INPUT: true; the input reads as it did. -/
def fnExactTraceRunsSpec : ChangeSpec := { name := "fnExactTraceRuns", fn := fun _ => fun
  | [d] => { results := [.lit (.bool true)], args := [d] }
  | _ => none }
def fnExactTraceRunsRow : OpenClaim := { program := "ytdbbdikkboppnaa", sum := "f4d820dd594618155ee2f8b0b351d332388ce73d70ece0a6c8770991f757872c", func := "loop.example/plcruntime/laws.FnExactTraceRuns", spec := "fnExactTraceRuns", apart := false }
def FnExactTraceRunsSaid : Prop := fnExactTraceRunsRow.holds Try.pinned (OpenSpec.ofChange fnExactTraceRunsSpec)

/-- ITS FALSE NEIGHBOUR: 'it returns false'. Refute it at one input. -/
def fnExactTraceRunsWrong : ChangeSpec := { name := "fnExactTraceRuns", fn := fun _ => fun
  | [d] => { results := [.lit (.bool false)], args := [d] }
  | _ => none }
def FnExactTraceRunsWrongFalsely : Prop := fnExactTraceRunsRow.holds Try.pinned (OpenSpec.ofChange fnExactTraceRunsWrong)

/-- 'laws.FnExactAlarmTrace': WHATEVER THE INPUT: true; the input reads as it did. -/
def fnExactAlarmTraceSpec : ChangeSpec := { name := "fnExactAlarmTrace", fn := fun _ => fun
  | [d1, d2] => { results := [.lit (.bool true)], args := [d1, d2] }
  | _ => none }
def fnExactAlarmTraceRow : OpenClaim := { program := "ytdbbdikkboppnaa", sum := "f4d820dd594618155ee2f8b0b351d332388ce73d70ece0a6c8770991f757872c", func := "loop.example/plcruntime/laws.FnExactAlarmTrace", spec := "fnExactAlarmTrace", apart := false }
def FnExactAlarmTraceSaid : Prop := fnExactAlarmTraceRow.holds Try.pinned (OpenSpec.ofChange fnExactAlarmTraceSpec)

/-- ITS FALSE NEIGHBOUR: 'it returns false'. Refute it at one input. -/
def fnExactAlarmTraceWrong : ChangeSpec := { name := "fnExactAlarmTrace", fn := fun _ => fun
  | [d1, d2] => { results := [.lit (.bool false)], args := [d1, d2] }
  | _ => none }
def FnExactAlarmTraceWrongFalsely : Prop := fnExactAlarmTraceRow.holds Try.pinned (OpenSpec.ofChange fnExactAlarmTraceWrong)

/-- 'laws.FnExactFrameBytes': WHATEVER THE INPUT: true; the input reads as it did. -/
def fnExactFrameBytesSpec : ChangeSpec := { name := "fnExactFrameBytes", fn := fun _ => fun
  | [d] => { results := [.lit (.bool true)], args := [d] }
  | _ => none }
def fnExactFrameBytesRow : OpenClaim := { program := "ytdbbdikkboppnaa", sum := "f4d820dd594618155ee2f8b0b351d332388ce73d70ece0a6c8770991f757872c", func := "loop.example/plcruntime/laws.FnExactFrameBytes", spec := "fnExactFrameBytes", apart := false }
def FnExactFrameBytesSaid : Prop := fnExactFrameBytesRow.holds Try.pinned (OpenSpec.ofChange fnExactFrameBytesSpec)

/-- ITS FALSE NEIGHBOUR: 'it returns false'. Refute it at one input. -/
def fnExactFrameBytesWrong : ChangeSpec := { name := "fnExactFrameBytes", fn := fun _ => fun
  | [d] => { results := [.lit (.bool false)], args := [d] }
  | _ => none }
def FnExactFrameBytesWrongFalsely : Prop := fnExactFrameBytesRow.holds Try.pinned (OpenSpec.ofChange fnExactFrameBytesWrong)

/-- 'laws.FnExactReadFrame': WHATEVER THE INPUT: true; the input reads as it did. -/
def fnExactReadFrameSpec : ChangeSpec := { name := "fnExactReadFrame", fn := fun _ => fun
  | [d] => { results := [.lit (.bool true)], args := [d] }
  | _ => none }
def fnExactReadFrameRow : OpenClaim := { program := "ytdbbdikkboppnaa", sum := "f4d820dd594618155ee2f8b0b351d332388ce73d70ece0a6c8770991f757872c", func := "loop.example/plcruntime/laws.FnExactReadFrame", spec := "fnExactReadFrame", apart := false }
def FnExactReadFrameSaid : Prop := fnExactReadFrameRow.holds Try.pinned (OpenSpec.ofChange fnExactReadFrameSpec)

/-- ITS FALSE NEIGHBOUR: 'it returns false'. Refute it at one input. -/
def fnExactReadFrameWrong : ChangeSpec := { name := "fnExactReadFrame", fn := fun _ => fun
  | [d] => { results := [.lit (.bool false)], args := [d] }
  | _ => none }
def FnExactReadFrameWrongFalsely : Prop := fnExactReadFrameRow.holds Try.pinned (OpenSpec.ofChange fnExactReadFrameWrong)

/-- 'laws.FnExactPollResults': WHATEVER THE INPUT: true; the input reads as it did. -/
def fnExactPollResultsSpec : ChangeSpec := { name := "fnExactPollResults", fn := fun _ => fun
  | [d1, d2] => { results := [.lit (.bool true)], args := [d1, d2] }
  | _ => none }
def fnExactPollResultsRow : OpenClaim := { program := "ytdbbdikkboppnaa", sum := "f4d820dd594618155ee2f8b0b351d332388ce73d70ece0a6c8770991f757872c", func := "loop.example/plcruntime/laws.FnExactPollResults", spec := "fnExactPollResults", apart := false }
def FnExactPollResultsSaid : Prop := fnExactPollResultsRow.holds Try.pinned (OpenSpec.ofChange fnExactPollResultsSpec)

/-- ITS FALSE NEIGHBOUR: 'it returns false'. Refute it at one input. -/
def fnExactPollResultsWrong : ChangeSpec := { name := "fnExactPollResults", fn := fun _ => fun
  | [d1, d2] => { results := [.lit (.bool false)], args := [d1, d2] }
  | _ => none }
def FnExactPollResultsWrongFalsely : Prop := fnExactPollResultsRow.holds Try.pinned (OpenSpec.ofChange fnExactPollResultsWrong)

/- THE SECOND FORM. 'bulk': how many values and letters a reading holds, each counted each time it is reached (what is shared counts as often as it is met; a slice's spare places count too). A statement '..UptoSaid' is the law's where the arguments, and the package variables that the reading takes, are together of bulk at most 1048576: NARROWER than '..Said'. Prove '..Said' where nothing that the law and all that it calls make is longer than what came in: it says more and counts as full. Else prove '..UptoSaid'. A law counts once. -/
mutual
def uptoBulk {H : Type} : DataW H → Nat
  | .lit (.string bytes) => bytes.length + 1
  | .lit _ => 1
  | .nil => 1
  | .ptr d => uptoBulk d + 1
  | .slice elems spare => uptoBulkAll elems + uptoBulkAll spare + 1
  | .agg parts => uptoBulkAll parts + 1
  | .iface _ d => uptoBulk d + 1
  | .map entries => uptoBulkEntries entries + 1
  | .held _ => 1
def uptoBulkAll {H : Type} : List (DataW H) → Nat
  | [] => 0
  | d :: r => uptoBulk d + uptoBulkAll r
def uptoBulkEntries {H : Type} : List (Lit × DataW H) → Nat
  | [] => 0
  | x :: r => uptoBulkEntry x + uptoBulkEntries r
def uptoBulkEntry {H : Type} : Lit × DataW H → Nat
  | (.string bytes, d) => bytes.length + uptoBulk d + 1
  | (_, d) => uptoBulk d + 1
 end
def uptoSmall : (H : Type) → List (DataW H) → Bool := fun _ ds => decide (uptoBulkAll ds ≤ 1048576)
def OpenSpec.upto (s : _root_.Go.ChangeSpec) : _root_.Go.OpenSpec := { _root_.Go.OpenSpec.ofChange s with cond := some uptoSmall }

/-- 'laws.FnExactTraceWindow', WHERE WHAT IT READS IS OF BULK AT MOST 1048576: true; the input reads as it did. -/
def fnExactTraceWindowUptoRow : OpenClaim := { program := "ytdbbdikkboppnaa", sum := "f4d820dd594618155ee2f8b0b351d332388ce73d70ece0a6c8770991f757872c", func := "loop.example/plcruntime/laws.FnExactTraceWindow", spec := "fnExactTraceWindow", apart := false, narrowed := true }
def FnExactTraceWindowUptoSaid : Prop := fnExactTraceWindowUptoRow.holds Try.pinned (OpenSpec.upto fnExactTraceWindowSpec)

/-- 'laws.FnExactBytesToBits', WHERE WHAT IT READS IS OF BULK AT MOST 1048576: true; the input reads as it did. -/
def fnExactBytesToBitsUptoRow : OpenClaim := { program := "ytdbbdikkboppnaa", sum := "f4d820dd594618155ee2f8b0b351d332388ce73d70ece0a6c8770991f757872c", func := "loop.example/plcruntime/laws.FnExactBytesToBits", spec := "fnExactBytesToBits", apart := false, narrowed := true }
def FnExactBytesToBitsUptoSaid : Prop := fnExactBytesToBitsUptoRow.holds Try.pinned (OpenSpec.upto fnExactBytesToBitsSpec)

/-- 'laws.FnExactBitsToBytes', WHERE WHAT IT READS IS OF BULK AT MOST 1048576: true; the input reads as it did. -/
def fnExactBitsToBytesUptoRow : OpenClaim := { program := "ytdbbdikkboppnaa", sum := "f4d820dd594618155ee2f8b0b351d332388ce73d70ece0a6c8770991f757872c", func := "loop.example/plcruntime/laws.FnExactBitsToBytes", spec := "fnExactBitsToBytes", apart := false, narrowed := true }
def FnExactBitsToBytesUptoSaid : Prop := fnExactBitsToBytesUptoRow.holds Try.pinned (OpenSpec.upto fnExactBitsToBytesSpec)

/-- 'laws.FnExactActionBits', WHERE WHAT IT READS IS OF BULK AT MOST 1048576: true; the input reads as it did. -/
def fnExactActionBitsUptoRow : OpenClaim := { program := "ytdbbdikkboppnaa", sum := "f4d820dd594618155ee2f8b0b351d332388ce73d70ece0a6c8770991f757872c", func := "loop.example/plcruntime/laws.FnExactActionBits", spec := "fnExactActionBits", unfollowed := true, recurses := true, apart := false, narrowed := true }
def FnExactActionBitsUptoSaid : Prop := fnExactActionBitsUptoRow.holds Try.pinned (OpenSpec.upto fnExactActionBitsSpec)

/-- 'laws.FnExactTraceFrom', WHERE WHAT IT READS IS OF BULK AT MOST 1048576: true; the input reads as it did. -/
def fnExactTraceFromUptoRow : OpenClaim := { program := "ytdbbdikkboppnaa", sum := "f4d820dd594618155ee2f8b0b351d332388ce73d70ece0a6c8770991f757872c", func := "loop.example/plcruntime/laws.FnExactTraceFrom", spec := "fnExactTraceFrom", apart := false, narrowed := true }
def FnExactTraceFromUptoSaid : Prop := fnExactTraceFromUptoRow.holds Try.pinned (OpenSpec.upto fnExactTraceFromSpec)

/-- 'laws.FnExactTraceRuns', WHERE WHAT IT READS IS OF BULK AT MOST 1048576: true; the input reads as it did. -/
def fnExactTraceRunsUptoRow : OpenClaim := { program := "ytdbbdikkboppnaa", sum := "f4d820dd594618155ee2f8b0b351d332388ce73d70ece0a6c8770991f757872c", func := "loop.example/plcruntime/laws.FnExactTraceRuns", spec := "fnExactTraceRuns", apart := false, narrowed := true }
def FnExactTraceRunsUptoSaid : Prop := fnExactTraceRunsUptoRow.holds Try.pinned (OpenSpec.upto fnExactTraceRunsSpec)

/-- 'laws.FnExactAlarmTrace', WHERE WHAT IT READS IS OF BULK AT MOST 1048576: true; the input reads as it did. -/
def fnExactAlarmTraceUptoRow : OpenClaim := { program := "ytdbbdikkboppnaa", sum := "f4d820dd594618155ee2f8b0b351d332388ce73d70ece0a6c8770991f757872c", func := "loop.example/plcruntime/laws.FnExactAlarmTrace", spec := "fnExactAlarmTrace", apart := false, narrowed := true }
def FnExactAlarmTraceUptoSaid : Prop := fnExactAlarmTraceUptoRow.holds Try.pinned (OpenSpec.upto fnExactAlarmTraceSpec)

/-- 'laws.FnExactFrameBytes', WHERE WHAT IT READS IS OF BULK AT MOST 1048576: true; the input reads as it did. -/
def fnExactFrameBytesUptoRow : OpenClaim := { program := "ytdbbdikkboppnaa", sum := "f4d820dd594618155ee2f8b0b351d332388ce73d70ece0a6c8770991f757872c", func := "loop.example/plcruntime/laws.FnExactFrameBytes", spec := "fnExactFrameBytes", apart := false, narrowed := true }
def FnExactFrameBytesUptoSaid : Prop := fnExactFrameBytesUptoRow.holds Try.pinned (OpenSpec.upto fnExactFrameBytesSpec)

/-- 'laws.FnExactReadFrame', WHERE WHAT IT READS IS OF BULK AT MOST 1048576: true; the input reads as it did. -/
def fnExactReadFrameUptoRow : OpenClaim := { program := "ytdbbdikkboppnaa", sum := "f4d820dd594618155ee2f8b0b351d332388ce73d70ece0a6c8770991f757872c", func := "loop.example/plcruntime/laws.FnExactReadFrame", spec := "fnExactReadFrame", apart := false, narrowed := true }
def FnExactReadFrameUptoSaid : Prop := fnExactReadFrameUptoRow.holds Try.pinned (OpenSpec.upto fnExactReadFrameSpec)

/-- 'laws.FnExactPollResults', WHERE WHAT IT READS IS OF BULK AT MOST 1048576: true; the input reads as it did. -/
def fnExactPollResultsUptoRow : OpenClaim := { program := "ytdbbdikkboppnaa", sum := "f4d820dd594618155ee2f8b0b351d332388ce73d70ece0a6c8770991f757872c", func := "loop.example/plcruntime/laws.FnExactPollResults", spec := "fnExactPollResults", apart := false, narrowed := true }
def FnExactPollResultsUptoSaid : Prop := fnExactPollResultsUptoRow.holds Try.pinned (OpenSpec.upto fnExactPollResultsSpec)

end Rows
end Go.Proofs.Ytdbbdikkboppnaa
