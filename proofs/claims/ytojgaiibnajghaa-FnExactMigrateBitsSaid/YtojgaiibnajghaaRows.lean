/-
  No cell of these rows narrows 'for every input' (looked for: loops, veiled, ifaces, maps, wideKeys, modest, calm, conditions, laid).
  DERIVED. THE GIVEN ROWS OF THIS SEAT. 5 by the template 'for every input the law returns true; each argument reads behind the call as it read before'; 0 by the template 'total and deterministic' (their statements: YtojgaiibnajghaaTotals.lean).
  GIVEN WITH THE SEED: the statements are not yours to turn. If you find one false, say at which input.
  Laid BY PROGRAM, IN A SANDBOX (cutbox-rows.mjs): the forced cells as the released guide's own fill.sh prints them over the translation 8d01256318d12861… (all of the seat's roots in one cut). By AI agents, Wed Nov 11 2026. No macro, syntax, notation, axiom, sorry.
-/
import Derived.Test.YtojgaiibnajghaaChecked
import GoSem.Claim
import GoSem.ClaimJoined
import GoSem.ClaimMapViews
import Derived.JoinedTies
import Derived.KernelRfl
namespace Go.Proofs.Ytojgaiibnajghaa
/- THE CELL 'sum', in the pinned program and in every row, IS THE sha256 OF THE DUMP (.gsa) THAT YtojgaiibnajghaaProg.lean LOADS. Nothing in Lean hashes anything: it is a label: what it is worth is what the hold of that sum in a sandbox is worth. -/
noncomputable def Try.pinned : Pinned := { name := "ytojgaiibnajghaa", sum := "8d01256318d128611aef72f565dedf27e5d655dfb12b91493b80ade8442214ab", checked := Try.checked }
namespace Rows
def none {H : Type} : Left H := { results := [], args := [] }

/-- 'laws.FnExactSetBit': WHATEVER THE INPUT: true; the input reads as it did. -/
def fnExactSetBitSpec : ChangeSpec := { name := "fnExactSetBit", fn := fun _ => fun
  | [d1, d2, d3] => { results := [.lit (.bool true)], args := [d1, d2, d3] }
  | _ => none }
def fnExactSetBitRow : OpenClaim := { program := "ytojgaiibnajghaa", sum := "8d01256318d128611aef72f565dedf27e5d655dfb12b91493b80ade8442214ab", func := "loop.example/plcruntime/laws.FnExactSetBit", spec := "fnExactSetBit", unfollowed := true, recurses := true, apart := false }
def FnExactSetBitSaid : Prop := fnExactSetBitRow.holds Try.pinned (OpenSpec.ofChange fnExactSetBitSpec)

/-- ITS FALSE NEIGHBOUR: 'it returns false'. Refute it at one input. -/
def fnExactSetBitWrong : ChangeSpec := { name := "fnExactSetBit", fn := fun _ => fun
  | [d1, d2, d3] => { results := [.lit (.bool false)], args := [d1, d2, d3] }
  | _ => none }
def FnExactSetBitWrongFalsely : Prop := fnExactSetBitRow.holds Try.pinned (OpenSpec.ofChange fnExactSetBitWrong)

/-- 'laws.FnExactSetWord': WHATEVER THE INPUT: true; the input reads as it did. -/
def fnExactSetWordSpec : ChangeSpec := { name := "fnExactSetWord", fn := fun _ => fun
  | [d1, d2, d3] => { results := [.lit (.bool true)], args := [d1, d2, d3] }
  | _ => none }
def fnExactSetWordRow : OpenClaim := { program := "ytojgaiibnajghaa", sum := "8d01256318d128611aef72f565dedf27e5d655dfb12b91493b80ade8442214ab", func := "loop.example/plcruntime/laws.FnExactSetWord", spec := "fnExactSetWord", unfollowed := true, recurses := true, apart := false }
def FnExactSetWordSaid : Prop := fnExactSetWordRow.holds Try.pinned (OpenSpec.ofChange fnExactSetWordSpec)

/-- ITS FALSE NEIGHBOUR: 'it returns false'. Refute it at one input. -/
def fnExactSetWordWrong : ChangeSpec := { name := "fnExactSetWord", fn := fun _ => fun
  | [d1, d2, d3] => { results := [.lit (.bool false)], args := [d1, d2, d3] }
  | _ => none }
def FnExactSetWordWrongFalsely : Prop := fnExactSetWordRow.holds Try.pinned (OpenSpec.ofChange fnExactSetWordWrong)

/-- 'laws.FnExactMigrateBits': WHATEVER THE INPUT: true; the input reads as it did. -/
def fnExactMigrateBitsSpec : ChangeSpec := { name := "fnExactMigrateBits", fn := fun _ => fun
  | [d1, d2] => { results := [.lit (.bool true)], args := [d1, d2] }
  | _ => none }
def fnExactMigrateBitsRow : OpenClaim := { program := "ytojgaiibnajghaa", sum := "8d01256318d128611aef72f565dedf27e5d655dfb12b91493b80ade8442214ab", func := "loop.example/plcruntime/laws.FnExactMigrateBits", spec := "fnExactMigrateBits", unfollowed := true, recurses := true, apart := false }
def FnExactMigrateBitsSaid : Prop := fnExactMigrateBitsRow.holds Try.pinned (OpenSpec.ofChange fnExactMigrateBitsSpec)

/-- ITS FALSE NEIGHBOUR: 'it returns false'. Refute it at one input. -/
def fnExactMigrateBitsWrong : ChangeSpec := { name := "fnExactMigrateBits", fn := fun _ => fun
  | [d1, d2] => { results := [.lit (.bool false)], args := [d1, d2] }
  | _ => none }
def FnExactMigrateBitsWrongFalsely : Prop := fnExactMigrateBitsRow.holds Try.pinned (OpenSpec.ofChange fnExactMigrateBitsWrong)

/-- 'laws.FnExactApplyForces': WHATEVER THE INPUT: true; the input reads as it did. -/
def fnExactApplyForcesSpec : ChangeSpec := { name := "fnExactApplyForces", fn := fun _ => fun
  | [d1, d2] => { results := [.lit (.bool true)], args := [d1, d2] }
  | _ => none }
def fnExactApplyForcesRow : OpenClaim := { program := "ytojgaiibnajghaa", sum := "8d01256318d128611aef72f565dedf27e5d655dfb12b91493b80ade8442214ab", func := "loop.example/plcruntime/laws.FnExactApplyForces", spec := "fnExactApplyForces", unfollowed := true, recurses := true, apart := false }
def FnExactApplyForcesSaid : Prop := fnExactApplyForcesRow.holds Try.pinned (OpenSpec.ofChange fnExactApplyForcesSpec)

/-- ITS FALSE NEIGHBOUR: 'it returns false'. Refute it at one input. -/
def fnExactApplyForcesWrong : ChangeSpec := { name := "fnExactApplyForces", fn := fun _ => fun
  | [d1, d2] => { results := [.lit (.bool false)], args := [d1, d2] }
  | _ => none }
def FnExactApplyForcesWrongFalsely : Prop := fnExactApplyForcesRow.holds Try.pinned (OpenSpec.ofChange fnExactApplyForcesWrong)

/-- 'laws.FnExactStepChart': WHATEVER THE INPUT: true; the input reads as it did. -/
def fnExactStepChartSpec : ChangeSpec := { name := "fnExactStepChart", fn := fun _ => fun
  | [d1, d2, d3, d4] => { results := [.lit (.bool true)], args := [d1, d2, d3, d4] }
  | _ => none }
def fnExactStepChartRow : OpenClaim := { program := "ytojgaiibnajghaa", sum := "8d01256318d128611aef72f565dedf27e5d655dfb12b91493b80ade8442214ab", func := "loop.example/plcruntime/laws.FnExactStepChart", spec := "fnExactStepChart", unfollowed := true, recurses := true, apart := false }
def FnExactStepChartSaid : Prop := fnExactStepChartRow.holds Try.pinned (OpenSpec.ofChange fnExactStepChartSpec)

/-- ITS FALSE NEIGHBOUR: 'it returns false'. Refute it at one input. -/
def fnExactStepChartWrong : ChangeSpec := { name := "fnExactStepChart", fn := fun _ => fun
  | [d1, d2, d3, d4] => { results := [.lit (.bool false)], args := [d1, d2, d3, d4] }
  | _ => none }
def FnExactStepChartWrongFalsely : Prop := fnExactStepChartRow.holds Try.pinned (OpenSpec.ofChange fnExactStepChartWrong)

/- THE SECOND FORM. 'bulk': how many values and letters a reading holds, each counted each time it is reached (what is shared counts as often as it is met; a slice's spare places count too). A statement '..UptoSaid' is the law's where the arguments, and the package variables that the reading takes, are together of bulk at most 1048576: NARROWER than '..Said'. Prove '..Said' where nothing that the law and all that it calls make is longer than what came in: it says more and counts as full. Else prove '..UptoSaid'. A law counts once. -/
mutual
def uptoBulk {H : Type} : DataW H → Nat
  | .lit (.string bytes) => bytes.length + 1
  | .lit _ => 1
  | .nil => 1
  | .ptr d => uptoBulk d + 1
  | .slice elems spare => uptoBulkAll elems + uptoBulkAll spare + 1
  | .agg parts => uptoBulkAll parts + 1
  | .iface _ d => uptoBulk d + 1
  | .map entries => uptoBulkEntries entries + 1
  | .held _ => 1
def uptoBulkAll {H : Type} : List (DataW H) → Nat
  | [] => 0
  | d :: r => uptoBulk d + uptoBulkAll r
def uptoBulkEntries {H : Type} : List (Lit × DataW H) → Nat
  | [] => 0
  | x :: r => uptoBulkEntry x + uptoBulkEntries r
def uptoBulkEntry {H : Type} : Lit × DataW H → Nat
  | (.string bytes, d) => bytes.length + uptoBulk d + 1
  | (_, d) => uptoBulk d + 1
 end
def uptoSmall : (H : Type) → List (DataW H) → Bool := fun _ ds => decide (uptoBulkAll ds ≤ 1048576)
def OpenSpec.upto (s : _root_.Go.ChangeSpec) : _root_.Go.OpenSpec := { _root_.Go.OpenSpec.ofChange s with cond := some uptoSmall }

/-- 'laws.FnExactSetBit', WHERE WHAT IT READS IS OF BULK AT MOST 1048576: true; the input reads as it did. -/
def fnExactSetBitUptoRow : OpenClaim := { program := "ytojgaiibnajghaa", sum := "8d01256318d128611aef72f565dedf27e5d655dfb12b91493b80ade8442214ab", func := "loop.example/plcruntime/laws.FnExactSetBit", spec := "fnExactSetBit", unfollowed := true, recurses := true, apart := false, narrowed := true }
def FnExactSetBitUptoSaid : Prop := fnExactSetBitUptoRow.holds Try.pinned (OpenSpec.upto fnExactSetBitSpec)

/-- 'laws.FnExactSetWord', WHERE WHAT IT READS IS OF BULK AT MOST 1048576: true; the input reads as it did. -/
def fnExactSetWordUptoRow : OpenClaim := { program := "ytojgaiibnajghaa", sum := "8d01256318d128611aef72f565dedf27e5d655dfb12b91493b80ade8442214ab", func := "loop.example/plcruntime/laws.FnExactSetWord", spec := "fnExactSetWord", unfollowed := true, recurses := true, apart := false, narrowed := true }
def FnExactSetWordUptoSaid : Prop := fnExactSetWordUptoRow.holds Try.pinned (OpenSpec.upto fnExactSetWordSpec)

/-- 'laws.FnExactMigrateBits', WHERE WHAT IT READS IS OF BULK AT MOST 1048576: true; the input reads as it did. -/
def fnExactMigrateBitsUptoRow : OpenClaim := { program := "ytojgaiibnajghaa", sum := "8d01256318d128611aef72f565dedf27e5d655dfb12b91493b80ade8442214ab", func := "loop.example/plcruntime/laws.FnExactMigrateBits", spec := "fnExactMigrateBits", unfollowed := true, recurses := true, apart := false, narrowed := true }
def FnExactMigrateBitsUptoSaid : Prop := fnExactMigrateBitsUptoRow.holds Try.pinned (OpenSpec.upto fnExactMigrateBitsSpec)

/-- 'laws.FnExactApplyForces', WHERE WHAT IT READS IS OF BULK AT MOST 1048576: true; the input reads as it did. -/
def fnExactApplyForcesUptoRow : OpenClaim := { program := "ytojgaiibnajghaa", sum := "8d01256318d128611aef72f565dedf27e5d655dfb12b91493b80ade8442214ab", func := "loop.example/plcruntime/laws.FnExactApplyForces", spec := "fnExactApplyForces", unfollowed := true, recurses := true, apart := false, narrowed := true }
def FnExactApplyForcesUptoSaid : Prop := fnExactApplyForcesUptoRow.holds Try.pinned (OpenSpec.upto fnExactApplyForcesSpec)

/-- 'laws.FnExactStepChart', WHERE WHAT IT READS IS OF BULK AT MOST 1048576: true; the input reads as it did. -/
def fnExactStepChartUptoRow : OpenClaim := { program := "ytojgaiibnajghaa", sum := "8d01256318d128611aef72f565dedf27e5d655dfb12b91493b80ade8442214ab", func := "loop.example/plcruntime/laws.FnExactStepChart", spec := "fnExactStepChart", unfollowed := true, recurses := true, apart := false, narrowed := true }
def FnExactStepChartUptoSaid : Prop := fnExactStepChartUptoRow.holds Try.pinned (OpenSpec.upto fnExactStepChartSpec)

end Rows
end Go.Proofs.Ytojgaiibnajghaa
