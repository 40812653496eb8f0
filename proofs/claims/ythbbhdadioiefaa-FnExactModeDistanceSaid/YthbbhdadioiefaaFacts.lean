/- What holds of the whole program, for all rows of the seat. No condition. -/
import Derived.Test.YthbbhdadioiefaaRows
import Derived.WalkKit
import Derived.ProofKit
namespace Go.Proofs.Ythbbhdadioiefaa.Facts
open Go
theorem own : ownKnob Try.prog.godebug = none := by kernel_rfl
theorem laidOut : laidOutB Try.prog = true := by kernel_rfl
theorem starts : (Try.pinned.checked.prog.mayEnter && (Rows.fnExactTrendValidRow.lifted == Try.pinned.checked.prog.liftsFinal) && (Try.pinned.checked.prog.make == some Rows.fnExactTrendValidRow.make)) = true := by kernel_rfl
theorem parts : (Try.pinned.checked.prog.mayEnter = true ∧ (Rows.fnExactTrendValidRow.lifted == Try.pinned.checked.prog.liftsFinal) = true) ∧ (Try.pinned.checked.prog.make == some Rows.fnExactTrendValidRow.make) = true := by
  have h := starts
  rw [Bool.and_eq_true, Bool.and_eq_true] at h
  exact h
theorem enters : Try.pinned.checked.prog.mayEnter = true := parts.1.1
theorem lifts : (Rows.fnExactTrendValidRow.lifted == Try.pinned.checked.prog.liftsFinal) = true := parts.1.2
theorem makes : (Try.pinned.checked.prog.make == some Rows.fnExactTrendValidRow.make) = true := parts.2
end Go.Proofs.Ythbbhdadioiefaa.Facts
