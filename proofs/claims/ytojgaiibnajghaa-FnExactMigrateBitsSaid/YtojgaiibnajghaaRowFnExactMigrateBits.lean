/- The law FnExactMigrateBits: its statement holds: the last step, over the lifted walk. No condition beyond the row's own. -/
import Derived.Test.YtojgaiibnajghaaLiftFnExactMigrateBits
namespace Go.Proofs.Ytojgaiibnajghaa.fnExactMigrateBits
open Go.ChangeShapes Go.WideShapes Go.ChangeAt Go.RowKit Go.Proofs.YtojgaiibnajghaaOpen Go.Proofs.YtojgaiibnajghaaW.PrintWords Go.Proofs.Ytojgaiibnajghaa.QFnExactMigrateBits
open Go.ChangeMaps (open_string shut_string)
set_option linter.unusedVariables false
open Go.Proofs.Ytojgaiibnajghaa.Facts (own laidOut)
theorem closed : joinedFacts Try.pinned.checked.prog 5 Try.f5 Rows.fnExactMigrateBitsSpec Rows.fnExactMigrateBitsRow = true := by
  have e1 : Try.pinned.checked.prog.mayEnter = true := Facts.enters
  have e2 : (Rows.fnExactMigrateBitsRow.lifted == Try.pinned.checked.prog.liftsFinal) = true := Facts.lifts
  have e3 : (Try.pinned.checked.prog.make == some Rows.fnExactMigrateBitsRow.make) = true := Facts.makes
  unfold joinedFacts
  rw [e1, e2, e3]
  show _ = true
  kernel_rfl
theorem over : Rows.fnExactMigrateBitsRow.holds Try.pinned (OpenSpec.ofChange Rows.fnExactMigrateBitsSpec) :=
  OpenClaim.holds_of_wide 5 Try.f5 rfl rfl rfl rfl rfl rfl rfl ⟨rfl, rfl, rfl, rfl, rfl⟩ rfl rfl rfl rfl rfl (by kernel_rfl) Try.func5 closed
    (of_decide_eq_true (by kernel_rfl)) (by unfold Func.isWrapper; first | (rw [if_pos (by decide +kernel)]; kernel_rfl) | (rw [if_neg (by decide +kernel)]; exact ⟨rfl, rfl⟩))
    (fun os started H enc _ => lifted os started H enc)
theorem proved : Rows.FnExactMigrateBitsSaid := over
#print axioms proved
end Go.Proofs.Ytojgaiibnajghaa.fnExactMigrateBits
namespace Go.Proofs.Ytojgaiibnajghaa
/-- The row, under a short name, for the claim. -/
theorem fnExactMigrateBits_holds : Rows.FnExactMigrateBitsSaid := fnExactMigrateBits.proved
end Go.Proofs.Ytojgaiibnajghaa
