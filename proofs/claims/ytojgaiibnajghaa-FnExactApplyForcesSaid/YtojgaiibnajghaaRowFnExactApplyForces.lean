/- The law FnExactApplyForces: its statement holds: the last step, over the lifted walk. No condition beyond the row's own. -/
import Derived.Test.YtojgaiibnajghaaLiftFnExactApplyForces
namespace Go.Proofs.Ytojgaiibnajghaa.fnExactApplyForces
open Go.ChangeShapes Go.WideShapes Go.ChangeAt Go.RowKit Go.Proofs.YtojgaiibnajghaaOpen Go.Proofs.YtojgaiibnajghaaW.PrintWords Go.Proofs.Ytojgaiibnajghaa.QFnExactApplyForces
open Go.ChangeMaps (open_string shut_string)
set_option linter.unusedVariables false
open Go.Proofs.Ytojgaiibnajghaa.Facts (own laidOut)
theorem closed : joinedFacts Try.pinned.checked.prog 6 Try.f6 Rows.fnExactApplyForcesSpec Rows.fnExactApplyForcesRow = true := by
  have e1 : Try.pinned.checked.prog.mayEnter = true := Facts.enters
  have e2 : (Rows.fnExactApplyForcesRow.lifted == Try.pinned.checked.prog.liftsFinal) = true := Facts.lifts
  have e3 : (Try.pinned.checked.prog.make == some Rows.fnExactApplyForcesRow.make) = true := Facts.makes
  unfold joinedFacts
  rw [e1, e2, e3]
  show _ = true
  kernel_rfl
theorem over : Rows.fnExactApplyForcesRow.holds Try.pinned (OpenSpec.ofChange Rows.fnExactApplyForcesSpec) :=
  OpenClaim.holds_of_wide 6 Try.f6 rfl rfl rfl rfl rfl rfl rfl ⟨rfl, rfl, rfl, rfl, rfl⟩ rfl rfl rfl rfl rfl (by kernel_rfl) Try.func6 closed
    (of_decide_eq_true (by kernel_rfl)) (by unfold Func.isWrapper; first | (rw [if_pos (by decide +kernel)]; kernel_rfl) | (rw [if_neg (by decide +kernel)]; exact ⟨rfl, rfl⟩))
    (fun os started H enc _ => lifted os started H enc)
theorem proved : Rows.FnExactApplyForcesSaid := over
#print axioms proved
end Go.Proofs.Ytojgaiibnajghaa.fnExactApplyForces
namespace Go.Proofs.Ytojgaiibnajghaa
/-- The row, under a short name, for the claim. -/
theorem fnExactApplyForces_holds : Rows.FnExactApplyForcesSaid := fnExactApplyForces.proved
end Go.Proofs.Ytojgaiibnajghaa
