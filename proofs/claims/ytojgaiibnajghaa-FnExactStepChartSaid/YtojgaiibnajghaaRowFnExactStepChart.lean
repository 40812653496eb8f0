/- The law FnExactStepChart: its statement holds: the last step, over the lifted walk. No condition beyond the row's own. -/
import Derived.Test.YtojgaiibnajghaaLiftFnExactStepChart
namespace Go.Proofs.Ytojgaiibnajghaa.fnExactStepChart
open Go.ChangeShapes Go.WideShapes Go.ChangeAt Go.RowKit Go.Proofs.YtojgaiibnajghaaOpen Go.Proofs.YtojgaiibnajghaaW.PrintWords Go.Proofs.Ytojgaiibnajghaa.QFnExactStepChart
open Go.ChangeMaps (open_string shut_string)
set_option linter.unusedVariables false
open Go.Proofs.Ytojgaiibnajghaa.Facts (own laidOut)
theorem closed : joinedFacts Try.pinned.checked.prog 7 Try.f7 Rows.fnExactStepChartSpec Rows.fnExactStepChartRow = true := by
  have e1 : Try.pinned.checked.prog.mayEnter = true := Facts.enters
  have e2 : (Rows.fnExactStepChartRow.lifted == Try.pinned.checked.prog.liftsFinal) = true := Facts.lifts
  have e3 : (Try.pinned.checked.prog.make == some Rows.fnExactStepChartRow.make) = true := Facts.makes
  unfold joinedFacts
  rw [e1, e2, e3]
  show _ = true
  kernel_rfl
theorem over : Rows.fnExactStepChartRow.holds Try.pinned (OpenSpec.ofChange Rows.fnExactStepChartSpec) :=
  OpenClaim.holds_of_wide 7 Try.f7 rfl rfl rfl rfl rfl rfl rfl ⟨rfl, rfl, rfl, rfl, rfl⟩ rfl rfl rfl rfl rfl (by kernel_rfl) Try.func7 closed
    (of_decide_eq_true (by kernel_rfl)) (by unfold Func.isWrapper; first | (rw [if_pos (by decide +kernel)]; kernel_rfl) | (rw [if_neg (by decide +kernel)]; exact ⟨rfl, rfl⟩))
    (fun os started H enc _ => lifted os started H enc)
theorem proved : Rows.FnExactStepChartSaid := over
#print axioms proved
end Go.Proofs.Ytojgaiibnajghaa.fnExactStepChart
namespace Go.Proofs.Ytojgaiibnajghaa
/-- The row, under a short name, for the claim. -/
theorem fnExactStepChart_holds : Rows.FnExactStepChartSaid := fnExactStepChart.proved
end Go.Proofs.Ytojgaiibnajghaa
