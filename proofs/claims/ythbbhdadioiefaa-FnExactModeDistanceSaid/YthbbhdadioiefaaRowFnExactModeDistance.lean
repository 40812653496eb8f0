/- The law FnExactModeDistance: its statement holds: the last step, over the lifted walk. No condition beyond the row's own. -/
import Derived.Test.YthbbhdadioiefaaLiftFnExactModeDistance
namespace Go.Proofs.Ythbbhdadioiefaa.fnExactModeDistance
open Go.ChangeShapes Go.WideShapes Go.ChangeAt Go.RowKit Go.Proofs.YthbbhdadioiefaaOpen Go.Proofs.YthbbhdadioiefaaW.PrintWords Go.Proofs.Ythbbhdadioiefaa.QFnExactModeDistance
open Go.ChangeMaps (open_string shut_string)
set_option linter.unusedVariables false
open Go.Proofs.Ythbbhdadioiefaa.Facts (own laidOut)
theorem closed : joinedFacts Try.pinned.checked.prog 8 Try.f8 Rows.fnExactModeDistanceSpec Rows.fnExactModeDistanceRow = true := by
  have e1 : Try.pinned.checked.prog.mayEnter = true := Facts.enters
  have e2 : (Rows.fnExactModeDistanceRow.lifted == Try.pinned.checked.prog.liftsFinal) = true := Facts.lifts
  have e3 : (Try.pinned.checked.prog.make == some Rows.fnExactModeDistanceRow.make) = true := Facts.makes
  unfold joinedFacts
  rw [e1, e2, e3]
  show _ = true
  kernel_rfl
theorem over : Rows.fnExactModeDistanceRow.holds Try.pinned (OpenSpec.ofChange Rows.fnExactModeDistanceSpec) :=
  OpenClaim.holds_of_wide 8 Try.f8 rfl rfl rfl rfl rfl rfl rfl ⟨rfl, rfl, rfl, rfl, rfl⟩ rfl rfl rfl rfl rfl (by kernel_rfl) Try.func8 closed
    (of_decide_eq_true (by kernel_rfl)) (by unfold Func.isWrapper; first | (rw [if_pos (by decide +kernel)]; kernel_rfl) | (rw [if_neg (by decide +kernel)]; exact ⟨rfl, rfl⟩))
    (fun os started H enc _ => lifted os started H enc)
theorem proved : Rows.FnExactModeDistanceSaid := over
#print axioms proved
end Go.Proofs.Ythbbhdadioiefaa.fnExactModeDistance
namespace Go.Proofs.Ythbbhdadioiefaa
/-- The row, under a short name, for the claim. -/
theorem fnExactModeDistance_holds : Rows.FnExactModeDistanceSaid := fnExactModeDistance.proved
end Go.Proofs.Ythbbhdadioiefaa
