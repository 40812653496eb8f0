/- The law FnExactWatchdogTrips: its statement holds: the last step, over the lifted walk. No condition beyond the row's own. -/
import Derived.Test.YthbbhdadioiefaaLiftFnExactWatchdogTrips
namespace Go.Proofs.Ythbbhdadioiefaa.fnExactWatchdogTrips
open Go.ChangeShapes Go.WideShapes Go.ChangeAt Go.RowKit Go.Proofs.YthbbhdadioiefaaOpen Go.Proofs.YthbbhdadioiefaaW.PrintWords Go.Proofs.Ythbbhdadioiefaa.QFnExactWatchdogTrips
open Go.ChangeMaps (open_string shut_string)
set_option linter.unusedVariables false
open Go.Proofs.Ythbbhdadioiefaa.Facts (own laidOut)
theorem closed : joinedFacts Try.pinned.checked.prog 14 Try.f14 Rows.fnExactWatchdogTripsSpec Rows.fnExactWatchdogTripsRow = true := by
  have e1 : Try.pinned.checked.prog.mayEnter = true := Facts.enters
  have e2 : (Rows.fnExactWatchdogTripsRow.lifted == Try.pinned.checked.prog.liftsFinal) = true := Facts.lifts
  have e3 : (Try.pinned.checked.prog.make == some Rows.fnExactWatchdogTripsRow.make) = true := Facts.makes
  unfold joinedFacts
  rw [e1, e2, e3]
  show _ = true
  kernel_rfl
theorem over : Rows.fnExactWatchdogTripsRow.holds Try.pinned (OpenSpec.ofChange Rows.fnExactWatchdogTripsSpec) :=
  OpenClaim.holds_of_wide 14 Try.f14 rfl rfl rfl rfl rfl rfl rfl ⟨rfl, rfl, rfl, rfl, rfl⟩ rfl rfl rfl rfl rfl (by kernel_rfl) Try.func14 closed
    (of_decide_eq_true (by kernel_rfl)) (by unfold Func.isWrapper; first | (rw [if_pos (by decide +kernel)]; kernel_rfl) | (rw [if_neg (by decide +kernel)]; exact ⟨rfl, rfl⟩))
    (fun os started H enc _ => lifted os started H enc)
theorem proved : Rows.FnExactWatchdogTripsSaid := over
#print axioms proved
end Go.Proofs.Ythbbhdadioiefaa.fnExactWatchdogTrips
namespace Go.Proofs.Ythbbhdadioiefaa
/-- The row, under a short name, for the claim. -/
theorem fnExactWatchdogTrips_holds : Rows.FnExactWatchdogTripsSaid := fnExactWatchdogTrips.proved
end Go.Proofs.Ythbbhdadioiefaa
