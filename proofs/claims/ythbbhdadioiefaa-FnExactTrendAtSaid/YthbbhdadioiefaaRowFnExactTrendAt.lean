/- The law FnExactTrendAt: its statement holds: the last step, over the lifted walk. No condition beyond the row's own. -/
import Derived.Test.YthbbhdadioiefaaLiftFnExactTrendAt
namespace Go.Proofs.Ythbbhdadioiefaa.fnExactTrendAt
open Go.ChangeShapes Go.WideShapes Go.ChangeAt Go.RowKit Go.Proofs.YthbbhdadioiefaaOpen Go.Proofs.YthbbhdadioiefaaW.PrintWords Go.Proofs.Ythbbhdadioiefaa.QFnExactTrendAt
open Go.ChangeMaps (open_string shut_string)
set_option linter.unusedVariables false
open Go.Proofs.Ythbbhdadioiefaa.Facts (own laidOut)
theorem closed : joinedFacts Try.pinned.checked.prog 9 Try.f9 Rows.fnExactTrendAtSpec Rows.fnExactTrendAtRow = true := by
  have e1 : Try.pinned.checked.prog.mayEnter = true := Facts.enters
  have e2 : (Rows.fnExactTrendAtRow.lifted == Try.pinned.checked.prog.liftsFinal) = true := Facts.lifts
  have e3 : (Try.pinned.checked.prog.make == some Rows.fnExactTrendAtRow.make) = true := Facts.makes
  unfold joinedFacts
  rw [e1, e2, e3]
  show _ = true
  kernel_rfl
theorem over : Rows.fnExactTrendAtRow.holds Try.pinned (OpenSpec.ofChange Rows.fnExactTrendAtSpec) :=
  OpenClaim.holds_of_wide 9 Try.f9 rfl rfl rfl rfl rfl rfl rfl ⟨rfl, rfl, rfl, rfl, rfl⟩ rfl rfl rfl rfl rfl (by kernel_rfl) Try.func9 closed
    (of_decide_eq_true (by kernel_rfl)) (by unfold Func.isWrapper; first | (rw [if_pos (by decide +kernel)]; kernel_rfl) | (rw [if_neg (by decide +kernel)]; exact ⟨rfl, rfl⟩))
    (fun os started H enc _ => lifted os started H enc)
theorem proved : Rows.FnExactTrendAtSaid := over
#print axioms proved
end Go.Proofs.Ythbbhdadioiefaa.fnExactTrendAt
namespace Go.Proofs.Ythbbhdadioiefaa
/-- The row, under a short name, for the claim. -/
theorem fnExactTrendAt_holds : Rows.FnExactTrendAtSaid := fnExactTrendAt.proved
end Go.Proofs.Ythbbhdadioiefaa
