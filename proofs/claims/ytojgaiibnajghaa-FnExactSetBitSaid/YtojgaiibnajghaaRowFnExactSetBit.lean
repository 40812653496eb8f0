/- The law FnExactSetBit: its statement holds: the last step, over the lifted walk. No condition beyond the row's own. -/
import Derived.Test.YtojgaiibnajghaaLiftFnExactSetBit
namespace Go.Proofs.Ytojgaiibnajghaa.fnExactSetBit
open Go.ChangeShapes Go.WideShapes Go.ChangeAt Go.RowKit Go.Proofs.YtojgaiibnajghaaOpen Go.Proofs.YtojgaiibnajghaaW.PrintWords Go.Proofs.Ytojgaiibnajghaa.QFnExactSetBit
open Go.ChangeMaps (open_string shut_string)
set_option linter.unusedVariables false
open Go.Proofs.Ytojgaiibnajghaa.Facts (own laidOut)
theorem closed : joinedFacts Try.pinned.checked.prog 3 Try.f3 Rows.fnExactSetBitSpec Rows.fnExactSetBitRow = true := by
  have e1 : Try.pinned.checked.prog.mayEnter = true := Facts.enters
  have e2 : (Rows.fnExactSetBitRow.lifted == Try.pinned.checked.prog.liftsFinal) = true := Facts.lifts
  have e3 : (Try.pinned.checked.prog.make == some Rows.fnExactSetBitRow.make) = true := Facts.makes
  unfold joinedFacts
  rw [e1, e2, e3]
  show _ = true
  kernel_rfl
theorem over : Rows.fnExactSetBitRow.holds Try.pinned (OpenSpec.ofChange Rows.fnExactSetBitSpec) :=
  OpenClaim.holds_of_wide 3 Try.f3 rfl rfl rfl rfl rfl rfl rfl ⟨rfl, rfl, rfl, rfl, rfl⟩ rfl rfl rfl rfl rfl (by kernel_rfl) Try.func3 closed
    (of_decide_eq_true (by kernel_rfl)) (by unfold Func.isWrapper; first | (rw [if_pos (by decide +kernel)]; kernel_rfl) | (rw [if_neg (by decide +kernel)]; exact ⟨rfl, rfl⟩))
    (fun os started H enc _ => lifted os started H enc)
theorem proved : Rows.FnExactSetBitSaid := over
#print axioms proved
end Go.Proofs.Ytojgaiibnajghaa.fnExactSetBit
namespace Go.Proofs.Ytojgaiibnajghaa
/-- The row, under a short name, for the claim. -/
theorem fnExactSetBit_holds : Rows.FnExactSetBitSaid := fnExactSetBit.proved
end Go.Proofs.Ytojgaiibnajghaa
