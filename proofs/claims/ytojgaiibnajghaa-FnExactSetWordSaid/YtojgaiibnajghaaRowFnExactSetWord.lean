/- The law FnExactSetWord: its statement holds: the last step, over the lifted walk. No condition beyond the row's own. -/
import Derived.Test.YtojgaiibnajghaaLiftFnExactSetWord
namespace Go.Proofs.Ytojgaiibnajghaa.fnExactSetWord
open Go.ChangeShapes Go.WideShapes Go.ChangeAt Go.RowKit Go.Proofs.YtojgaiibnajghaaOpen Go.Proofs.YtojgaiibnajghaaW.PrintWords Go.Proofs.Ytojgaiibnajghaa.QFnExactSetWord
open Go.ChangeMaps (open_string shut_string)
set_option linter.unusedVariables false
open Go.Proofs.Ytojgaiibnajghaa.Facts (own laidOut)
theorem closed : joinedFacts Try.pinned.checked.prog 4 Try.f4 Rows.fnExactSetWordSpec Rows.fnExactSetWordRow = true := by
  have e1 : Try.pinned.checked.prog.mayEnter = true := Facts.enters
  have e2 : (Rows.fnExactSetWordRow.lifted == Try.pinned.checked.prog.liftsFinal) = true := Facts.lifts
  have e3 : (Try.pinned.checked.prog.make == some Rows.fnExactSetWordRow.make) = true := Facts.makes
  unfold joinedFacts
  rw [e1, e2, e3]
  show _ = true
  kernel_rfl
theorem over : Rows.fnExactSetWordRow.holds Try.pinned (OpenSpec.ofChange Rows.fnExactSetWordSpec) :=
  OpenClaim.holds_of_wide 4 Try.f4 rfl rfl rfl rfl rfl rfl rfl ⟨rfl, rfl, rfl, rfl, rfl⟩ rfl rfl rfl rfl rfl (by kernel_rfl) Try.func4 closed
    (of_decide_eq_true (by kernel_rfl)) (by unfold Func.isWrapper; first | (rw [if_pos (by decide +kernel)]; kernel_rfl) | (rw [if_neg (by decide +kernel)]; exact ⟨rfl, rfl⟩))
    (fun os started H enc _ => lifted os started H enc)
theorem proved : Rows.FnExactSetWordSaid := over
#print axioms proved
end Go.Proofs.Ytojgaiibnajghaa.fnExactSetWord
namespace Go.Proofs.Ytojgaiibnajghaa
/-- The row, under a short name, for the claim. -/
theorem fnExactSetWord_holds : Rows.FnExactSetWordSaid := fnExactSetWord.proved
end Go.Proofs.Ytojgaiibnajghaa
