/- The law FnExactReadFrame: its statement holds: the last step, over the lifted walk. No condition beyond the row's own. -/
import Derived.Test.YtdbbdikkboppnaaLiftFnExactReadFrame
namespace Go.Proofs.Ytdbbdikkboppnaa.fnExactReadFrame
open Go.ChangeShapes Go.WideShapes Go.ChangeAt Go.RowKit Go.Proofs.YtdbbdikkboppnaaOpen Go.Proofs.YtdbbdikkboppnaaW.PrintWords Go.Proofs.Ytdbbdikkboppnaa.QFnExactReadFrame
open Go.ChangeMaps (open_string shut_string)
set_option linter.unusedVariables false
open Go.Proofs.Ytdbbdikkboppnaa.Facts (own laidOut)
theorem closed : joinedFacts Try.pinned.checked.prog 11 Try.f11 Rows.fnExactReadFrameSpec Rows.fnExactReadFrameRow = true := by
  have e1 : Try.pinned.checked.prog.mayEnter = true := Facts.enters
  have e2 : (Rows.fnExactReadFrameRow.lifted == Try.pinned.checked.prog.liftsFinal) = true := Facts.lifts
  have e3 : (Try.pinned.checked.prog.make == some Rows.fnExactReadFrameRow.make) = true := Facts.makes
  unfold joinedFacts
  rw [e1, e2, e3]
  show _ = true
  kernel_rfl
theorem over : Rows.fnExactReadFrameRow.holds Try.pinned (OpenSpec.ofChange Rows.fnExactReadFrameSpec) :=
  OpenClaim.holds_of_wide 11 Try.f11 rfl rfl rfl rfl rfl rfl rfl ⟨rfl, rfl, rfl, rfl, rfl⟩ rfl rfl rfl rfl rfl (by kernel_rfl) Try.func11 closed
    (of_decide_eq_true (by kernel_rfl)) (by unfold Func.isWrapper; first | (rw [if_pos (by decide +kernel)]; kernel_rfl) | (rw [if_neg (by decide +kernel)]; exact ⟨rfl, rfl⟩))
    (fun os started H enc _ => lifted os started H enc)
theorem proved : Rows.FnExactReadFrameSaid := over
#print axioms proved
end Go.Proofs.Ytdbbdikkboppnaa.fnExactReadFrame
namespace Go.Proofs.Ytdbbdikkboppnaa
/-- The row, under a short name, for the claim. -/
theorem fnExactReadFrame_holds : Rows.FnExactReadFrameSaid := fnExactReadFrame.proved
end Go.Proofs.Ytdbbdikkboppnaa
