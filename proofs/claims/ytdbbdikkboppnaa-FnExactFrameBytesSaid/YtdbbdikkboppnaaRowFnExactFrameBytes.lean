/- The law FnExactFrameBytes: its statement holds: the last step, over the lifted walk. No condition beyond the row's own. -/
import Derived.Test.YtdbbdikkboppnaaLiftFnExactFrameBytes
namespace Go.Proofs.Ytdbbdikkboppnaa.fnExactFrameBytes
open Go.ChangeShapes Go.WideShapes Go.ChangeAt Go.RowKit Go.Proofs.YtdbbdikkboppnaaOpen Go.Proofs.YtdbbdikkboppnaaW.PrintWords Go.Proofs.Ytdbbdikkboppnaa.QFnExactFrameBytes
open Go.ChangeMaps (open_string shut_string)
set_option linter.unusedVariables false
open Go.Proofs.Ytdbbdikkboppnaa.Facts (own laidOut)
theorem closed : joinedFacts Try.pinned.checked.prog 10 Try.f10 Rows.fnExactFrameBytesSpec Rows.fnExactFrameBytesRow = true := by
  have e1 : Try.pinned.checked.prog.mayEnter = true := Facts.enters
  have e2 : (Rows.fnExactFrameBytesRow.lifted == Try.pinned.checked.prog.liftsFinal) = true := Facts.lifts
  have e3 : (Try.pinned.checked.prog.make == some Rows.fnExactFrameBytesRow.make) = true := Facts.makes
  unfold joinedFacts
  rw [e1, e2, e3]
  show _ = true
  kernel_rfl
theorem over : Rows.fnExactFrameBytesRow.holds Try.pinned (OpenSpec.ofChange Rows.fnExactFrameBytesSpec) :=
  OpenClaim.holds_of_wide 10 Try.f10 rfl rfl rfl rfl rfl rfl rfl ⟨rfl, rfl, rfl, rfl, rfl⟩ rfl rfl rfl rfl rfl (by kernel_rfl) Try.func10 closed
    (of_decide_eq_true (by kernel_rfl)) (by unfold Func.isWrapper; first | (rw [if_pos (by decide +kernel)]; kernel_rfl) | (rw [if_neg (by decide +kernel)]; exact ⟨rfl, rfl⟩))
    (fun os started H enc _ => lifted os started H enc)
theorem proved : Rows.FnExactFrameBytesSaid := over
#print axioms proved
end Go.Proofs.Ytdbbdikkboppnaa.fnExactFrameBytes
namespace Go.Proofs.Ytdbbdikkboppnaa
/-- The row, under a short name, for the claim. -/
theorem fnExactFrameBytes_holds : Rows.FnExactFrameBytesSaid := fnExactFrameBytes.proved
end Go.Proofs.Ytdbbdikkboppnaa
