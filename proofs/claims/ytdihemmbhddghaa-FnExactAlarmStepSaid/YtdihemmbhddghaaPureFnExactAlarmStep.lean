/- For every state, condition and acknowledgement the law of AlarmStep answers true (no condition beyond the kinds of the arguments). -/
import Derived.Test.YtdihemmbhddghaaPFnExactAlarmStepx2
namespace Go.Proofs.Ytdihemmbhddghaa.Pure
open Go.RowKit Go.Proofs.Ytdihemmbhddghaa.PFnExactAlarmStep Go.Proofs.YtdihemmbhddghaaW.PrintWords Go.Proofs.YtdihemmbhddghaaW.PrintLast Go.Proofs.YtdihemmbhddghaaW.PrintMore
set_option linter.unusedVariables false
set_option linter.unusedSimpArgs false
theorem FnExactAlarmStep : laws_FnExactAlarmStep.Pure := by
  intro a0 a1 a2 h0
  refine ⟨6, ?_⟩
  by_cases e0 : a0 = 0
  · subst e0
    cases a1 <;> cases a2 <;> rfl
  by_cases e1 : a0 = 1
  · subst e1
    cases a1 <;> cases a2 <;> rfl
  by_cases e2 : a0 = 2
  · subst e2
    cases a1 <;> cases a2 <;> rfl
  by_cases e3 : a0 = 3
  · subst e3
    cases a1 <;> cases a2 <;> rfl
  simp only [laws_FnExactAlarmStep.f, spec_AlarmStep.f, impl_AlarmStep.f, spec_AlarmStep.j0, spec_AlarmStep.j1, spec_AlarmStep.j2, spec_AlarmStep.j3, spec_AlarmStep.j4, impl_AlarmStep.j0, impl_AlarmStep.j1, if_neg e0, if_neg e1, if_neg e2, if_neg e3]
  cases a1 <;> cases a2 <;> simp

end Go.Proofs.Ytdihemmbhddghaa.Pure
