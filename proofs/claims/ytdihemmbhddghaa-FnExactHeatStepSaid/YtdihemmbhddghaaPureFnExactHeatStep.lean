/- For all three integers the law of HeatStep answers true (no condition beyond the kinds of the arguments). -/
import Derived.Test.YtdihemmbhddghaaQFnExactHeatStepx1
namespace Go.Proofs.Ytdihemmbhddghaa.Pure
open Go.RowKit Go.Proofs.Ytdihemmbhddghaa.QFnExactHeatStep Go.Proofs.YtdihemmbhddghaaW.PrintWords Go.Proofs.YtdihemmbhddghaaW.PrintLast Go.Proofs.YtdihemmbhddghaaW.PrintMore
set_option linter.unusedVariables false
set_option linter.unusedSimpArgs false
theorem hs_w (a : Int) : spec_l7Word.f a = some (decide (-32768 ≤ a ∧ a ≤ 32767)) := by
  unfold spec_l7Word.f spec_l1In.f
  by_cases h : a ≥ -32768
  · rw [if_pos h]
    simp [h]
  · rw [if_neg h]
    simp [h]
theorem hs_floor (a : Int) : ∃ r, spec_l7Floor.f a 16 = some r := by
  unfold spec_l7Floor.f
  rw [if_neg (by decide)]
  split <;> exact ⟨_, rfl⟩
theorem hs_floor_same (a b : Int) : impl_floor.f a b = spec_l7Floor.f a b := rfl
theorem FnExactHeatStep : ∀ (a0 : Int) (a1 : Int) (a2 : Int), (Lit.int .i64 a0).wf = true → (Lit.int .i64 a1).wf = true → (Lit.int .i64 a2).wf = true → ∃ k, laws_FnExactHeatStep.f k a0 a1 a2 = some true := by
  intro a0 a1 a2 h0 h1 h2
  refine ⟨1, ?_⟩
  unfold laws_FnExactHeatStep.f spec_HeatStep.f impl_HeatStep.f impl_areWords.f impl_limit.f
  simp only [hs_w, hs_floor_same, spec_HeatStep.j0, spec_l1Clip.f, Option.bind_some, List.any_cons, List.any_nil]
  obtain ⟨r, hr⟩ := hs_floor (wrap64 (a1 - a0))
  by_cases c0 : -32768 ≤ a0 ∧ a0 ≤ 32767 <;> by_cases c1 : -32768 ≤ a1 ∧ a1 ≤ 32767 <;> by_cases c2 : -32768 ≤ a2 ∧ a2 ≤ 32767 <;> simp [c0, c1, c2, hr]

end Go.Proofs.Ytdihemmbhddghaa.Pure
