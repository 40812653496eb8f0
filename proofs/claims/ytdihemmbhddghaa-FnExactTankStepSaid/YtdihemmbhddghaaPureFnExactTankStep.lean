/- For all four integers the law of TankStep answers true (no condition beyond the kinds of the arguments). -/
import Derived.Test.YtdihemmbhddghaaPFnExactTankStepx1
namespace Go.Proofs.Ytdihemmbhddghaa.Pure
open Go.RowKit Go.Proofs.Ytdihemmbhddghaa.PFnExactTankStep Go.Proofs.YtdihemmbhddghaaW.PrintWords Go.Proofs.YtdihemmbhddghaaW.PrintLast Go.Proofs.YtdihemmbhddghaaW.PrintMore
set_option linter.unusedVariables false
set_option linter.unusedSimpArgs false
theorem tk_l1 (a b c : Int) : spec_l1In.f a b c = some (decide (b ≤ a ∧ a ≤ c)) := by
  unfold spec_l1In.f
  by_cases h : a ≥ b
  · rw [if_pos h]
    simp [h]
  · rw [if_neg h]
    simp [h]
theorem tk_in (a b c : Int) : impl_in.f a b c = some (decide (b ≤ a ∧ a ≤ c)) := tk_l1 a b c
theorem FnExactTankStep : laws_FnExactTankStep.Pure := by
  intro a0 a1 a2 a3 h0 h1 h2 h3
  simp only [laws_FnExactTankStep.f, spec_TankStep.f, impl_TankStep.f, tk_l1, tk_in, Option.bind_some, decide_eq_true_eq]
  by_cases c0 : 1 ≤ a1 ∧ a1 ≤ 32767
  · rw [if_pos c0, if_pos c0]
    by_cases c1 : 0 ≤ a0 ∧ a0 ≤ a1
    · rw [if_pos c1, if_pos c1]
      by_cases c2 : 0 ≤ a2 ∧ a2 ≤ 32767
      · rw [if_pos c2, if_pos c2]
        by_cases c3 : 0 ≤ a3 ∧ a3 ≤ 32767
        · rw [if_pos c3, if_pos c3]
          simp only [Option.bind_some]
          have e1 : wrap64 (a0 + a2) = a0 + a2 := by unfold wrap64; omega
          have e2 : wrap64 (a0 + a2 - a3) = a0 + a2 - a3 := by unfold wrap64; omega
          have e3 : wrap64 (a0 + a2 - a3 - a1) = a0 + a2 - a3 - a1 := by unfold wrap64; omega
          have e4 : wrap64 (mx 0 (a0 + a2 - a3) - a1) = mx 0 (a0 + a2 - a3) - a1 := by unfold wrap64 mx; split <;> omega
          rw [e1, e2, e3, e4, if_pos (by unfold mx mn; (repeat' split) <;> omega), if_pos (by unfold mx; (repeat' split) <;> omega)]
        · rw [if_neg c3, if_neg c3]
          simp
      · rw [if_neg c2, if_neg c2]
        simp
    · rw [if_neg c1, if_neg c1]
      simp
  · rw [if_neg c0, if_neg c0]
    simp

end Go.Proofs.Ytdihemmbhddghaa.Pure
