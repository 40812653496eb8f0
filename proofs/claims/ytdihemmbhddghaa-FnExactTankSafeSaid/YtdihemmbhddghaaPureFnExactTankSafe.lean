/- For all four integers the law of TankSafe answers true (no condition beyond the kinds of the arguments). -/
import Derived.Test.YtdihemmbhddghaaPFnExactTankSafex1
namespace Go.Proofs.Ytdihemmbhddghaa.Pure
open Go.RowKit Go.Proofs.Ytdihemmbhddghaa.PFnExactTankSafe Go.Proofs.YtdihemmbhddghaaW.PrintWords Go.Proofs.YtdihemmbhddghaaW.PrintLast Go.Proofs.YtdihemmbhddghaaW.PrintMore
set_option linter.unusedVariables false
set_option linter.unusedSimpArgs false
theorem ts_l1 (a b c : Int) : spec_l1In.f a b c = some (decide (b ≤ a ∧ a ≤ c)) := by
  unfold spec_l1In.f
  by_cases h : a ≥ b
  · rw [if_pos h]
    simp [h]
  · rw [if_neg h]
    simp [h]
theorem ts_in (a b c : Int) : impl_in.f a b c = some (decide (b ≤ a ∧ a ≤ c)) := ts_l1 a b c
theorem FnExactTankSafe : laws_FnExactTankSafe.Pure := by
  intro a0 a1 a2 a3 h0 h1 h2 h3
  simp only [laws_FnExactTankSafe.f, spec_TankSafe.f, impl_TankSafe.f, impl_tankValid.f, ts_l1, ts_in, Option.bind_some, decide_eq_true_eq]
  by_cases c0 : 1 ≤ a0 ∧ a0 ≤ 32767
  · rw [if_pos c0, if_pos c0]
    by_cases c1 : 0 ≤ a2 ∧ a2 ≤ a0
    · have e : wrap64 (a2 - 1) = a2 - 1 := by unfold wrap64; omega
      rw [if_pos c1, if_pos c1, e]
      by_cases c2 : 0 ≤ a1 ∧ a1 ≤ a2 - 1
      · rw [if_pos c2, if_pos (by omega), if_pos (by omega)]
        by_cases c3 : 0 ≤ a3 ∧ a3 ≤ 32767
        · simp [c3]
        · simp [c3]
      · rw [if_neg c2]
        by_cases c4 : 0 ≤ a1 ∧ a1 ≤ a0
        · rw [if_pos c4, if_neg (by omega)]
          simp
        · rw [if_neg c4]
          simp
    · rw [if_neg c1, if_neg c1]
      by_cases c4 : 0 ≤ a1 ∧ a1 ≤ a0
      · rw [if_pos c4]
        simp
      · rw [if_neg c4]
        simp
  · rw [if_neg c0, if_neg c0]
    simp

end Go.Proofs.Ytdihemmbhddghaa.Pure
