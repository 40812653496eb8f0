/- For all five integers the law of LimitState answers true (no condition beyond the kinds of the arguments). -/
import Derived.Test.YtdihemmbhddghaaQFnExactLimitStatex2
namespace Go.Proofs.Ytdihemmbhddghaa.Pure
open Go.RowKit Go.Proofs.Ytdihemmbhddghaa.QFnExactLimitState Go.Proofs.YtdihemmbhddghaaW.PrintWords Go.Proofs.YtdihemmbhddghaaW.PrintLast Go.Proofs.YtdihemmbhddghaaW.PrintMore
set_option linter.unusedVariables false
set_option linter.unusedSimpArgs false
theorem ls_l1 (a b c : Int) : spec_l1In.f a b c = some (decide (b ≤ a ∧ a ≤ c)) := by
  unfold spec_l1In.f
  by_cases h : a ≥ b
  · rw [if_pos h]
    simp [h]
  · rw [if_neg h]
    simp [h]
theorem ls_in (a b c : Int) : impl_in.f a b c = some (decide (b ≤ a ∧ a ≤ c)) := ls_l1 a b c
theorem ls_w (a : Int) : spec_l7Word.f a = some (decide (-32768 ≤ a ∧ a ≤ 32767)) := by
  unfold spec_l7Word.f
  rw [ls_l1]
  rfl
theorem ls_j1 (k : Nat) (a0 a1 a2 a4 : Int) (b : Bool) : impl_LimitState.j1 k a0 a1 a2 a4 b = spec_LimitState.j1 k a0 a1 a2 a4 b := by
  cases k <;> rfl
theorem ls_j0 (k : Nat) (a0 a1 a2 a3 a4 : Int) (b : Bool) : impl_LimitState.j0 k a0 a1 a2 a3 a4 b = spec_LimitState.j0 k a0 a1 a2 a3 a4 b := by
  cases k with
  | zero => rfl
  | succ k => simp only [impl_LimitState.j0, spec_LimitState.j0, ls_j1]
theorem ls_same (k : Nat) (a0 a1 a2 a3 a4 : Int) : impl_LimitState.f k a0 a1 a2 a3 a4 = spec_LimitState.f k a0 a1 a2 a3 a4 := by
  unfold impl_LimitState.f spec_LimitState.f impl_areWords.f
  simp only [ls_w, ls_l1, ls_in, ls_j0, Option.bind_some, List.any_cons, List.any_nil]
  by_cases c1 : -32768 ≤ a1 ∧ a1 ≤ 32767 <;> by_cases c2 : -32768 ≤ a2 ∧ a2 ≤ 32767 <;> by_cases c3 : -32768 ≤ a3 ∧ a3 ≤ 32767 <;> simp [c1, c2, c3]
theorem ls_some1 (k : Nat) (a0 a1 a2 a4 : Int) (b : Bool) : ∃ r, spec_LimitState.j1 (k + 1) a0 a1 a2 a4 b = some r := by
  simp only [spec_LimitState.j1]
  (repeat' split) <;> exact ⟨_, rfl⟩
theorem ls_some0 (k : Nat) (a0 a1 a2 a3 a4 : Int) (b : Bool) : ∃ r, spec_LimitState.j0 (k + 2) a0 a1 a2 a3 a4 b = some r := by
  simp only [spec_LimitState.j0]
  (repeat' split) <;> first | exact ⟨_, rfl⟩ | exact ls_some1 _ _ _ _ _ _
theorem ls_some (a0 a1 a2 a3 a4 : Int) : ∃ r, spec_LimitState.f 2 a0 a1 a2 a3 a4 = some r := by
  unfold spec_LimitState.f
  simp only [ls_w, ls_l1, Option.bind_some]
  (repeat' split) <;> exact ls_some0 0 _ _ _ _ _ _
theorem FnExactLimitState : ∀ (a0 : Int) (a1 : Int) (a2 : Int) (a3 : Int) (a4 : Int), (Lit.int .i64 a0).wf = true → (Lit.int .i64 a1).wf = true → (Lit.int .i64 a2).wf = true → (Lit.int .i64 a3).wf = true → (Lit.int .i64 a4).wf = true → ∃ k, laws_FnExactLimitState.f k a0 a1 a2 a3 a4 = some true := by
  intro a0 a1 a2 a3 a4 h0 h1 h2 h3 h4
  obtain ⟨r, hr⟩ := ls_some a0 a1 a2 a3 a4
  refine ⟨2, ?_⟩
  unfold laws_FnExactLimitState.f
  rw [ls_same, hr]
  simp

end Go.Proofs.Ytdihemmbhddghaa.Pure
