/- For every mode, command and two flags the law of ModeStep answers true (no condition beyond the kinds of the arguments). -/
import Derived.Test.YtdihemmbhddghaaQFnExactModeStepx2
namespace Go.Proofs.Ytdihemmbhddghaa.Pure
open Go.RowKit Go.Proofs.Ytdihemmbhddghaa.QFnExactModeStep Go.Proofs.YtdihemmbhddghaaW.PrintWords Go.Proofs.YtdihemmbhddghaaW.PrintLast Go.Proofs.YtdihemmbhddghaaW.PrintMore
set_option linter.unusedVariables false
set_option linter.unusedSimpArgs false

theorem c_ev_det {α : Type} {g : Nat → Option α} {r r' : α} (h : Ev g r) (h' : Ev g r') : r = r' := by
  obtain ⟨K, h⟩ := h
  obtain ⟨K', h'⟩ := h'
  have h1 := h (max K K') (by omega)
  have h2 := h' (max K K') (by omega)
  rw [h1] at h2
  exact Option.some.inj h2
theorem c_w64 {x : Int} (h0 : -9223372036854775808 ≤ x) (h1 : x ≤ 9223372036854775807) : wrap64 x = x := by
  unfold wrap64
  omega
theorem c_succ (i : Nat) (h : i < 9223372036854775807) : wrap64 ((i : Int) + 1) = ((i + 1 : Nat) : Int) := by
  unfold wrap64
  omega
theorem c_take_set {α : Type} (x acc : List α) (v : α) (i : Nat) (hv : x[i]? = some v) (hl : acc.length = x.length) (ht : acc.take i = x.take i) : (acc.set i v).take (i + 1) = x.take (i + 1) := by
  have hi : i < x.length := (List.getElem?_eq_some_iff.1 hv).1
  apply List.ext_getElem?
  intro j
  have hj := congrArg (fun l => l[j]?) ht
  simp only [List.getElem?_take] at hj
  rw [List.getElem?_take, List.getElem?_take]
  by_cases h1 : j < i + 1
  · rw [if_pos h1, if_pos h1]
    by_cases h2 : j < i
    · rw [if_pos h2, if_pos h2] at hj
      rw [List.getElem?_set_ne (by omega)]
      exact hj
    · have : j = i := by omega
      subst this
      rw [List.getElem?_set_self (by omega), hv]
  · rw [if_neg h1, if_neg h1]
theorem c_getD {α : Type} (x : List α) (d : α) (i : Nat) (h : i < x.length) : x[i]? = some (x.getD i d) := by
  rw [List.getD_eq_getElem?_getD, List.getElem?_eq_getElem h]
  rfl
theorem c_if_pos {α : Type} {c : Prop} [Decidable c] {g f : Nat → Option α} {r : α} (h : c) (k : Ev g r) : Ev (fun n => if c then g n else f n) r := Ev.congr (fun _ => if_pos h) k
theorem c_if_neg {α : Type} {c : Prop} [Decidable c] {g f : Nat → Option α} {r : α} (h : ¬ c) (k : Ev f r) : Ev (fun n => if c then g n else f n) r := Ev.congr (fun _ => if_neg h) k
theorem c_bind {α β : Type} {g : Nat → Option α} {f : Nat → α → Option β} (a : α) {r : β} (h : Ev g a) (k : Ev (fun n => f n a) r) : Ev (fun n => (g n).bind (f n)) r := Ev.bind h k
theorem c_bind1 {α β : Type} {g : Option α} {f : Nat → α → Option β} (a : α) {r : β} (h : g = some a) (k : Ev (fun n => f n a) r) : Ev (fun n => g.bind (f n)) r := Ev.congr (fun n => by rw [h]; rfl) k

theorem c_next {α : Type} {g : Nat → Option α} {r : α} (h : Ev (fun k => g (k + 1)) r) : Ev g r := Ev.step (fun _ => rfl) h

theorem ms_range (a b : Int) (c d : Bool) (h : ms_ok a b = true) : Ev (fun k => spec_ModeStep.f k a b c d) (ms_out a b c d) := by
  unfold ms_ok at h
  rw [Bool.and_eq_true, decide_eq_true_eq, decide_eq_true_eq] at h
  have go : ∀ k, spec_ModeStep.f (k + 9) a b c d = some (ms_out a b c d) := by
    intro k
    rcases (by omega : a = 0 ∨ a = 1 ∨ a = 2 ∨ a = 3 ∨ a = 4 ∨ a = 5) with rfl | rfl | rfl | rfl | rfl | rfl <;>
      rcases (by omega : b = 0 ∨ b = 1 ∨ b = 2 ∨ b = 3 ∨ b = 4) with rfl | rfl | rfl | rfl | rfl <;> cases c <;> cases d <;> rfl
  exact Ev.congr (fun _ => rfl) ⟨9, fun k hk => by
    obtain ⟨n, rfl⟩ : ∃ n, k = n + 9 := ⟨k - 9, by omega⟩
    exact go n⟩
theorem ms_norange (a b : Int) (c d : Bool) (h : ms_ok a b = false) : Ev (fun k => spec_ModeStep.f k a b c d) (-1) := by
  have l1 : ∀ a b c : Int, spec_l1In.f a b c = some (decide (b ≤ a ∧ a ≤ c)) := by
    intro a b c
    unfold spec_l1In.f
    by_cases h : a ≥ b
    · rw [if_pos h]
      simp [h]
    · rw [if_neg h]
      simp [h]
  have j : Ev (fun k => spec_ModeStep.j0 k a b c d true) (-1) := c_next (by simp only [spec_ModeStep.j0]; exact c_if_pos trivial (Ev.now (-1)))
  unfold ms_ok at h
  unfold spec_ModeStep.f
  simp only [l1]
  by_cases c1 : 0 ≤ a ∧ a ≤ 5
  · refine c_bind1 true (congrArg some (decide_eq_true c1)) (c_if_pos rfl ?_)
    rw [decide_eq_true c1, Bool.true_and] at h
    exact c_bind1 false (congrArg some h) j
  · exact c_bind1 false (congrArg some (decide_eq_false c1)) (c_if_neg (by simp) j)
theorem ms_spec (a b : Int) (c d : Bool) : Ev (fun k => spec_ModeStep.f k a b c d) (if ms_ok a b = true then ms_out a b c d else -1) := by
  cases h : ms_ok a b with
  | true => exact ms_range a b c d h
  | false => exact ms_norange a b c d h
theorem ms_in6 (a b : Int) (c d : Bool) (h : ms_ok a b = true) : 0 ≤ ms_out a b c d ∧ ms_out a b c d ≤ 5 := by
  unfold ms_ok at h
  rw [Bool.and_eq_true, decide_eq_true_eq, decide_eq_true_eq] at h
  rcases (by omega : a = 0 ∨ a = 1 ∨ a = 2 ∨ a = 3 ∨ a = 4 ∨ a = 5) with rfl | rfl | rfl | rfl | rfl | rfl <;>
    rcases (by omega : b = 0 ∨ b = 1 ∨ b = 2 ∨ b = 3 ∨ b = 4) with rfl | rfl | rfl | rfl | rfl <;> cases c <;> cases d <;> decide
theorem FnExactModeStep : ∀ (a0 : Int) (a1 : Int) (a2 : Bool) (a3 : Bool), (Lit.int .i64 a0).wf = true → (Lit.int .i64 a1).wf = true → ∃ k, laws_FnExactModeStep.f k a0 a1 a2 a3 = some true := by
  intro a b c d ha hb
  refine Ev.rounds (r := true) ?_
  unfold laws_FnExactModeStep.f
  exact c_bind _ (ms_spec a b c d) (c_bind1 _ rfl (c_if_pos rfl (Ev.now true)))

end Go.Proofs.Ytdihemmbhddghaa.Pure
