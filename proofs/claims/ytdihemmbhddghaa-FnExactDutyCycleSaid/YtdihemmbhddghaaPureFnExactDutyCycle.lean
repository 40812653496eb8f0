/- For every trace of bools the law of DutyCycle answers true (no condition beyond the reach of the argument). -/
import Derived.Test.YtdihemmbhddghaaPFnExactDutyCyclex1
namespace Go.Proofs.Ytdihemmbhddghaa.Pure
open Go.RowKit Go.Proofs.Ytdihemmbhddghaa.PFnExactDutyCycle Go.Proofs.YtdihemmbhddghaaW.PrintWords Go.Proofs.YtdihemmbhddghaaW.PrintLast Go.Proofs.YtdihemmbhddghaaW.PrintMore
set_option linter.unusedVariables false
set_option linter.unusedSimpArgs false

theorem c_ev_det {α : Type} {g : Nat → Option α} {r r' : α} (h : Ev g r) (h' : Ev g r') : r = r' := by
  obtain ⟨K, h⟩ := h
  obtain ⟨K', h'⟩ := h'
  have h1 := h (max K K') (by omega)
  have h2 := h' (max K K') (by omega)
  rw [h1] at h2
  exact Option.some.inj h2
theorem c_w64 {x : Int} (h0 : -9223372036854775808 ≤ x) (h1 : x ≤ 9223372036854775807) : wrap64 x = x := by
  unfold wrap64
  omega
theorem c_succ (i : Nat) (h : i < 9223372036854775807) : wrap64 ((i : Int) + 1) = ((i + 1 : Nat) : Int) := by
  unfold wrap64
  omega
theorem c_take_set {α : Type} (x acc : List α) (v : α) (i : Nat) (hv : x[i]? = some v) (hl : acc.length = x.length) (ht : acc.take i = x.take i) : (acc.set i v).take (i + 1) = x.take (i + 1) := by
  have hi : i < x.length := (List.getElem?_eq_some_iff.1 hv).1
  apply List.ext_getElem?
  intro j
  have hj := congrArg (fun l => l[j]?) ht
  simp only [List.getElem?_take] at hj
  rw [List.getElem?_take, List.getElem?_take]
  by_cases h1 : j < i + 1
  · rw [if_pos h1, if_pos h1]
    by_cases h2 : j < i
    · rw [if_pos h2, if_pos h2] at hj
      rw [List.getElem?_set_ne (by omega)]
      exact hj
    · have : j = i := by omega
      subst this
      rw [List.getElem?_set_self (by omega), hv]
  · rw [if_neg h1, if_neg h1]
theorem c_getD {α : Type} (x : List α) (d : α) (i : Nat) (h : i < x.length) : x[i]? = some (x.getD i d) := by
  rw [List.getD_eq_getElem?_getD, List.getElem?_eq_getElem h]
  rfl
theorem c_if_pos {α : Type} {c : Prop} [Decidable c] {g f : Nat → Option α} {r : α} (h : c) (k : Ev g r) : Ev (fun n => if c then g n else f n) r := Ev.congr (fun _ => if_pos h) k
theorem c_if_neg {α : Type} {c : Prop} [Decidable c] {g f : Nat → Option α} {r : α} (h : ¬ c) (k : Ev f r) : Ev (fun n => if c then g n else f n) r := Ev.congr (fun _ => if_neg h) k
theorem c_bind {α β : Type} {g : Nat → Option α} {f : Nat → α → Option β} (a : α) {r : β} (h : Ev g a) (k : Ev (fun n => f n a) r) : Ev (fun n => (g n).bind (f n)) r := Ev.bind h k
theorem c_bind1 {α β : Type} {g : Option α} {f : Nat → α → Option β} (a : α) {r : β} (h : g = some a) (k : Ev (fun n => f n a) r) : Ev (fun n => g.bind (f n)) r := Ev.congr (fun n => by rw [h]; rfl) k


theorem c_toBoolS_l (x : List Bool) (hn : x.length < 4611686018427387904) : ∀ (d : Nat) (acc : List Bool) (i : Nat), acc.length = x.length → i + d = x.length → acc.take i = x.take i → Ev (fun k => laws_toBoolS.l0 k x acc (i : Int)) x
  | 0, acc, i, hl, hi, ht => by
    have e : acc = x := by
      rw [List.take_of_length_le (by omega), List.take_of_length_le (by omega)] at ht
      exact ht
    subst e
    exact Ev.step (f := fun _ => some acc) (fun k => by simp only [laws_toBoolS.l0]; rw [if_neg (by omega)]) (Ev.now _)
  | d + 1, acc, i, hl, hi, ht => by
    refine Ev.step (f := fun k => laws_toBoolS.l0 k x (acc.set i (x.getD i false)) ((i + 1 : Nat) : Int)) (fun k => ?_) (c_toBoolS_l x hn d _ (i + 1) (by rw [List.length_set]; exact hl) (by omega) (c_take_set x acc _ i (c_getD x false i (by omega)) hl ht))
    simp only [laws_toBoolS.l0]
    rw [if_pos (by omega), if_pos (by omega), if_pos (by omega), c_succ i (by omega)]
    simp only [rdOf, Int.toNat_natCast]
theorem c_toBoolS_ev (x : List Bool) (hn : x.length ≤ 1048576) : Ev (fun k => laws_toBoolS.f k x) x := by
  unfold laws_toBoolS.f
  refine c_if_pos (by omega) (c_if_pos (by omega) ?_)
  refine c_toBoolS_l x (by omega) x.length _ 0 (by simp) (by omega) (by simp)


theorem c_eqBoolS_l (x : List Bool) (hn : x.length < 4611686018427387904) : ∀ (d : Nat) (i : Nat), i + d = x.length → Ev (fun k => laws_eqBoolS.l0 k x x (i : Int)) true
  | 0, i, hi => Ev.step (f := fun _ => some true) (fun k => by simp only [laws_eqBoolS.l0]; rw [if_neg (by omega)]) (Ev.now _)
  | d + 1, i, hi => by
    refine Ev.step (f := fun k => laws_eqBoolS.l0 k x x ((i + 1 : Nat) : Int)) (fun k => ?_) (c_eqBoolS_l x hn d (i + 1) (by omega))
    simp only [laws_eqBoolS.l0]
    rw [if_pos (by omega), if_pos (by omega), if_pos (by omega), if_neg (by simp), c_succ i (by omega)]
theorem c_eqBoolS_ev (x : List Bool) (hn : x.length < 4611686018427387904) : Ev (fun k => laws_eqBoolS.f k x x) true := by
  unfold laws_eqBoolS.f
  exact c_if_pos rfl (c_eqBoolS_l x hn x.length 0 (by omega))

theorem du_same (l : List Bool) (h0 : ¬ (l.length : Int) = 0) : ∀ k v i, impl_DutyCycle.l0 k l v l (l.length : Int) i = spec_DutyCycle.l0 k l v i
  | 0, v, i => rfl
  | k + 1, v, i => by
    by_cases c : i < (l.length : Int)
    · by_cases c0 : 0 ≤ i
      · simp only [impl_DutyCycle.l0, spec_DutyCycle.l0, du_same l h0 k, if_pos c, if_pos c0]
      · simp only [impl_DutyCycle.l0, spec_DutyCycle.l0, if_pos c, if_neg c0]
    · simp only [impl_DutyCycle.l0, spec_DutyCycle.l0, if_neg c, if_neg h0]
theorem du_ends (l : List Bool) (hn : l.length < 4611686018427387904) (h0 : ¬ (l.length : Int) = 0) : ∀ (d : Nat) (v : Int) (i : Nat), i + d = l.length → ∃ r, Ev (fun k => spec_DutyCycle.l0 k l v (i : Int)) r
  | 0, v, i, h => ⟨_, Ev.step (fun k => by simp only [spec_DutyCycle.l0]; rw [if_neg (by omega), if_neg h0]) (Ev.now _)⟩
  | d + 1, v, i, h => by
    by_cases c : rdOf false l (i : Int) = true
    · obtain ⟨r, hr⟩ := du_ends l hn h0 d (wrap64 (v + 1)) (i + 1) (by omega)
      exact ⟨r, Ev.step (fun k => by simp only [spec_DutyCycle.l0]; rw [if_pos (by omega), if_pos (by omega), if_pos c, c_succ i (by omega)]) hr⟩
    · obtain ⟨r, hr⟩ := du_ends l hn h0 d v (i + 1) (by omega)
      exact ⟨r, Ev.step (fun k => by simp only [spec_DutyCycle.l0]; rw [if_pos (by omega), if_pos (by omega), if_neg c, c_succ i (by omega)]) hr⟩
theorem FnExactDutyCycle : ∀ (l0 : List Bool), (l0.length ≤ maxLen ∧ ∀ y2 ∈ l0, True) → ∃ k, laws_FnExactDutyCycle.f k l0 = some true := by
  intro l hl
  refine Ev.rounds (r := true) ?_
  unfold laws_FnExactDutyCycle.f
  by_cases c : (l.length : Int) > 1048576
  · exact c_if_pos c (Ev.now true)
  refine c_if_neg c ?_
  have ht := c_toBoolS_ev l (by omega)
  obtain ⟨r, hr, hi⟩ : ∃ r, Ev (fun k => spec_DutyCycle.f k l) r ∧ Ev (fun k => impl_DutyCycle.f k l) r := by
    unfold spec_DutyCycle.f impl_DutyCycle.f
    by_cases c2 : (l.length : Int) > 200
    · exact ⟨-1, c_if_pos c2 (Ev.now _), c_if_pos c2 (Ev.now _)⟩
    · by_cases h0 : (l.length : Int) = 0
      · refine ⟨0, c_if_neg c2 ?_, c_if_neg c2 (c_if_pos h0 (Ev.now _))⟩
        exact Ev.step (fun k => by simp only [spec_DutyCycle.l0]; rw [if_neg (by omega), if_pos h0]) (Ev.now _)
      · obtain ⟨r, hr⟩ := du_ends l (by omega) h0 l.length 0 0 (by omega)
        exact ⟨r, c_if_neg c2 hr, c_if_neg c2 (c_if_neg h0 (Ev.congr (fun k => du_same l h0 k 0 0) hr))⟩
  exact c_bind l ht (c_bind r hr (c_bind l ht (c_bind r hi (c_if_pos rfl (c_bind l ht (c_bind true (c_eqBoolS_ev l (by omega)) (c_if_pos rfl (Ev.now true))))))))

end Go.Proofs.Ytdihemmbhddghaa.Pure
