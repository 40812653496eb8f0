/- For every list of transitions and every two numbers the law of ChartValid answers true (no condition beyond the kinds and the reach of the argument). -/
import Derived.Test.YthbbhdadioiefaaQFnExactChartValidx4
namespace Go.Proofs.Ythbbhdadioiefaa.Pure
open Go.RowKit Go.Proofs.Ythbbhdadioiefaa.QFnExactChartValid Go.Proofs.YthbbhdadioiefaaW.PrintWords Go.Proofs.YthbbhdadioiefaaW.PrintLast Go.Proofs.YthbbhdadioiefaaW.PrintMore
set_option linter.unusedVariables false
set_option linter.unusedSimpArgs false

theorem c_ev_det {α : Type} {g : Nat → Option α} {r r' : α} (h : Ev g r) (h' : Ev g r') : r = r' := by
  obtain ⟨K, h⟩ := h
  obtain ⟨K', h'⟩ := h'
  have h1 := h (max K K') (by omega)
  have h2 := h' (max K K') (by omega)
  rw [h1] at h2
  exact Option.some.inj h2
theorem c_w64 {x : Int} (h0 : -9223372036854775808 ≤ x) (h1 : x ≤ 9223372036854775807) : wrap64 x = x := by
  unfold wrap64
  omega
theorem c_succ (i : Nat) (h : i < 9223372036854775807) : wrap64 ((i : Int) + 1) = ((i + 1 : Nat) : Int) := by
  unfold wrap64
  omega
theorem c_take_set {α : Type} (x acc : List α) (v : α) (i : Nat) (hv : x[i]? = some v) (hl : acc.length = x.length) (ht : acc.take i = x.take i) : (acc.set i v).take (i + 1) = x.take (i + 1) := by
  have hi : i < x.length := (List.getElem?_eq_some_iff.1 hv).1
  apply List.ext_getElem?
  intro j
  have hj := congrArg (fun l => l[j]?) ht
  simp only [List.getElem?_take] at hj
  rw [List.getElem?_take, List.getElem?_take]
  by_cases h1 : j < i + 1
  · rw [if_pos h1, if_pos h1]
    by_cases h2 : j < i
    · rw [if_pos h2, if_pos h2] at hj
      rw [List.getElem?_set_ne (by omega)]
      exact hj
    · have : j = i := by omega
      subst this
      rw [List.getElem?_set_self (by omega), hv]
  · rw [if_neg h1, if_neg h1]
theorem c_getD {α : Type} (x : List α) (d : α) (i : Nat) (h : i < x.length) : x[i]? = some (x.getD i d) := by
  rw [List.getD_eq_getElem?_getD, List.getElem?_eq_getElem h]
  rfl
theorem c_if_pos {α : Type} {c : Prop} [Decidable c] {g f : Nat → Option α} {r : α} (h : c) (k : Ev g r) : Ev (fun n => if c then g n else f n) r := Ev.congr (fun _ => if_pos h) k
theorem c_if_neg {α : Type} {c : Prop} [Decidable c] {g f : Nat → Option α} {r : α} (h : ¬ c) (k : Ev f r) : Ev (fun n => if c then g n else f n) r := Ev.congr (fun _ => if_neg h) k
theorem c_bind {α β : Type} {g : Nat → Option α} {f : Nat → α → Option β} (a : α) {r : β} (h : Ev g a) (k : Ev (fun n => f n a) r) : Ev (fun n => (g n).bind (f n)) r := Ev.bind h k
theorem c_bind1 {α β : Type} {g : Option α} {f : Nat → α → Option β} (a : α) {r : β} (h : g = some a) (k : Ev (fun n => f n a) r) : Ev (fun n => g.bind (f n)) r := Ev.congr (fun n => by rw [h]; rfl) k

theorem c_next {α : Type} {g : Nat → Option α} {r : α} (h : Ev (fun k => g (k + 1)) r) : Ev g r := Ev.step (fun _ => rfl) h


def c_cvTransition (p : S93) : S91 := ⟨p.f0, p.f1, p.f2⟩
theorem c_szTransitionS (x : List S93) (n : Nat) (hx : x.length ≤ 9223372036854775807) (hn : n ≤ 1048576) : laws_szTransitionS.f x (n : Int) = some (if (n : Int) - x.length < 0 then -1 else (n : Int) - x.length) := by
  unfold laws_szTransitionS.f
  rw [c_w64 (x := (n : Int) - (x.length : Int)) (by omega) (by omega)]
  split <;> rfl
theorem c_toTransitionS_l (x : List S93) (hn : x.length < 4611686018427387904) : ∀ (d : Nat) (acc : List S91) (i : Nat), acc.length = x.length → i + d = x.length → acc.take i = (x.map c_cvTransition).take i → Ev (fun k => laws_toTransitionS.l0 k x acc (i : Int)) (x.map c_cvTransition)
  | 0, acc, i, hl, hi, ht => by
    have e : acc = x.map c_cvTransition := by
      rw [List.take_of_length_le (by omega), List.take_of_length_le (by rw [List.length_map]; omega)] at ht
      exact ht
    subst e
    refine c_next ?_
    simp only [laws_toTransitionS.l0]
    exact c_if_neg (by omega) (Ev.now _)
  | d + 1, acc, i, hl, hi, ht => by
    refine c_next ?_
    simp only [laws_toTransitionS.l0, laws_toTransition.f]
    rw [c_succ i (by omega), Int.toNat_natCast]
    refine c_if_pos (by omega) (c_if_pos (by omega) (c_bind1 _ rfl (c_if_pos (by omega) ?_)))
    refine c_toTransitionS_l x hn d _ (i + 1) (by rw [List.length_set]; exact hl) (by omega) (c_take_set (x.map c_cvTransition) acc _ i ?_ (by rw [hl, List.length_map]) ht)
    rw [List.getElem?_map, c_getD x z93 i (by omega)]
    simp only [Option.map_some, c_cvTransition, rd_T93, Int.toNat_natCast]
theorem c_toTransitionS_ev (x : List S93) (hn : x.length ≤ 1048576) : Ev (fun k => laws_toTransitionS.f k x) (x.map c_cvTransition) := by
  unfold laws_toTransitionS.f
  refine c_if_pos (by omega) (c_if_pos (by omega) ?_)
  refine c_toTransitionS_l x (by omega) x.length _ 0 (by simp) (by omega) (by simp)
theorem c_eqTransition_same (p : S91) : laws_eqTransition.f p.f0 p.f1 p.f2 p.f0 p.f1 p.f2 = some true := by simp [laws_eqTransition.f]
theorem c_eqTransitionS_l (x : List S91) (hn : x.length < 4611686018427387904) : ∀ (d : Nat) (i : Nat), i + d = x.length → Ev (fun k => laws_eqTransitionS.l0 k x x (i : Int)) true
  | 0, i, hi => by
    refine c_next ?_
    simp only [laws_eqTransitionS.l0]
    exact c_if_neg (by omega) (Ev.now true)
  | d + 1, i, hi => by
    refine c_next ?_
    simp only [laws_eqTransitionS.l0]
    rw [c_succ i (by omega)]
    exact c_if_pos (by omega) (c_if_pos (by omega) (c_if_pos (by omega) (c_bind1 true (c_eqTransition_same _) (c_if_pos rfl (c_eqTransitionS_l x hn d (i + 1) (by omega))))))
theorem c_eqTransitionS_ev (x : List S91) (hn : x.length < 4611686018427387904) : Ev (fun k => laws_eqTransitionS.f k x x) true := by
  unfold laws_eqTransitionS.f
  exact c_if_pos rfl (c_eqTransitionS_l x hn x.length 0 (by omega))

abbrev TT := S91
theorem cv_in (a b c : Int) : impl_in.f a b c = spec_l1In.f a b c := rfl
theorem cv_l1 (a b c : Int) : spec_l1In.f a b c = some (decide (b ≤ a ∧ a ≤ c)) := by
  unfold spec_l1In.f
  by_cases h : a ≥ b
  · rw [if_pos h]
    simp [h]
  · rw [if_neg h]
    simp [h]
theorem cv_same (x : List TT) (a b : Int) (hx : (x.length : Int) ≤ 12) : ∀ (k : Nat) (i : Int), impl_ChartValid.l0 k a b x (x.length : Int) i = spec_ChartValid.l0 k x a b i
  | 0, i => rfl
  | k + 1, i => by
    simp only [impl_ChartValid.l0, spec_ChartValid.l0, cv_in]
    by_cases c : i < (x.length : Int)
    · rw [if_pos c, if_pos c, if_pos c, cv_same x a b hx k]
    · rw [if_neg c, if_neg c, decide_eq_true hx]
theorem cv_some (x : List TT) (a b : Int) (hx : x.length ≤ 1048576) (ha : 0 ≤ a) : ∀ (d i : Nat), i + d = x.length → ∃ r : Bool, ((x.length : Int) > 12 → r = false) ∧ Ev (fun k => spec_ChartValid.l0 k x a b (i : Int)) r
  | 0, i, h => by
    refine ⟨decide ((x.length : Int) ≤ 12), fun h' => decide_eq_false (by omega), c_next ?_⟩
    simp only [spec_ChartValid.l0]
    exact c_if_neg (by omega) (Ev.now _)
  | d + 1, i, h => by
    obtain ⟨r, hr, he⟩ := cv_some x a b hx ha d (i + 1) (by omega)
    have go : ∀ r, Ev (fun k => (some (decide (1 ≤ (rd_T91 x (i : Int)).f0 ∧ (rd_T91 x (i : Int)).f0 ≤ wrap64 (shl .i64 1 a - 1)))).bind fun t104 => (if t104 = true then ((some (decide (1 ≤ (rd_T91 x (i : Int)).f1 ∧ (rd_T91 x (i : Int)).f1 ≤ wrap64 (shl .i64 1 a - 1)))).bind fun t106 => (if t106 = true then ((some (decide (0 ≤ (rd_T91 x (i : Int)).f2 ∧ (rd_T91 x (i : Int)).f2 ≤ wrap64 (b - 1)))).bind fun t108 => (if t108 = true then (spec_ChartValid.l0 k x a b ((i + 1 : Nat) : Int)) else (some false))) else (some false))) else (some false))) r → Ev (fun k => spec_ChartValid.l0 k x a b (i : Int)) r := by
      intro r hr
      refine c_next ?_
      simp only [spec_ChartValid.l0, cv_l1]
      rw [c_succ i (by omega)]
      exact c_if_pos (by omega) (c_if_pos (by omega) (c_if_pos ha hr))
    by_cases g1 : 1 ≤ (rd_T91 x (i : Int)).f0 ∧ (rd_T91 x (i : Int)).f0 ≤ wrap64 (shl .i64 1 a - 1)
    · by_cases g2 : 1 ≤ (rd_T91 x (i : Int)).f1 ∧ (rd_T91 x (i : Int)).f1 ≤ wrap64 (shl .i64 1 a - 1)
      · by_cases g3 : 0 ≤ (rd_T91 x (i : Int)).f2 ∧ (rd_T91 x (i : Int)).f2 ≤ wrap64 (b - 1)
        · exact ⟨r, hr, go r (c_bind1 true (congrArg some (decide_eq_true g1)) (c_if_pos rfl (c_bind1 true (congrArg some (decide_eq_true g2)) (c_if_pos rfl (c_bind1 true (congrArg some (decide_eq_true g3)) (c_if_pos rfl he))))))⟩
        · exact ⟨false, fun _ => rfl, go false (c_bind1 true (congrArg some (decide_eq_true g1)) (c_if_pos rfl (c_bind1 true (congrArg some (decide_eq_true g2)) (c_if_pos rfl (c_bind1 false (congrArg some (decide_eq_false g3)) (c_if_neg (by simp) (Ev.now false)))))))⟩
      · exact ⟨false, fun _ => rfl, go false (c_bind1 true (congrArg some (decide_eq_true g1)) (c_if_pos rfl (c_bind1 false (congrArg some (decide_eq_false g2)) (c_if_neg (by simp) (Ev.now false)))))⟩
    · exact ⟨false, fun _ => rfl, go false (c_bind1 false (congrArg some (decide_eq_false g1)) (c_if_neg (by simp) (Ev.now false)))⟩
theorem cv_ev (x : List TT) (a b : Int) (hx : x.length ≤ 1048576) : ∃ r : Bool, Ev (fun k => spec_ChartValid.f k x a b) r ∧ Ev (fun k => impl_ChartValid.f k x a b) r := by
  unfold spec_ChartValid.f impl_ChartValid.f
  simp only [cv_in, cv_l1]
  have no : Ev (fun k => spec_ChartValid.j0 k x a b true) false := c_next (by simp only [spec_ChartValid.j0]; exact c_if_pos trivial (Ev.now false))
  have no' : Ev (fun k => impl_ChartValid.j0 k x a b true) false := c_next (by simp only [impl_ChartValid.j0]; exact c_if_pos trivial (Ev.now false))
  by_cases g1 : 1 ≤ a ∧ a ≤ 8
  · by_cases g2 : 0 ≤ b ∧ b ≤ 16
    · obtain ⟨r, hr, he⟩ := cv_some x a b hx (by omega) x.length 0 (by omega)
      refine ⟨r, c_bind1 true (congrArg some (decide_eq_true g1)) (c_if_pos rfl (c_bind1 true (congrArg some (decide_eq_true g2)) (c_next ?_))), ?_⟩
      · simp only [spec_ChartValid.j0]
        exact c_if_neg (by simp) he
      · by_cases c : (x.length : Int) > 12
        · rw [hr c]
          exact c_if_pos c no'
        · refine c_if_neg c (c_bind1 true (congrArg some (decide_eq_true g1)) (c_if_pos rfl (c_bind1 true (congrArg some (decide_eq_true g2)) (c_next ?_))))
          simp only [impl_ChartValid.j0]
          refine c_if_neg (by simp) (Ev.congr (fun k => cv_same x a b (by omega) k 0) he)
    · refine ⟨false, c_bind1 true (congrArg some (decide_eq_true g1)) (c_if_pos rfl (c_bind1 false (congrArg some (decide_eq_false g2)) no)), ?_⟩
      by_cases c : (x.length : Int) > 12
      · exact c_if_pos c no'
      · exact c_if_neg c (c_bind1 true (congrArg some (decide_eq_true g1)) (c_if_pos rfl (c_bind1 false (congrArg some (decide_eq_false g2)) no')))
  · refine ⟨false, c_bind1 false (congrArg some (decide_eq_false g1)) (c_if_neg (by simp) no), ?_⟩
    by_cases c : (x.length : Int) > 12
    · exact c_if_pos c no'
    · exact c_if_neg c (c_bind1 false (congrArg some (decide_eq_false g1)) (c_if_neg (by simp) no'))
theorem FnExactChartValid : ∀ (l0 : List S93) (a1 : Int) (a2 : Int), (l0.length ≤ maxLen ∧ ∀ y2 ∈ l0, ((Lit.int .i64 y2.f0).wf = true) ∧ ((Lit.int .i64 y2.f1).wf = true) ∧ ((Lit.int .i64 y2.f2).wf = true)) → (Lit.int .i64 a1).wf = true → (Lit.int .i64 a2).wf = true → ∃ k, laws_FnExactChartValid.f k l0 a1 a2 = some true := by
  intro x a b hx ha hb
  refine Ev.rounds (r := true) ?_
  unfold laws_FnExactChartValid.f
  have hm := hx.1
  simp only [maxLen] at hm
  have hz := c_szTransitionS x 1048576 (by omega) (by omega)
  by_cases cx : ((1048576 : Nat) : Int) - x.length < 0
  · rw [if_pos cx] at hz
    exact c_bind1 _ hz (c_if_pos (by omega) (Ev.now true))
  rw [if_neg cx] at hz
  obtain ⟨r, hs, hi⟩ := cv_ev (x.map c_cvTransition) a b (by rw [List.length_map]; omega)
  refine c_bind1 _ (hz) ?_
  refine c_if_neg (by omega) ?_
  refine c_bind _ (c_toTransitionS_ev x (by omega)) ?_
  refine c_bind _ (hs) ?_
  refine c_bind _ (c_toTransitionS_ev x (by omega)) ?_
  refine c_bind _ (hi) ?_
  refine c_if_neg (by simp) ?_
  refine c_bind _ (c_toTransitionS_ev x (by omega)) ?_
  refine c_bind _ (c_eqTransitionS_ev (x.map c_cvTransition) (by first | omega | (rw [List.length_map]; omega))) ?_
  refine c_if_pos rfl ?_
  exact Ev.now true

end Go.Proofs.Ythbbhdadioiefaa.Pure
