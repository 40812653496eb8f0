/- For every list of alarms the law of AlarmsValid answers true (no condition beyond the kinds and the reach of the argument). -/
import Derived.Test.YthbbhdadioiefaaQFnExactAlarmsValidx2
namespace Go.Proofs.Ythbbhdadioiefaa.Pure
open Go.RowKit Go.Proofs.Ythbbhdadioiefaa.QFnExactAlarmsValid Go.Proofs.YthbbhdadioiefaaW.PrintWords Go.Proofs.YthbbhdadioiefaaW.PrintLast Go.Proofs.YthbbhdadioiefaaW.PrintMore
set_option linter.unusedVariables false
set_option linter.unusedSimpArgs false

theorem c_ev_det {α : Type} {g : Nat → Option α} {r r' : α} (h : Ev g r) (h' : Ev g r') : r = r' := by
  obtain ⟨K, h⟩ := h
  obtain ⟨K', h'⟩ := h'
  have h1 := h (max K K') (by omega)
  have h2 := h' (max K K') (by omega)
  rw [h1] at h2
  exact Option.some.inj h2
theorem c_w64 {x : Int} (h0 : -9223372036854775808 ≤ x) (h1 : x ≤ 9223372036854775807) : wrap64 x = x := by
  unfold wrap64
  omega
theorem c_succ (i : Nat) (h : i < 9223372036854775807) : wrap64 ((i : Int) + 1) = ((i + 1 : Nat) : Int) := by
  unfold wrap64
  omega
theorem c_take_set {α : Type} (x acc : List α) (v : α) (i : Nat) (hv : x[i]? = some v) (hl : acc.length = x.length) (ht : acc.take i = x.take i) : (acc.set i v).take (i + 1) = x.take (i + 1) := by
  have hi : i < x.length := (List.getElem?_eq_some_iff.1 hv).1
  apply List.ext_getElem?
  intro j
  have hj := congrArg (fun l => l[j]?) ht
  simp only [List.getElem?_take] at hj
  rw [List.getElem?_take, List.getElem?_take]
  by_cases h1 : j < i + 1
  · rw [if_pos h1, if_pos h1]
    by_cases h2 : j < i
    · rw [if_pos h2, if_pos h2] at hj
      rw [List.getElem?_set_ne (by omega)]
      exact hj
    · have : j = i := by omega
      subst this
      rw [List.getElem?_set_self (by omega), hv]
  · rw [if_neg h1, if_neg h1]
theorem c_getD {α : Type} (x : List α) (d : α) (i : Nat) (h : i < x.length) : x[i]? = some (x.getD i d) := by
  rw [List.getD_eq_getElem?_getD, List.getElem?_eq_getElem h]
  rfl
theorem c_if_pos {α : Type} {c : Prop} [Decidable c] {g f : Nat → Option α} {r : α} (h : c) (k : Ev g r) : Ev (fun n => if c then g n else f n) r := Ev.congr (fun _ => if_pos h) k
theorem c_if_neg {α : Type} {c : Prop} [Decidable c] {g f : Nat → Option α} {r : α} (h : ¬ c) (k : Ev f r) : Ev (fun n => if c then g n else f n) r := Ev.congr (fun _ => if_neg h) k
theorem c_bind {α β : Type} {g : Nat → Option α} {f : Nat → α → Option β} (a : α) {r : β} (h : Ev g a) (k : Ev (fun n => f n a) r) : Ev (fun n => (g n).bind (f n)) r := Ev.bind h k
theorem c_bind1 {α β : Type} {g : Option α} {f : Nat → α → Option β} (a : α) {r : β} (h : g = some a) (k : Ev (fun n => f n a) r) : Ev (fun n => g.bind (f n)) r := Ev.congr (fun n => by rw [h]; rfl) k

theorem c_next {α : Type} {g : Nat → Option α} {r : α} (h : Ev (fun k => g (k + 1)) r) : Ev g r := Ev.step (fun _ => rfl) h


def c_cvAlarm (p : S104) : S102 := ⟨p.f0, p.f1, p.f2⟩
theorem c_szAlarmS (x : List S104) (n : Nat) (hx : x.length ≤ 9223372036854775807) (hn : n ≤ 1048576) : laws_szAlarmS.f x (n : Int) = some (if (n : Int) - x.length < 0 then -1 else (n : Int) - x.length) := by
  unfold laws_szAlarmS.f
  rw [c_w64 (x := (n : Int) - (x.length : Int)) (by omega) (by omega)]
  split <;> rfl
theorem c_toAlarmS_l (x : List S104) (hn : x.length < 4611686018427387904) : ∀ (d : Nat) (acc : List S102) (i : Nat), acc.length = x.length → i + d = x.length → acc.take i = (x.map c_cvAlarm).take i → Ev (fun k => laws_toAlarmS.l0 k x acc (i : Int)) (x.map c_cvAlarm)
  | 0, acc, i, hl, hi, ht => by
    have e : acc = x.map c_cvAlarm := by
      rw [List.take_of_length_le (by omega), List.take_of_length_le (by rw [List.length_map]; omega)] at ht
      exact ht
    subst e
    refine c_next ?_
    simp only [laws_toAlarmS.l0]
    exact c_if_neg (by omega) (Ev.now _)
  | d + 1, acc, i, hl, hi, ht => by
    refine c_next ?_
    simp only [laws_toAlarmS.l0, laws_toAlarm.f]
    rw [c_succ i (by omega), Int.toNat_natCast]
    refine c_if_pos (by omega) (c_if_pos (by omega) (c_bind1 _ rfl (c_if_pos (by omega) ?_)))
    refine c_toAlarmS_l x hn d _ (i + 1) (by rw [List.length_set]; exact hl) (by omega) (c_take_set (x.map c_cvAlarm) acc _ i ?_ (by rw [hl, List.length_map]) ht)
    rw [List.getElem?_map, c_getD x z104 i (by omega)]
    simp only [Option.map_some, c_cvAlarm, rd_T104, Int.toNat_natCast]
theorem c_toAlarmS_ev (x : List S104) (hn : x.length ≤ 1048576) : Ev (fun k => laws_toAlarmS.f k x) (x.map c_cvAlarm) := by
  unfold laws_toAlarmS.f
  refine c_if_pos (by omega) (c_if_pos (by omega) ?_)
  refine c_toAlarmS_l x (by omega) x.length _ 0 (by simp) (by omega) (by simp)
theorem c_eqAlarm_same (p : S102) : laws_eqAlarm.f p.f0 p.f1 p.f2 p.f0 p.f1 p.f2 = some true := by simp [laws_eqAlarm.f]
theorem c_eqAlarmS_l (x : List S102) (hn : x.length < 4611686018427387904) : ∀ (d : Nat) (i : Nat), i + d = x.length → Ev (fun k => laws_eqAlarmS.l0 k x x (i : Int)) true
  | 0, i, hi => by
    refine c_next ?_
    simp only [laws_eqAlarmS.l0]
    exact c_if_neg (by omega) (Ev.now true)
  | d + 1, i, hi => by
    refine c_next ?_
    simp only [laws_eqAlarmS.l0]
    rw [c_succ i (by omega)]
    exact c_if_pos (by omega) (c_if_pos (by omega) (c_if_pos (by omega) (c_bind1 true (c_eqAlarm_same _) (c_if_pos rfl (c_eqAlarmS_l x hn d (i + 1) (by omega))))))
theorem c_eqAlarmS_ev (x : List S102) (hn : x.length < 4611686018427387904) : Ev (fun k => laws_eqAlarmS.f k x x) true := by
  unfold laws_eqAlarmS.f
  exact c_if_pos rfl (c_eqAlarmS_l x hn x.length 0 (by omega))

abbrev AVS := S102
theorem av_l1in (a b c : Int) : spec_l1In.f a b c = some (decide (b ≤ a ∧ a ≤ c)) := by
  unfold spec_l1In.f
  by_cases h : a ≥ b
  · rw [if_pos h]
    simp [h]
  · rw [if_neg h]
    simp [h]
theorem av_at (x : List AVS) (i : Nat) (hi : i < x.length) : x.drop i = rd_T102 x (i : Int) :: x.drop (i + 1) := by
  rw [List.drop_eq_getElem_cons hi]
  simp only [rd_T102, Int.toNat_natCast]
  rw [List.getD_eq_getElem?_getD, List.getElem?_eq_getElem hi]
  rfl
theorem av_l0 (x : List AVS) (hx : x.length ≤ 1048576) : ∀ (d i : Nat), i + d = x.length → Ev (fun k => spec_AlarmsValid.l0 k x (i : Int)) (decide ((x.length : Int) ≤ 20) && !((x.drop i).any av_p))
  | 0, i, h => by
    refine c_next ?_
    simp only [spec_AlarmsValid.l0]
    rw [List.drop_of_length_le (by omega)]
    refine c_if_neg (by omega) ?_
    simp only [List.any_nil, Bool.not_false, Bool.and_true]
    exact Ev.now _
  | d + 1, i, h => by
    have ih := av_l0 x hx d (i + 1) (by omega)
    refine c_next ?_
    simp only [spec_AlarmsValid.l0]
    rw [c_succ i (by omega), av_at x i (by omega), List.any_cons]
    refine c_if_pos (by omega) (c_if_pos (by omega) ?_)
    generalize rd_T102 x (i : Int) = y
    simp only [av_l1in]
    by_cases c1 : 0 ≤ y.f0 ∧ y.f0 ≤ 99
    · refine c_bind1 true (congrArg some (decide_eq_true c1)) (c_if_pos rfl ?_)
      by_cases c2 : 0 ≤ y.f1 ∧ y.f1 ≤ 3
      · refine c_bind1 true (congrArg some (decide_eq_true c2)) (c_if_pos rfl ?_)
        by_cases c3 : y.f2 < 0
        · have e : av_p y = true := by simp [av_p, c3]
          rw [e]
          simp only [Bool.true_or, Bool.not_true, Bool.and_false]
          exact c_if_pos c3 (Ev.now false)
        · have e : av_p y = false := by simp [av_p, c1, c2, c3]
          rw [e, Bool.false_or]
          exact c_if_neg c3 ih
      · have e : av_p y = true := by simp [av_p, c2]
        rw [e]
        simp only [Bool.true_or, Bool.not_true, Bool.and_false]
        exact c_bind1 false (congrArg some (decide_eq_false c2)) (c_if_neg (by simp) (Ev.now false))
    · have e : av_p y = true := by simp [av_p, c1]
      rw [e]
      simp only [Bool.true_or, Bool.not_true, Bool.and_false]
      exact c_bind1 false (congrArg some (decide_eq_false c1)) (c_if_neg (by simp) (Ev.now false))
theorem FnExactAlarmsValid : ∀ (l0 : List S104), (l0.length ≤ maxLen ∧ ∀ y2 ∈ l0, ((Lit.int .i64 y2.f0).wf = true) ∧ ((Lit.int .i64 y2.f1).wf = true) ∧ ((Lit.int .i64 y2.f2).wf = true)) → ∃ k, laws_FnExactAlarmsValid.f k l0 = some true := by
  intro x hx
  refine Ev.rounds (r := true) ?_
  unfold laws_FnExactAlarmsValid.f
  have hm := hx.1
  simp only [maxLen] at hm
  have hz := c_szAlarmS x 1048576 (by omega) (by omega)
  by_cases cx : ((1048576 : Nat) : Int) - x.length < 0
  · rw [if_pos cx] at hz
    exact c_bind1 _ hz (c_if_pos (by omega) (Ev.now true))
  rw [if_neg cx] at hz
  have hs := av_l0 (x.map c_cvAlarm) (by rw [List.length_map]; omega) (x.map c_cvAlarm).length 0 (by omega)
  have hi : impl_AlarmsValid.f (x.map c_cvAlarm) = some (decide (((x.map c_cvAlarm).length : Int) ≤ 20) && !(((x.map c_cvAlarm).drop 0).any av_p)) := rfl
  generalize (decide (((x.map c_cvAlarm).length : Int) ≤ 20) && !(((x.map c_cvAlarm).drop 0).any av_p)) = r at hs hi
  refine c_bind1 _ (hz) ?_
  refine c_if_neg (by omega) ?_
  refine c_bind _ (c_toAlarmS_ev x (by omega)) ?_
  refine c_bind _ (hs) ?_
  refine c_bind _ (c_toAlarmS_ev x (by omega)) ?_
  refine c_bind1 _ (hi) ?_
  refine c_if_neg (by simp) ?_
  refine c_bind _ (c_toAlarmS_ev x (by omega)) ?_
  refine c_bind _ (c_eqAlarmS_ev (x.map c_cvAlarm) (by first | omega | (rw [List.length_map]; omega))) ?_
  refine c_if_pos rfl ?_
  exact Ev.now true

end Go.Proofs.Ythbbhdadioiefaa.Pure
