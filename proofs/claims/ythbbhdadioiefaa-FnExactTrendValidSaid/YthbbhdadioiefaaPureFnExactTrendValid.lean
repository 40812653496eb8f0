/- For every list of points the law of TrendValid answers true (no condition beyond the kinds and the reach of the argument). -/
import Derived.Test.YthbbhdadioiefaaQFnExactTrendValidx3
namespace Go.Proofs.Ythbbhdadioiefaa.Pure
open Go.RowKit Go.Proofs.Ythbbhdadioiefaa.QFnExactTrendValid Go.Proofs.YthbbhdadioiefaaW.PrintWords Go.Proofs.YthbbhdadioiefaaW.PrintLast Go.Proofs.YthbbhdadioiefaaW.PrintMore
set_option linter.unusedVariables false
set_option linter.unusedSimpArgs false

theorem c_ev_det {α : Type} {g : Nat → Option α} {r r' : α} (h : Ev g r) (h' : Ev g r') : r = r' := by
  obtain ⟨K, h⟩ := h
  obtain ⟨K', h'⟩ := h'
  have h1 := h (max K K') (by omega)
  have h2 := h' (max K K') (by omega)
  rw [h1] at h2
  exact Option.some.inj h2
theorem c_w64 {x : Int} (h0 : -9223372036854775808 ≤ x) (h1 : x ≤ 9223372036854775807) : wrap64 x = x := by
  unfold wrap64
  omega
theorem c_succ (i : Nat) (h : i < 9223372036854775807) : wrap64 ((i : Int) + 1) = ((i + 1 : Nat) : Int) := by
  unfold wrap64
  omega
theorem c_take_set {α : Type} (x acc : List α) (v : α) (i : Nat) (hv : x[i]? = some v) (hl : acc.length = x.length) (ht : acc.take i = x.take i) : (acc.set i v).take (i + 1) = x.take (i + 1) := by
  have hi : i < x.length := (List.getElem?_eq_some_iff.1 hv).1
  apply List.ext_getElem?
  intro j
  have hj := congrArg (fun l => l[j]?) ht
  simp only [List.getElem?_take] at hj
  rw [List.getElem?_take, List.getElem?_take]
  by_cases h1 : j < i + 1
  · rw [if_pos h1, if_pos h1]
    by_cases h2 : j < i
    · rw [if_pos h2, if_pos h2] at hj
      rw [List.getElem?_set_ne (by omega)]
      exact hj
    · have : j = i := by omega
      subst this
      rw [List.getElem?_set_self (by omega), hv]
  · rw [if_neg h1, if_neg h1]
theorem c_getD {α : Type} (x : List α) (d : α) (i : Nat) (h : i < x.length) : x[i]? = some (x.getD i d) := by
  rw [List.getD_eq_getElem?_getD, List.getElem?_eq_getElem h]
  rfl
theorem c_if_pos {α : Type} {c : Prop} [Decidable c] {g f : Nat → Option α} {r : α} (h : c) (k : Ev g r) : Ev (fun n => if c then g n else f n) r := Ev.congr (fun _ => if_pos h) k
theorem c_if_neg {α : Type} {c : Prop} [Decidable c] {g f : Nat → Option α} {r : α} (h : ¬ c) (k : Ev f r) : Ev (fun n => if c then g n else f n) r := Ev.congr (fun _ => if_neg h) k
theorem c_bind {α β : Type} {g : Nat → Option α} {f : Nat → α → Option β} (a : α) {r : β} (h : Ev g a) (k : Ev (fun n => f n a) r) : Ev (fun n => (g n).bind (f n)) r := Ev.bind h k
theorem c_bind1 {α β : Type} {g : Option α} {f : Nat → α → Option β} (a : α) {r : β} (h : g = some a) (k : Ev (fun n => f n a) r) : Ev (fun n => g.bind (f n)) r := Ev.congr (fun n => by rw [h]; rfl) k

theorem c_next {α : Type} {g : Nat → Option α} {r : α} (h : Ev (fun k => g (k + 1)) r) : Ev g r := Ev.step (fun _ => rfl) h


def c_cvPoint (p : S88) : S84 := ⟨p.f0, p.f1⟩
theorem c_szPointS (x : List S88) (n : Nat) (hx : x.length ≤ 9223372036854775807) (hn : n ≤ 1048576) : laws_szPointS.f x (n : Int) = some (if (n : Int) - x.length < 0 then -1 else (n : Int) - x.length) := by
  unfold laws_szPointS.f
  rw [c_w64 (x := (n : Int) - (x.length : Int)) (by omega) (by omega)]
  split <;> rfl
theorem c_toPointS_l (x : List S88) (hn : x.length < 4611686018427387904) : ∀ (d : Nat) (acc : List S84) (i : Nat), acc.length = x.length → i + d = x.length → acc.take i = (x.map c_cvPoint).take i → Ev (fun k => laws_toPointS.l0 k x acc (i : Int)) (x.map c_cvPoint)
  | 0, acc, i, hl, hi, ht => by
    have e : acc = x.map c_cvPoint := by
      rw [List.take_of_length_le (by omega), List.take_of_length_le (by rw [List.length_map]; omega)] at ht
      exact ht
    subst e
    refine c_next ?_
    simp only [laws_toPointS.l0]
    exact c_if_neg (by omega) (Ev.now _)
  | d + 1, acc, i, hl, hi, ht => by
    refine c_next ?_
    simp only [laws_toPointS.l0, laws_toPoint.f]
    rw [c_succ i (by omega), Int.toNat_natCast]
    refine c_if_pos (by omega) (c_if_pos (by omega) (c_bind1 _ rfl (c_if_pos (by omega) ?_)))
    refine c_toPointS_l x hn d _ (i + 1) (by rw [List.length_set]; exact hl) (by omega) (c_take_set (x.map c_cvPoint) acc _ i ?_ (by rw [hl, List.length_map]) ht)
    rw [List.getElem?_map, c_getD x z88 i (by omega)]
    simp only [Option.map_some, c_cvPoint, rd_T88, Int.toNat_natCast]
theorem c_toPointS_ev (x : List S88) (hn : x.length ≤ 1048576) : Ev (fun k => laws_toPointS.f k x) (x.map c_cvPoint) := by
  unfold laws_toPointS.f
  refine c_if_pos (by omega) (c_if_pos (by omega) ?_)
  refine c_toPointS_l x (by omega) x.length _ 0 (by simp) (by omega) (by simp)
theorem c_eqPoint_same (p : S84) : laws_eqPoint.f p.f0 p.f1 p.f0 p.f1 = some true := by simp [laws_eqPoint.f]
theorem c_eqPointS_l (x : List S84) (hn : x.length < 4611686018427387904) : ∀ (d : Nat) (i : Nat), i + d = x.length → Ev (fun k => laws_eqPointS.l0 k x x (i : Int)) true
  | 0, i, hi => by
    refine c_next ?_
    simp only [laws_eqPointS.l0]
    exact c_if_neg (by omega) (Ev.now true)
  | d + 1, i, hi => by
    refine c_next ?_
    simp only [laws_eqPointS.l0]
    rw [c_succ i (by omega)]
    exact c_if_pos (by omega) (c_if_pos (by omega) (c_if_pos (by omega) (c_bind1 true (c_eqPoint_same _) (c_if_pos rfl (c_eqPointS_l x hn d (i + 1) (by omega))))))
theorem c_eqPointS_ev (x : List S84) (hn : x.length < 4611686018427387904) : Ev (fun k => laws_eqPointS.f k x x) true := by
  unfold laws_eqPointS.f
  exact c_if_pos rfl (c_eqPointS_l x hn x.length 0 (by omega))

abbrev TP := S84
def tt (x : List TP) (i : Nat) : Int := (rd_T84 x (i : Int)).f0
def tv (x : List TP) (i : Nat) : Int := (rd_T84 x (i : Int)).f1
theorem tr_l1 (a b c : Int) : spec_l1In.f a b c = some (decide (b ≤ a ∧ a ≤ c)) := by
  unfold spec_l1In.f
  by_cases h : a ≥ b
  · rw [if_pos h]
    simp [h]
  · rw [if_neg h]
    simp [h]
theorem tr_in (a b c : Int) : impl_in.f a b c = some (decide (b ≤ a ∧ a ≤ c)) := tr_l1 a b c
theorem tr_w (a : Int) : spec_l7Word.f a = some (decide (-32768 ≤ a ∧ a ≤ 32767)) := by
  unfold spec_l7Word.f
  rw [tr_l1]
  rfl
theorem tr_iw (a : Int) : impl_isWord.f a = some (decide (-32768 ≤ a ∧ a ≤ 32767)) := by
  unfold impl_isWord.f
  rw [tr_in]
  rfl
/-- What a point owes to the one before it. -/
def tgood (x : List TP) (i : Nat) : Prop := 0 ≤ tt x i ∧ tt x i ≤ 10000 ∧ -32768 ≤ tv x i ∧ tv x i ≤ 32767 ∧ (0 < i → tt x (i - 1) < tt x i)
instance (x : List TP) (i : Nat) : Decidable (tgood x i) := by
  unfold tgood
  infer_instance
def tvalid (x : List TP) : Prop := x.length ≤ 100 ∧ ∀ i, i < x.length → tgood x i
theorem tr_valid (x : List TP) (hx : x.length ≤ 1048576) : ∀ (d i : Nat) (last : Int), i + d = x.length → (∀ j, j < i → tgood x j) → last = (if i = 0 then -1 else tt x (i - 1)) →
    ∃ r : Bool, (r = true → tvalid x) ∧ Ev (fun k => spec_TrendValid.l0 k x (i : Int)) r ∧ Ev (fun k => impl_TrendValid.l0 k x last x (x.length : Int) (i : Int)) r
  | 0, i, last, h, hg, hl => by
    refine ⟨decide ((x.length : Int) ≤ 100), fun hr => ⟨?_, fun j hj => hg j (by omega)⟩, ?_, ?_⟩
    · have := of_decide_eq_true hr
      omega
    · refine c_next ?_
      simp only [spec_TrendValid.l0]
      exact c_if_neg (by omega) (Ev.now _)
    · refine c_next ?_
      simp only [impl_TrendValid.l0]
      exact c_if_neg (by omega) (Ev.now _)
  | d + 1, i, last, h, hg, hl => by
    have hlast : -1 ≤ last ∧ last ≤ 10000 := by
      by_cases e : i = 0
      · rw [if_pos e] at hl
        omega
      · rw [if_neg e] at hl
        have := hg (i - 1) (by omega)
        have h1 := this.1
        have h2 := this.2.1
        omega
    have ew : wrap64 (last + 1) = last + 1 := c_w64 (by omega) (by omega)
    have es : ∀ r, (if tgood x i then Ev (fun k => spec_TrendValid.l0 k x ((i + 1 : Nat) : Int)) r else r = false) → Ev (fun k => spec_TrendValid.l0 k x (i : Int)) r := by
      intro r hr
      refine c_next ?_
      simp only [spec_TrendValid.l0, tr_l1, tr_w]
      rw [c_succ i (by omega)]
      refine c_if_pos (by omega) (c_if_pos (by omega) ?_)
      change Ev (fun k => (some (decide (0 ≤ tt x i ∧ tt x i ≤ 10000))).bind fun t => _) r
      by_cases g1 : 0 ≤ tt x i ∧ tt x i ≤ 10000
      · refine c_bind1 true (by simp [g1]) (c_if_pos rfl ?_)
        by_cases g2 : -32768 ≤ tv x i ∧ tv x i ≤ 32767
        · by_cases g3 : (i : Int) > 0
          · have ei : wrap64 ((i : Int) - 1) = ((i - 1 : Nat) : Int) := by
              rw [c_w64 (x := (i : Int) - 1) (by omega) (by omega)]
              omega
            rw [ei]
            refine c_if_pos g3 (c_if_pos (by omega) (c_if_pos (by omega) ?_))
            by_cases g4 : tt x (i - 1) ≥ tt x i
            · rw [if_neg (by unfold tgood; omega)] at hr
              subst hr
              exact c_if_pos g4 (Ev.now false)
            · rw [if_pos ⟨g1.1, g1.2, g2.1, g2.2, fun _ => by omega⟩] at hr
              exact c_if_neg g4 (c_bind1 true (by rw [decide_eq_true]; exact g2) (c_if_pos rfl hr))
          · rw [if_pos ⟨g1.1, g1.2, g2.1, g2.2, fun _ => by omega⟩] at hr
            exact c_if_neg g3 (c_bind1 true (by rw [decide_eq_true]; exact g2) (c_if_pos rfl hr))
        · rw [if_neg (by unfold tgood; omega)] at hr
          subst hr
          by_cases g3 : (i : Int) > 0
          · have ei : wrap64 ((i : Int) - 1) = ((i - 1 : Nat) : Int) := by
              rw [c_w64 (x := (i : Int) - 1) (by omega) (by omega)]
              omega
            rw [ei]
            refine c_if_pos g3 (c_if_pos (by omega) (c_if_pos (by omega) ?_))
            by_cases g4 : tt x (i - 1) ≥ tt x i
            · exact c_if_pos g4 (Ev.now false)
            · exact c_if_neg g4 (c_bind1 false (by rw [decide_eq_false]; exact g2) (c_if_neg (by simp) (Ev.now false)))
          · exact c_if_neg g3 (c_bind1 false (by rw [decide_eq_false]; exact g2) (c_if_neg (by simp) (Ev.now false)))
      · rw [if_neg (by unfold tgood; omega)] at hr
        subst hr
        exact c_bind1 false (by simp only [decide_eq_false g1]) (c_if_neg (by simp) (Ev.now false))
    have hi : ∀ r, (if tgood x i then Ev (fun k => impl_TrendValid.l0 k x (tt x i) x (x.length : Int) ((i + 1 : Nat) : Int)) r else r = false) → Ev (fun k => impl_TrendValid.l0 k x last x (x.length : Int) (i : Int)) r := by
      intro r hr
      have hgood : tgood x i ↔ (last + 1 ≤ tt x i ∧ tt x i ≤ 10000) ∧ (-32768 ≤ tv x i ∧ tv x i ≤ 32767) := by
        unfold tgood
        by_cases e : i = 0
        · rw [if_pos e] at hl
          omega
        · rw [if_neg e] at hl
          have h1 := (hg (i - 1) (by omega)).1
          omega
      refine c_next ?_
      simp only [impl_TrendValid.l0, tr_in, tr_iw, ew]
      rw [c_succ i (by omega)]
      refine c_if_pos (by omega) (c_if_pos (by omega) (c_if_pos (by omega) ?_))
      by_cases g1 : last + 1 ≤ tt x i ∧ tt x i ≤ 10000
      · refine c_bind1 true (by rw [decide_eq_true]; exact g1) (c_if_pos rfl ?_)
        by_cases g2 : -32768 ≤ tv x i ∧ tv x i ≤ 32767
        · rw [if_pos (hgood.2 ⟨g1, g2⟩)] at hr
          exact c_bind1 true (by rw [decide_eq_true]; exact g2) (c_if_pos rfl hr)
        · rw [if_neg (fun g => g2 (hgood.1 g).2)] at hr
          subst hr
          exact c_bind1 false (by rw [decide_eq_false]; exact g2) (c_if_neg (by simp) (Ev.now false))
      · rw [if_neg (fun g => g1 (hgood.1 g).1)] at hr
        subst hr
        exact c_bind1 false (by rw [decide_eq_false]; exact g1) (c_if_neg (by simp) (Ev.now false))
    by_cases g : tgood x i
    · obtain ⟨r, h1, h2, h3⟩ := tr_valid x hx d (i + 1) (tt x i) (by omega) (fun j hj => by
        rcases Nat.lt_succ_iff_lt_or_eq.1 hj with hlt | rfl
        · exact hg j hlt
        · exact g) (by rw [if_neg (by omega)]; rfl)
      exact ⟨r, h1, es r (by rw [if_pos g]; exact h2), hi r (by rw [if_pos g]; exact h3)⟩
    · exact ⟨false, fun h => (by cases h), es false (by rw [if_neg g]), hi false (by rw [if_neg g])⟩
theorem tr_valid_ev (x : List TP) (hx : x.length ≤ 1048576) : ∃ r : Bool, (r = true → tvalid x) ∧ Ev (fun k => spec_TrendValid.f k x) r ∧ Ev (fun k => impl_TrendValid.f k x) r :=
  tr_valid x hx x.length 0 (-1) (by omega) (fun j hj => absurd hj (Nat.not_lt_zero j)) rfl
theorem FnExactTrendValid : ∀ (l0 : List S88), (l0.length ≤ maxLen ∧ ∀ y2 ∈ l0, ((Lit.int .i64 y2.f0).wf = true) ∧ ((Lit.int .i64 y2.f1).wf = true)) → ∃ k, laws_FnExactTrendValid.f k l0 = some true := by
  intro x hx
  refine Ev.rounds (r := true) ?_
  unfold laws_FnExactTrendValid.f
  have hm := hx.1
  simp only [maxLen] at hm
  have hz := c_szPointS x 1048576 (by omega) (by omega)
  by_cases cx : ((1048576 : Nat) : Int) - x.length < 0
  · rw [if_pos cx] at hz
    exact c_bind1 _ hz (c_if_pos (by omega) (Ev.now true))
  rw [if_neg cx] at hz
  obtain ⟨r, _, hs, hi⟩ := tr_valid_ev (x.map c_cvPoint) (by rw [List.length_map]; omega)
  refine c_bind1 _ (hz) ?_
  refine c_if_neg (by omega) ?_
  refine c_bind _ (c_toPointS_ev x (by omega)) ?_
  refine c_bind _ (hs) ?_
  refine c_bind _ (c_toPointS_ev x (by omega)) ?_
  refine c_bind _ (hi) ?_
  refine c_if_neg (by simp) ?_
  refine c_bind _ (c_toPointS_ev x (by omega)) ?_
  refine c_bind _ (c_eqPointS_ev (x.map c_cvPoint) (by first | omega | (rw [List.length_map]; omega))) ?_
  refine c_if_pos rfl ?_
  exact Ev.now true

end Go.Proofs.Ythbbhdadioiefaa.Pure
