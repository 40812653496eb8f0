/- For every list of points and every tolerance the law of CompressTrend answers true (no condition beyond the kinds and the reach of the arguments). -/
import Derived.Test.YthbbhdadioiefaaQFnExactCompressTrendx6
namespace Go.Proofs.Ythbbhdadioiefaa.Pure
open Go.RowKit Go.Proofs.Ythbbhdadioiefaa.QFnExactCompressTrend Go.Proofs.YthbbhdadioiefaaW.PrintWords Go.Proofs.YthbbhdadioiefaaW.PrintLast Go.Proofs.YthbbhdadioiefaaW.PrintMore
set_option linter.unusedVariables false
set_option linter.unusedSimpArgs false

theorem c_ev_det {α : Type} {g : Nat → Option α} {r r' : α} (h : Ev g r) (h' : Ev g r') : r = r' := by
  obtain ⟨K, h⟩ := h
  obtain ⟨K', h'⟩ := h'
  have h1 := h (max K K') (by omega)
  have h2 := h' (max K K') (by omega)
  rw [h1] at h2
  exact Option.some.inj h2
theorem c_w64 {x : Int} (h0 : -9223372036854775808 ≤ x) (h1 : x ≤ 9223372036854775807) : wrap64 x = x := by
  unfold wrap64
  omega
theorem c_succ (i : Nat) (h : i < 9223372036854775807) : wrap64 ((i : Int) + 1) = ((i + 1 : Nat) : Int) := by
  unfold wrap64
  omega
theorem c_take_set {α : Type} (x acc : List α) (v : α) (i : Nat) (hv : x[i]? = some v) (hl : acc.length = x.length) (ht : acc.take i = x.take i) : (acc.set i v).take (i + 1) = x.take (i + 1) := by
  have hi : i < x.length := (List.getElem?_eq_some_iff.1 hv).1
  apply List.ext_getElem?
  intro j
  have hj := congrArg (fun l => l[j]?) ht
  simp only [List.getElem?_take] at hj
  rw [List.getElem?_take, List.getElem?_take]
  by_cases h1 : j < i + 1
  · rw [if_pos h1, if_pos h1]
    by_cases h2 : j < i
    · rw [if_pos h2, if_pos h2] at hj
      rw [List.getElem?_set_ne (by omega)]
      exact hj
    · have : j = i := by omega
      subst this
      rw [List.getElem?_set_self (by omega), hv]
  · rw [if_neg h1, if_neg h1]
theorem c_getD {α : Type} (x : List α) (d : α) (i : Nat) (h : i < x.length) : x[i]? = some (x.getD i d) := by
  rw [List.getD_eq_getElem?_getD, List.getElem?_eq_getElem h]
  rfl
theorem c_if_pos {α : Type} {c : Prop} [Decidable c] {g f : Nat → Option α} {r : α} (h : c) (k : Ev g r) : Ev (fun n => if c then g n else f n) r := Ev.congr (fun _ => if_pos h) k
theorem c_if_neg {α : Type} {c : Prop} [Decidable c] {g f : Nat → Option α} {r : α} (h : ¬ c) (k : Ev f r) : Ev (fun n => if c then g n else f n) r := Ev.congr (fun _ => if_neg h) k
theorem c_bind {α β : Type} {g : Nat → Option α} {f : Nat → α → Option β} (a : α) {r : β} (h : Ev g a) (k : Ev (fun n => f n a) r) : Ev (fun n => (g n).bind (f n)) r := Ev.bind h k
theorem c_bind1 {α β : Type} {g : Option α} {f : Nat → α → Option β} (a : α) {r : β} (h : g = some a) (k : Ev (fun n => f n a) r) : Ev (fun n => g.bind (f n)) r := Ev.congr (fun n => by rw [h]; rfl) k

theorem c_next {α : Type} {g : Nat → Option α} {r : α} (h : Ev (fun k => g (k + 1)) r) : Ev g r := Ev.step (fun _ => rfl) h


def c_cvPoint (p : S88) : S84 := ⟨p.f0, p.f1⟩
theorem c_szPointS (x : List S88) (n : Nat) (hx : x.length ≤ 9223372036854775807) (hn : n ≤ 1048576) : laws_szPointS.f x (n : Int) = some (if (n : Int) - x.length < 0 then -1 else (n : Int) - x.length) := by
  unfold laws_szPointS.f
  rw [c_w64 (x := (n : Int) - (x.length : Int)) (by omega) (by omega)]
  split <;> rfl
theorem c_toPointS_l (x : List S88) (hn : x.length < 4611686018427387904) : ∀ (d : Nat) (acc : List S84) (i : Nat), acc.length = x.length → i + d = x.length → acc.take i = (x.map c_cvPoint).take i → Ev (fun k => laws_toPointS.l0 k x acc (i : Int)) (x.map c_cvPoint)
  | 0, acc, i, hl, hi, ht => by
    have e : acc = x.map c_cvPoint := by
      rw [List.take_of_length_le (by omega), List.take_of_length_le (by rw [List.length_map]; omega)] at ht
      exact ht
    subst e
    refine c_next ?_
    simp only [laws_toPointS.l0]
    exact c_if_neg (by omega) (Ev.now _)
  | d + 1, acc, i, hl, hi, ht => by
    refine c_next ?_
    simp only [laws_toPointS.l0, laws_toPoint.f]
    rw [c_succ i (by omega), Int.toNat_natCast]
    refine c_if_pos (by omega) (c_if_pos (by omega) (c_bind1 _ rfl (c_if_pos (by omega) ?_)))
    refine c_toPointS_l x hn d _ (i + 1) (by rw [List.length_set]; exact hl) (by omega) (c_take_set (x.map c_cvPoint) acc _ i ?_ (by rw [hl, List.length_map]) ht)
    rw [List.getElem?_map, c_getD x z88 i (by omega)]
    simp only [Option.map_some, c_cvPoint, rd_T88, Int.toNat_natCast]
theorem c_toPointS_ev (x : List S88) (hn : x.length ≤ 1048576) : Ev (fun k => laws_toPointS.f k x) (x.map c_cvPoint) := by
  unfold laws_toPointS.f
  refine c_if_pos (by omega) (c_if_pos (by omega) ?_)
  refine c_toPointS_l x (by omega) x.length _ 0 (by simp) (by omega) (by simp)
theorem c_eqPoint_same (p : S84) : laws_eqPoint.f p.f0 p.f1 p.f0 p.f1 = some true := by simp [laws_eqPoint.f]
theorem c_eqPointS_l (x : List S84) (hn : x.length < 4611686018427387904) : ∀ (d : Nat) (i : Nat), i + d = x.length → Ev (fun k => laws_eqPointS.l0 k x x (i : Int)) true
  | 0, i, hi => by
    refine c_next ?_
    simp only [laws_eqPointS.l0]
    exact c_if_neg (by omega) (Ev.now true)
  | d + 1, i, hi => by
    refine c_next ?_
    simp only [laws_eqPointS.l0]
    rw [c_succ i (by omega)]
    exact c_if_pos (by omega) (c_if_pos (by omega) (c_if_pos (by omega) (c_bind1 true (c_eqPoint_same _) (c_if_pos rfl (c_eqPointS_l x hn d (i + 1) (by omega))))))
theorem c_eqPointS_ev (x : List S84) (hn : x.length < 4611686018427387904) : Ev (fun k => laws_eqPointS.f k x x) true := by
  unfold laws_eqPointS.f
  exact c_if_pos rfl (c_eqPointS_l x hn x.length 0 (by omega))

abbrev TP := S84
def tt (x : List TP) (i : Nat) : Int := (rd_T84 x (i : Int)).f0
def tv (x : List TP) (i : Nat) : Int := (rd_T84 x (i : Int)).f1
theorem tr_l1 (a b c : Int) : spec_l1In.f a b c = some (decide (b ≤ a ∧ a ≤ c)) := by
  unfold spec_l1In.f
  by_cases h : a ≥ b
  · rw [if_pos h]
    simp [h]
  · rw [if_neg h]
    simp [h]
theorem tr_in (a b c : Int) : impl_in.f a b c = some (decide (b ≤ a ∧ a ≤ c)) := tr_l1 a b c
theorem tr_w (a : Int) : spec_l7Word.f a = some (decide (-32768 ≤ a ∧ a ≤ 32767)) := by
  unfold spec_l7Word.f
  rw [tr_l1]
  rfl
theorem tr_iw (a : Int) : impl_isWord.f a = some (decide (-32768 ≤ a ∧ a ≤ 32767)) := by
  unfold impl_isWord.f
  rw [tr_in]
  rfl
/-- What a point owes to the one before it. -/
def tgood (x : List TP) (i : Nat) : Prop := 0 ≤ tt x i ∧ tt x i ≤ 10000 ∧ -32768 ≤ tv x i ∧ tv x i ≤ 32767 ∧ (0 < i → tt x (i - 1) < tt x i)
instance (x : List TP) (i : Nat) : Decidable (tgood x i) := by
  unfold tgood
  infer_instance
def tvalid (x : List TP) : Prop := x.length ≤ 100 ∧ ∀ i, i < x.length → tgood x i
theorem tr_valid (x : List TP) (hx : x.length ≤ 1048576) : ∀ (d i : Nat) (last : Int), i + d = x.length → (∀ j, j < i → tgood x j) → last = (if i = 0 then -1 else tt x (i - 1)) →
    ∃ r : Bool, (r = true → tvalid x) ∧ Ev (fun k => spec_TrendValid.l0 k x (i : Int)) r ∧ Ev (fun k => impl_TrendValid.l0 k x last x (x.length : Int) (i : Int)) r
  | 0, i, last, h, hg, hl => by
    refine ⟨decide ((x.length : Int) ≤ 100), fun hr => ⟨?_, fun j hj => hg j (by omega)⟩, ?_, ?_⟩
    · have := of_decide_eq_true hr
      omega
    · refine c_next ?_
      simp only [spec_TrendValid.l0]
      exact c_if_neg (by omega) (Ev.now _)
    · refine c_next ?_
      simp only [impl_TrendValid.l0]
      exact c_if_neg (by omega) (Ev.now _)
  | d + 1, i, last, h, hg, hl => by
    have hlast : -1 ≤ last ∧ last ≤ 10000 := by
      by_cases e : i = 0
      · rw [if_pos e] at hl
        omega
      · rw [if_neg e] at hl
        have := hg (i - 1) (by omega)
        have h1 := this.1
        have h2 := this.2.1
        omega
    have ew : wrap64 (last + 1) = last + 1 := c_w64 (by omega) (by omega)
    have es : ∀ r, (if tgood x i then Ev (fun k => spec_TrendValid.l0 k x ((i + 1 : Nat) : Int)) r else r = false) → Ev (fun k => spec_TrendValid.l0 k x (i : Int)) r := by
      intro r hr
      refine c_next ?_
      simp only [spec_TrendValid.l0, tr_l1, tr_w]
      rw [c_succ i (by omega)]
      refine c_if_pos (by omega) (c_if_pos (by omega) ?_)
      change Ev (fun k => (some (decide (0 ≤ tt x i ∧ tt x i ≤ 10000))).bind fun t => _) r
      by_cases g1 : 0 ≤ tt x i ∧ tt x i ≤ 10000
      · refine c_bind1 true (by simp [g1]) (c_if_pos rfl ?_)
        by_cases g2 : -32768 ≤ tv x i ∧ tv x i ≤ 32767
        · by_cases g3 : (i : Int) > 0
          · have ei : wrap64 ((i : Int) - 1) = ((i - 1 : Nat) : Int) := by
              rw [c_w64 (x := (i : Int) - 1) (by omega) (by omega)]
              omega
            rw [ei]
            refine c_if_pos g3 (c_if_pos (by omega) (c_if_pos (by omega) ?_))
            by_cases g4 : tt x (i - 1) ≥ tt x i
            · rw [if_neg (by unfold tgood; omega)] at hr
              subst hr
              exact c_if_pos g4 (Ev.now false)
            · rw [if_pos ⟨g1.1, g1.2, g2.1, g2.2, fun _ => by omega⟩] at hr
              exact c_if_neg g4 (c_bind1 true (by rw [decide_eq_true]; exact g2) (c_if_pos rfl hr))
          · rw [if_pos ⟨g1.1, g1.2, g2.1, g2.2, fun _ => by omega⟩] at hr
            exact c_if_neg g3 (c_bind1 true (by rw [decide_eq_true]; exact g2) (c_if_pos rfl hr))
        · rw [if_neg (by unfold tgood; omega)] at hr
          subst hr
          by_cases g3 : (i : Int) > 0
          · have ei : wrap64 ((i : Int) - 1) = ((i - 1 : Nat) : Int) := by
              rw [c_w64 (x := (i : Int) - 1) (by omega) (by omega)]
              omega
            rw [ei]
            refine c_if_pos g3 (c_if_pos (by omega) (c_if_pos (by omega) ?_))
            by_cases g4 : tt x (i - 1) ≥ tt x i
            · exact c_if_pos g4 (Ev.now false)
            · exact c_if_neg g4 (c_bind1 false (by rw [decide_eq_false]; exact g2) (c_if_neg (by simp) (Ev.now false)))
          · exact c_if_neg g3 (c_bind1 false (by rw [decide_eq_false]; exact g2) (c_if_neg (by simp) (Ev.now false)))
      · rw [if_neg (by unfold tgood; omega)] at hr
        subst hr
        exact c_bind1 false (by simp only [decide_eq_false g1]) (c_if_neg (by simp) (Ev.now false))
    have hi : ∀ r, (if tgood x i then Ev (fun k => impl_TrendValid.l0 k x (tt x i) x (x.length : Int) ((i + 1 : Nat) : Int)) r else r = false) → Ev (fun k => impl_TrendValid.l0 k x last x (x.length : Int) (i : Int)) r := by
      intro r hr
      have hgood : tgood x i ↔ (last + 1 ≤ tt x i ∧ tt x i ≤ 10000) ∧ (-32768 ≤ tv x i ∧ tv x i ≤ 32767) := by
        unfold tgood
        by_cases e : i = 0
        · rw [if_pos e] at hl
          omega
        · rw [if_neg e] at hl
          have h1 := (hg (i - 1) (by omega)).1
          omega
      refine c_next ?_
      simp only [impl_TrendValid.l0, tr_in, tr_iw, ew]
      rw [c_succ i (by omega)]
      refine c_if_pos (by omega) (c_if_pos (by omega) (c_if_pos (by omega) ?_))
      by_cases g1 : last + 1 ≤ tt x i ∧ tt x i ≤ 10000
      · refine c_bind1 true (by rw [decide_eq_true]; exact g1) (c_if_pos rfl ?_)
        by_cases g2 : -32768 ≤ tv x i ∧ tv x i ≤ 32767
        · rw [if_pos (hgood.2 ⟨g1, g2⟩)] at hr
          exact c_bind1 true (by rw [decide_eq_true]; exact g2) (c_if_pos rfl hr)
        · rw [if_neg (fun g => g2 (hgood.1 g).2)] at hr
          subst hr
          exact c_bind1 false (by rw [decide_eq_false]; exact g2) (c_if_neg (by simp) (Ev.now false))
      · rw [if_neg (fun g => g1 (hgood.1 g).1)] at hr
        subst hr
        exact c_bind1 false (by rw [decide_eq_false]; exact g1) (c_if_neg (by simp) (Ev.now false))
    by_cases g : tgood x i
    · obtain ⟨r, h1, h2, h3⟩ := tr_valid x hx d (i + 1) (tt x i) (by omega) (fun j hj => by
        rcases Nat.lt_succ_iff_lt_or_eq.1 hj with hlt | rfl
        · exact hg j hlt
        · exact g) (by rw [if_neg (by omega)]; rfl)
      exact ⟨r, h1, es r (by rw [if_pos g]; exact h2), hi r (by rw [if_pos g]; exact h3)⟩
    · exact ⟨false, fun h => (by cases h), es false (by rw [if_neg g]), hi false (by rw [if_neg g])⟩
theorem tr_valid_ev (x : List TP) (hx : x.length ≤ 1048576) : ∃ r : Bool, (r = true → tvalid x) ∧ Ev (fun k => spec_TrendValid.f k x) r ∧ Ev (fun k => impl_TrendValid.f k x) r :=
  tr_valid x hx x.length 0 (-1) (by omega) (fun j hj => absurd hj (Nat.not_lt_zero j)) rfl
/-- Both come to one answer, which has P. -/
def Both {α : Type} (P : α → Prop) (g h : Nat → Option α) : Prop := ∃ r, P r ∧ Ev g r ∧ Ev h r
theorem b_now {α : Type} {P : α → Prop} (a : α) (h : P a) : Both P (fun _ => some a) (fun _ => some a) := ⟨a, h, Ev.now a, Ev.now a⟩
theorem b_nextL {α : Type} {P : α → Prop} {g h : Nat → Option α} (k : Both P (fun n => g (n + 1)) h) : Both P g h := by
  obtain ⟨r, hp, h1, h2⟩ := k
  exact ⟨r, hp, c_next h1, h2⟩
theorem b_nextR {α : Type} {P : α → Prop} {g h : Nat → Option α} (k : Both P g (fun n => h (n + 1))) : Both P g h := by
  obtain ⟨r, hp, h1, h2⟩ := k
  exact ⟨r, hp, h1, c_next h2⟩
theorem b_next {α : Type} {P : α → Prop} {g h : Nat → Option α} (k : Both P (fun n => g (n + 1)) (fun n => h (n + 1))) : Both P g h := b_nextL (b_nextR k)
theorem b_posL {α : Type} {P : α → Prop} {c : Prop} [Decidable c] {g f h : Nat → Option α} (hc : c) (k : Both P g h) : Both P (fun n => if c then g n else f n) h := by
  obtain ⟨r, hp, h1, h2⟩ := k
  exact ⟨r, hp, c_if_pos hc h1, h2⟩
theorem b_negL {α : Type} {P : α → Prop} {c : Prop} [Decidable c] {g f h : Nat → Option α} (hc : ¬ c) (k : Both P f h) : Both P (fun n => if c then g n else f n) h := by
  obtain ⟨r, hp, h1, h2⟩ := k
  exact ⟨r, hp, c_if_neg hc h1, h2⟩
theorem b_posR {α : Type} {P : α → Prop} {c : Prop} [Decidable c] {g f h : Nat → Option α} (hc : c) (k : Both P h g) : Both P h (fun n => if c then g n else f n) := by
  obtain ⟨r, hp, h1, h2⟩ := k
  exact ⟨r, hp, h1, c_if_pos hc h2⟩
theorem b_negR {α : Type} {P : α → Prop} {c : Prop} [Decidable c] {g f h : Nat → Option α} (hc : ¬ c) (k : Both P h f) : Both P h (fun n => if c then g n else f n) := by
  obtain ⟨r, hp, h1, h2⟩ := k
  exact ⟨r, hp, h1, c_if_neg hc h2⟩
theorem b_if {α : Type} {P : α → Prop} {c : Prop} [Decidable c] {g f g' f' : Nat → Option α} (hp : c → Both P g g') (hn : ¬ c → Both P f f') : Both P (fun n => if c then g n else f n) (fun n => if c then g' n else f' n) := by
  by_cases hc : c
  · exact b_posL hc (b_posR hc (hp hc))
  · exact b_negL hc (b_negR hc (hn hc))
theorem b_iff {α : Type} {P : α → Prop} {c d : Prop} [Decidable c] [Decidable d] {g f g' f' : Nat → Option α} (e : c ↔ d) (hp : c → Both P g g') (hn : ¬ c → Both P f f') : Both P (fun n => if c then g n else f n) (fun n => if d then g' n else f' n) := by
  by_cases hc : c
  · exact b_posL hc (b_posR (e.1 hc) (hp hc))
  · exact b_negL hc (b_negR (fun h => hc (e.2 h)) (hn hc))
theorem b_bind {α β : Type} {Q : α → Prop} {P : β → Prop} {g h : Nat → Option α} {f f' : Nat → α → Option β} (k : Both Q g h) (l : ∀ a, Q a → Both P (fun n => f n a) (fun n => f' n a)) : Both P (fun n => (g n).bind (f n)) (fun n => (h n).bind (f' n)) := by
  obtain ⟨a, ha, h1, h2⟩ := k
  obtain ⟨r, hp, h3, h4⟩ := l a ha
  exact ⟨r, hp, c_bind a h1 h3, c_bind a h2 h4⟩
theorem b_bindL {α β : Type} {P : β → Prop} {g : Nat → Option α} {f : Nat → α → Option β} {h : Nat → Option β} (a : α) (e : Ev g a) (k : Both P (fun n => f n a) h) : Both P (fun n => (g n).bind (f n)) h := by
  obtain ⟨r, hp, h1, h2⟩ := k
  exact ⟨r, hp, c_bind a e h1, h2⟩
theorem b_bindR {α β : Type} {P : β → Prop} {g : Nat → Option α} {f : Nat → α → Option β} {h : Nat → Option β} (a : α) (e : Ev g a) (k : Both P h (fun n => f n a)) : Both P h (fun n => (g n).bind (f n)) := by
  obtain ⟨r, hp, h1, h2⟩ := k
  exact ⟨r, hp, h1, c_bind a e h2⟩
theorem b_bindL1 {α β : Type} {P : β → Prop} {g : Option α} {f : Nat → α → Option β} {h : Nat → Option β} (a : α) (e : g = some a) (k : Both P (fun n => f n a) h) : Both P (fun n => g.bind (f n)) h := by
  obtain ⟨r, hp, h1, h2⟩ := k
  exact ⟨r, hp, c_bind1 a e h1, h2⟩
theorem b_bindR1 {α β : Type} {P : β → Prop} {g : Option α} {f : Nat → α → Option β} {h : Nat → Option β} (a : α) (e : g = some a) (k : Both P h (fun n => f n a)) : Both P h (fun n => g.bind (f n)) := by
  obtain ⟨r, hp, h1, h2⟩ := k
  exact ⟨r, hp, h1, c_bind1 a e h2⟩
theorem b_mono {α : Type} {P Q : α → Prop} {g h : Nat → Option α} (k : Both P g h) (i : ∀ a, P a → Q a) : Both Q g h := by
  obtain ⟨r, hp, h1, h2⟩ := k
  exact ⟨r, i r hp, h1, h2⟩
theorem co_rd (x : List TP) (i n j : Nat) (h : i + 1 + j < n) : rd_T84 ((x.take n).drop (i + 1)) (j : Int) = rd_T84 x ((i + 1 + j : Nat) : Int) := by
  simp only [rd_T84, Int.toNat_natCast, List.getD_eq_getElem?_getD, List.getElem?_drop, List.getElem?_take]
  rw [if_pos h]
theorem co_chord (x : List TP) (hx : x.length ≤ 1048576) (i n : Nat) (hi : i < n) (hn : n < x.length) (tol dt : Int) : ∀ (d j : Nat), i + 1 + j + d = n →
    Both (fun _ => True) (fun k => spec_l19Chord.l0 k x (i : Int) (n : Int) tol dt ((i + 1 + j : Nat) : Int)) (fun k => impl_near.l0 k tol dt ((x.take n).drop (i + 1)) (((x.take n).drop (i + 1)).length : Int) (j : Int) (rd_T84 x (i : Int)).f0 (rd_T84 x (i : Int)).f1 (rd_T84 x (n : Int)).f0 (rd_T84 x (n : Int)).f1)
  | 0, j, h => by
    refine b_next ?_
    simp only [spec_l19Chord.l0, impl_near.l0]
    exact b_negL (by omega) (b_negR (by rw [List.length_drop, List.length_take]; omega) (b_now true trivial))
  | d + 1, j, h => by
    refine b_next ?_
    simp only [spec_l19Chord.l0, impl_near.l0]
    rw [c_succ j (by omega), c_succ (i + 1 + j) (by omega), co_rd x i n j (by omega)]
    refine b_posL (by omega) (b_posL (by omega) (b_posL (by omega) (b_posL (by omega) (b_posL (by omega) (b_posL (by omega) (b_posL (by omega) ?_))))))
    refine b_posR (by rw [List.length_drop, List.length_take]; omega) (b_posR (by omega) (b_posR (by rw [List.length_drop, List.length_take]; omega) ?_))
    exact b_if (fun _ => b_now false trivial) (fun _ => co_chord x hx i n hi hn tol dt d (j + 1) (by omega))
theorem co_near (x : List TP) (hx : x.length ≤ 1048576) (i n : Nat) (hi : i < n) (hn : n < x.length) (tol : Int) : Both (fun _ => True) (fun k => spec_l19Chord.f k x (i : Int) (n : Int) tol) (fun k => impl_near.f k x (i : Int) (n : Int) tol) := by
  unfold spec_l19Chord.f impl_near.f
  rw [c_succ i (by omega)]
  refine b_posL (by omega) (b_posL (by omega) (b_posL (by omega) (b_posL (by omega) ?_)))
  refine b_posR (by omega) (b_posR (by omega) (b_posR (by omega) (b_posR (by omega) (b_posR (by omega) (b_posR (by omega) (b_posR (by omega) (b_bindR1 _ rfl ?_)))))))
  rw [Int.toNat_natCast, Int.toNat_natCast]
  exact co_chord x hx i n hi hn tol _ (n - (i + 1)) 0 (by omega)
/-- The search for the next point to keep, over what follows from there. -/
theorem co_in (x : List TP) (hx : x.length ≤ 100) (tol : Int) (i : Nat) (out : List TP) (ho : out.length ≤ i + 1) (P : List TP → Prop)
    (hout : ∀ j, i < j → j < x.length → Both P (fun k => spec_CompressTrend.l0 k x tol (out ++ [rd_T84 x (j : Int)]) (j : Int)) (fun k => impl_CompressTrend.l0 k x tol (out ++ [rd_T84 x (j : Int)]) (j : Int))) : ∀ (d j : Nat), j + d + 1 = x.length → i < j →
    Both P (fun k => spec_CompressTrend.l1 k x tol out (i : Int) (j : Int)) (fun k => impl_CompressTrend.l1 k x tol out (i : Int) (j : Int))
  | 0, j, h, hj => by
    have e1 : wrap64 ((x.length : Int) - 1) = (x.length : Int) - 1 := c_w64 (by omega) (by omega)
    refine b_next ?_
    simp only [spec_CompressTrend.l1, impl_CompressTrend.l1]
    rw [c_succ j (by omega), e1]
    exact b_negL (by omega) (b_negR (by omega) (b_posL (by omega) (b_posR (by omega) (b_posL (by omega) (b_posR (by omega) (b_posL (by omega) (b_posR (by omega) (hout j hj (by omega)))))))))
  | d + 1, j, h, hj => by
    have e1 : wrap64 ((x.length : Int) - 1) = (x.length : Int) - 1 := c_w64 (by omega) (by omega)
    refine b_next ?_
    simp only [spec_CompressTrend.l1, impl_CompressTrend.l1]
    rw [c_succ j (by omega), e1]
    refine b_posL (by omega) (b_posR (by omega) (b_bind (co_near x (by omega) i (j + 1) (by omega) (by omega) tol) (fun b _ => b_if (fun _ => ?_) (fun _ => ?_))))
    · exact co_in x hx tol i out ho P hout d (j + 1) (by omega) (by omega)
    · exact b_posL (by omega) (b_posR (by omega) (b_posL (by omega) (b_posR (by omega) (b_posL (by omega) (b_posR (by omega) (hout j hj (by omega)))))))
theorem co_out (x : List TP) (hx : x.length ≤ 100) (tol : Int) : ∀ (d i : Nat) (out : List TP), x.length ≤ i + d + 1 → i < x.length → out.length ≤ i + 1 →
    Both (fun y => y.length ≤ 100) (fun k => spec_CompressTrend.l0 k x tol out (i : Int)) (fun k => impl_CompressTrend.l0 k x tol out (i : Int))
  | 0, i, out, h, hi, ho => by
    have e1 : wrap64 ((x.length : Int) - 1) = (x.length : Int) - 1 := c_w64 (by omega) (by omega)
    refine b_next ?_
    simp only [spec_CompressTrend.l0, impl_CompressTrend.l0]
    rw [e1]
    exact b_negL (by omega) (b_negR (by omega) (b_bindR1 out (if_pos (by omega)) (b_now out (by omega))))
  | d + 1, i, out, h, hi, ho => by
    have e1 : wrap64 ((x.length : Int) - 1) = (x.length : Int) - 1 := c_w64 (by omega) (by omega)
    refine b_next ?_
    simp only [spec_CompressTrend.l0, impl_CompressTrend.l0]
    rw [e1, c_succ i (by omega)]
    refine b_if (fun hc => ?_) (fun _ => b_bindR1 out (if_pos (by omega)) (b_now out (by omega)))
    exact co_in x hx tol i out ho _ (fun j h1 h2 => co_out x hx tol d j _ (by omega) h2 (by simp; omega)) (x.length - 1 - (i + 1)) (i + 1) (by omega) (by omega)
theorem co_both (x : List TP) (hx : x.length ≤ 1048576) (tol : Int) : Both (fun y => y.length ≤ 100) (fun k => spec_CompressTrend.f k x tol) (fun k => impl_CompressTrend.f k x tol) := by
  obtain ⟨b, hv, hs, hi⟩ := tr_valid_ev x hx
  have hbad : Both (fun y : List TP => y.length ≤ 100) (fun k => spec_CompressTrend.j0 k x tol [] true) (fun k => impl_CompressTrend.j0 k x tol true) := by
    refine b_next ?_
    simp only [spec_CompressTrend.j0, impl_CompressTrend.j0]
    exact b_posL trivial (b_posR trivial (b_now [] (by simp)))
  unfold spec_CompressTrend.f impl_CompressTrend.f
  refine b_bindL1 [] rfl (b_bindL b hs (b_bindR b hi ?_))
  cases b with
  | false => exact b_negL (by simp) (b_negR (by simp) hbad)
  | true =>
    have hl := (hv rfl).1
    simp only [tr_l1, tr_in]
    refine b_posL trivial (b_posR trivial (b_bindL1 _ rfl (b_bindR1 _ rfl (b_if (fun _ => ?_) (fun _ => hbad)))))
    by_cases h0 : x.length = 0
    · rw [show ((x.length : Int) == 0) = true from beq_iff_eq.2 (by omega)]
      exact hbad
    · rw [show ((x.length : Int) == 0) = false from beq_eq_false_iff_ne.2 (by omega)]
      refine b_next ?_
      simp only [spec_CompressTrend.j0, impl_CompressTrend.j0]
      refine b_negL (by simp) (b_negR (by simp) (b_posL (by omega) (b_posR (by omega) (b_posL (by simp) ?_))))
      exact co_out x hl tol x.length 0 _ (by omega) (by omega) (by simp)
/-- The marks of a list of points. -/
def pmk (m : Int) (n : Nat) : List TP := (List.range n).map fun (j : Nat) => (⟨m + 2 * (j : Int), m + 2 * (j : Int) + 1⟩ : TP)
theorem pmk_len (m : Int) (n : Nat) : (pmk m n).length = n := by simp [pmk]
theorem pmk_at (m : Int) (n i : Nat) (h : i < n) : (pmk m n)[i]? = some (⟨m + 2 * (i : Int), m + 2 * (i : Int) + 1⟩ : TP) := by simp [pmk, h]
theorem pmk_rd (m : Int) (n i : Nat) (h : i < n) : rd_T84 (pmk m n) (i : Int) = ⟨m + 2 * (i : Int), m + 2 * (i : Int) + 1⟩ := by
  simp only [rd_T84, Int.toNat_natCast, List.getD_eq_getElem?_getD, pmk_at m n i h, Option.getD_some]
theorem c_heldPoint_l (m : Int) (n : Nat) (hm : 0 ≤ m) (hb : m + 2 * n < 4611686018427387904) : ∀ (d i : Nat), i + d = n → Ev (fun k => laws_heldPointS.l0 k (pmk m n) (m + 2 * (i : Int)) (i : Int)) (m + 2 * n)
  | 0, i, hi => by
    have ei : i = n := by omega
    subst ei
    refine c_next ?_
    simp only [laws_heldPointS.l0, pmk_len]
    exact c_if_neg (by omega) (Ev.now _)
  | d + 1, i, hi => by
    refine c_next ?_
    simp only [laws_heldPointS.l0, pmk_len]
    rw [pmk_rd m n i (by omega), c_succ i (by omega), c_w64 (x := m + 2 * (i : Int) + 1) (by omega) (by omega), c_w64 (x := m + 2 * (i : Int) + 1 + 1) (by omega) (by omega), show m + 2 * (i : Int) + 1 + 1 = m + 2 * ((i + 1 : Nat) : Int) from by omega]
    exact c_if_pos (by omega) (c_if_pos (by omega) (c_if_pos rfl (c_if_pos rfl (c_heldPoint_l m n hm hb d (i + 1) (by omega)))))
theorem c_heldPoint_ev (m : Int) (n : Nat) (hm : 0 ≤ m) (hb : m + 2 * n < 4611686018427387904) : Ev (fun k => laws_heldPointS.f k (pmk m n) m) (m + 2 * n) := by
  have := c_heldPoint_l m n hm hb n 0 (by omega)
  rw [show m + 2 * ((0 : Nat) : Int) = m from by omega] at this
  exact this
theorem c_laws_markPointS_l (m : Int) (n : Nat) (hm : 0 ≤ m) (hb : m + 2 * n < 4611686018427387904) : ∀ (d : Nat) (acc : List TP) (i : Nat), acc.length = n → i + d = n → acc.take i = (pmk m n).take i → Ev (fun k => laws_markPointS.l0 k acc (m + 2 * (i : Int)) (i : Int)) (m + 2 * n, pmk m n)
  | 0, acc, i, hl, hi, ht => by
    have e : acc = pmk m n := by
      rw [List.take_of_length_le (by omega), List.take_of_length_le (by rw [pmk_len]; omega)] at ht
      exact ht
    have ei : i = n := by omega
    subst ei
    refine c_next ?_
    simp only [laws_markPointS.l0]
    rw [e]
    exact c_if_neg (by rw [pmk_len]; omega) (Ev.now _)
  | d + 1, acc, i, hl, hi, ht => by
    refine c_next ?_
    simp only [laws_markPointS.l0]
    have hset : (acc.set i (⟨m + 2 * (i : Int), (rd_T84 acc (i : Int)).f1⟩ : TP)).set i (⟨(rd_T84 (acc.set i (⟨m + 2 * (i : Int), (rd_T84 acc (i : Int)).f1⟩ : TP)) (i : Int)).f0, m + 2 * (i : Int) + 1⟩ : TP) = acc.set i (⟨m + 2 * (i : Int), m + 2 * (i : Int) + 1⟩ : TP) := by
      rw [List.set_set]
      simp only [rd_T84, Int.toNat_natCast, List.getD_eq_getElem?_getD]
      rw [List.getElem?_set_self (by omega)]
      rfl
    rw [Int.toNat_natCast, c_succ i (by omega), c_w64 (x := m + 2 * (i : Int) + 1) (by omega) (by omega), c_w64 (x := m + 2 * (i : Int) + 1 + 1) (by omega) (by omega), show m + 2 * (i : Int) + 1 + 1 = m + 2 * ((i + 1 : Nat) : Int) from by omega]
    refine c_if_pos (by omega) (c_if_pos (by omega) (c_bind1 _ rfl ?_))
    rw [hset]
    exact c_laws_markPointS_l m n hm hb d _ (i + 1) (by rw [List.length_set]; exact hl) (by omega) (c_take_set (pmk m n) acc _ i (pmk_at m n i (by omega)) (by rw [hl, pmk_len]) ht)
theorem c_laws_markPointS_ev (l : List TP) (m : Int) (hm : 0 ≤ m) (hb : m + 2 * l.length < 4611686018427387904) : Ev (fun k => laws_markPointS.f k l m) (m + 2 * l.length, pmk m l.length) := by
  have := c_laws_markPointS_l m l.length hm hb l.length l 0 rfl (by omega) (by simp)
  rw [show m + 2 * ((0 : Nat) : Int) = m from by omega] at this
  exact this
theorem c_laws_markPointS_w_l (m : Int) (n : Nat) (hm : 0 ≤ m) (hb : m + 2 * n < 4611686018427387904) : ∀ (d : Nat) (acc : List TP) (i : Nat), acc.length = n → i + d = n → acc.take i = (pmk m n).take i → Ev (fun k => laws_markPointS_w.l0 k acc (m + 2 * (i : Int)) (i : Int)) (m + 2 * n, pmk m n)
  | 0, acc, i, hl, hi, ht => by
    have e : acc = pmk m n := by
      rw [List.take_of_length_le (by omega), List.take_of_length_le (by rw [pmk_len]; omega)] at ht
      exact ht
    have ei : i = n := by omega
    subst ei
    refine c_next ?_
    simp only [laws_markPointS_w.l0]
    rw [e]
    exact c_if_neg (by rw [pmk_len]; omega) (Ev.now _)
  | d + 1, acc, i, hl, hi, ht => by
    refine c_next ?_
    simp only [laws_markPointS_w.l0]
    have hset : (acc.set i (⟨m + 2 * (i : Int), (rd_T84 acc (i : Int)).f1⟩ : TP)).set i (⟨(rd_T84 (acc.set i (⟨m + 2 * (i : Int), (rd_T84 acc (i : Int)).f1⟩ : TP)) (i : Int)).f0, m + 2 * (i : Int) + 1⟩ : TP) = acc.set i (⟨m + 2 * (i : Int), m + 2 * (i : Int) + 1⟩ : TP) := by
      rw [List.set_set]
      simp only [rd_T84, Int.toNat_natCast, List.getD_eq_getElem?_getD]
      rw [List.getElem?_set_self (by omega)]
      rfl
    rw [Int.toNat_natCast, c_succ i (by omega), c_w64 (x := m + 2 * (i : Int) + 1) (by omega) (by omega), c_w64 (x := m + 2 * (i : Int) + 1 + 1) (by omega) (by omega), show m + 2 * (i : Int) + 1 + 1 = m + 2 * ((i + 1 : Nat) : Int) from by omega]
    refine c_if_pos (by omega) (c_if_pos (by omega) (c_bind1 _ rfl ?_))
    rw [hset]
    exact c_laws_markPointS_w_l m n hm hb d _ (i + 1) (by rw [List.length_set]; exact hl) (by omega) (c_take_set (pmk m n) acc _ i (pmk_at m n i (by omega)) (by rw [hl, pmk_len]) ht)
theorem c_laws_markPointS_w_ev (l : List TP) (m : Int) (hm : 0 ≤ m) (hb : m + 2 * l.length < 4611686018427387904) : Ev (fun k => laws_markPointS_w.f k l m) (m + 2 * l.length, pmk m l.length) := by
  have := c_laws_markPointS_w_l m l.length hm hb l.length l 0 rfl (by omega) (by simp)
  rw [show m + 2 * ((0 : Nat) : Int) = m from by omega] at this
  exact this
theorem FnExactCompressTrend : ∀ (l0 : List S88) (a1 : Int), (l0.length ≤ maxLen ∧ ∀ y2 ∈ l0, ((Lit.int .i64 y2.f0).wf = true) ∧ ((Lit.int .i64 y2.f1).wf = true)) → (Lit.int .i64 a1).wf = true → ∃ k, laws_FnExactCompressTrend.f k l0 a1 = some true := by
  intro x t hx ht0
  refine Ev.rounds (r := true) ?_
  unfold laws_FnExactCompressTrend.f
  have hm := hx.1
  simp only [maxLen] at hm
  have hz := c_szPointS x 1048576 (by omega) (by omega)
  by_cases cx : ((1048576 : Nat) : Int) - x.length < 0
  · rw [if_pos cx] at hz
    exact c_bind1 _ hz (c_if_pos (by omega) (Ev.now true))
  rw [if_neg cx] at hz
  have hxl : (x.map c_cvPoint).length ≤ 1048576 := by rw [List.length_map]; omega
  obtain ⟨y, hy, hs, hi⟩ := co_both (x.map c_cvPoint) hxl t
  have ht := c_toPointS_ev x (by omega)
  refine c_bind1 _ hz (c_if_neg (by omega) ?_)
  refine c_bind _ ht (c_bind _ hs (c_bind _ ht (c_bind _ hi (c_bind true (c_eqPointS_ev y (by omega)) (c_if_pos rfl ?_)))))
  refine c_bind _ ht (c_bind true (c_eqPointS_ev _ (by omega)) (c_if_pos rfl ?_))
  refine c_bind _ (c_laws_markPointS_ev (x.map c_cvPoint) 1 (by omega) (by omega)) (c_if_neg (by simp only; omega) ?_)
  refine c_bind true (c_eqPointS_ev y (by omega)) (c_next ?_)
  simp only [laws_FnExactCompressTrend.j0]
  refine c_if_neg (by simp) ?_
  refine c_bind _ (c_laws_markPointS_w_ev y 1 (by omega) (by omega)) ?_
  refine c_bind _ (c_heldPoint_ev 1 y.length (by omega) (by omega)) (c_if_neg (by omega) (c_if_pos rfl ?_))
  refine c_bind _ ht (c_bind _ hi (c_bind true (c_eqPointS_ev y (by omega)) (c_if_pos rfl ?_)))
  exact c_bind _ (c_heldPoint_ev 1 y.length (by omega) (by omega)) (c_if_neg (by omega) (c_if_pos rfl (Ev.now true)))

end Go.Proofs.Ythbbhdadioiefaa.Pure
