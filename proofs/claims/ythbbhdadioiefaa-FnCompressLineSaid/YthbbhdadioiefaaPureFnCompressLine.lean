/- For every code the law that straight trends have two points answers true (no condition beyond the kinds and the reach of the argument). -/
import Derived.Test.YthbbhdadioiefaaQFnCompressLinex8
namespace Go.Proofs.Ythbbhdadioiefaa.Pure
open Go.RowKit Go.Proofs.Ythbbhdadioiefaa.QFnCompressLine Go.Proofs.YthbbhdadioiefaaW.PrintWords Go.Proofs.YthbbhdadioiefaaW.PrintLast Go.Proofs.YthbbhdadioiefaaW.PrintMore
set_option linter.unusedVariables false
set_option linter.unusedSimpArgs false

theorem c_ev_det {α : Type} {g : Nat → Option α} {r r' : α} (h : Ev g r) (h' : Ev g r') : r = r' := by
  obtain ⟨K, h⟩ := h
  obtain ⟨K', h'⟩ := h'
  have h1 := h (max K K') (by omega)
  have h2 := h' (max K K') (by omega)
  rw [h1] at h2
  exact Option.some.inj h2
theorem c_w64 {x : Int} (h0 : -9223372036854775808 ≤ x) (h1 : x ≤ 9223372036854775807) : wrap64 x = x := by
  unfold wrap64
  omega
theorem c_succ (i : Nat) (h : i < 9223372036854775807) : wrap64 ((i : Int) + 1) = ((i + 1 : Nat) : Int) := by
  unfold wrap64
  omega
theorem c_take_set {α : Type} (x acc : List α) (v : α) (i : Nat) (hv : x[i]? = some v) (hl : acc.length = x.length) (ht : acc.take i = x.take i) : (acc.set i v).take (i + 1) = x.take (i + 1) := by
  have hi : i < x.length := (List.getElem?_eq_some_iff.1 hv).1
  apply List.ext_getElem?
  intro j
  have hj := congrArg (fun l => l[j]?) ht
  simp only [List.getElem?_take] at hj
  rw [List.getElem?_take, List.getElem?_take]
  by_cases h1 : j < i + 1
  · rw [if_pos h1, if_pos h1]
    by_cases h2 : j < i
    · rw [if_pos h2, if_pos h2] at hj
      rw [List.getElem?_set_ne (by omega)]
      exact hj
    · have : j = i := by omega
      subst this
      rw [List.getElem?_set_self (by omega), hv]
  · rw [if_neg h1, if_neg h1]
theorem c_getD {α : Type} (x : List α) (d : α) (i : Nat) (h : i < x.length) : x[i]? = some (x.getD i d) := by
  rw [List.getD_eq_getElem?_getD, List.getElem?_eq_getElem h]
  rfl
theorem c_if_pos {α : Type} {c : Prop} [Decidable c] {g f : Nat → Option α} {r : α} (h : c) (k : Ev g r) : Ev (fun n => if c then g n else f n) r := Ev.congr (fun _ => if_pos h) k
theorem c_if_neg {α : Type} {c : Prop} [Decidable c] {g f : Nat → Option α} {r : α} (h : ¬ c) (k : Ev f r) : Ev (fun n => if c then g n else f n) r := Ev.congr (fun _ => if_neg h) k
theorem c_bind {α β : Type} {g : Nat → Option α} {f : Nat → α → Option β} (a : α) {r : β} (h : Ev g a) (k : Ev (fun n => f n a) r) : Ev (fun n => (g n).bind (f n)) r := Ev.bind h k
theorem c_bind1 {α β : Type} {g : Option α} {f : Nat → α → Option β} (a : α) {r : β} (h : g = some a) (k : Ev (fun n => f n a) r) : Ev (fun n => g.bind (f n)) r := Ev.congr (fun n => by rw [h]; rfl) k

theorem c_next {α : Type} {g : Nat → Option α} {r : α} (h : Ev (fun k => g (k + 1)) r) : Ev g r := Ev.step (fun _ => rfl) h

abbrev TP := S84
def tt (x : List TP) (i : Nat) : Int := (rd_T84 x (i : Int)).f0
def tv (x : List TP) (i : Nat) : Int := (rd_T84 x (i : Int)).f1
theorem tr_l1 (a b c : Int) : spec_l1In.f a b c = some (decide (b ≤ a ∧ a ≤ c)) := by
  unfold spec_l1In.f
  by_cases h : a ≥ b
  · rw [if_pos h]
    simp [h]
  · rw [if_neg h]
    simp [h]
theorem tr_in (a b c : Int) : impl_in.f a b c = some (decide (b ≤ a ∧ a ≤ c)) := tr_l1 a b c
theorem tr_w (a : Int) : spec_l7Word.f a = some (decide (-32768 ≤ a ∧ a ≤ 32767)) := by
  unfold spec_l7Word.f
  rw [tr_l1]
  rfl
theorem tr_iw (a : Int) : impl_isWord.f a = some (decide (-32768 ≤ a ∧ a ≤ 32767)) := by
  unfold impl_isWord.f
  rw [tr_in]
  rfl
/-- What a point owes to the one before it. -/
def tgood (x : List TP) (i : Nat) : Prop := 0 ≤ tt x i ∧ tt x i ≤ 10000 ∧ -32768 ≤ tv x i ∧ tv x i ≤ 32767 ∧ (0 < i → tt x (i - 1) < tt x i)
instance (x : List TP) (i : Nat) : Decidable (tgood x i) := by
  unfold tgood
  infer_instance
def tvalid (x : List TP) : Prop := x.length ≤ 100 ∧ ∀ i, i < x.length → tgood x i
theorem tr_valid (x : List TP) (hx : x.length ≤ 1048576) : ∀ (d i : Nat) (last : Int), i + d = x.length → (∀ j, j < i → tgood x j) → last = (if i = 0 then -1 else tt x (i - 1)) →
    ∃ r : Bool, (r = true → tvalid x) ∧ Ev (fun k => spec_TrendValid.l0 k x (i : Int)) r ∧ Ev (fun k => impl_TrendValid.l0 k x last x (x.length : Int) (i : Int)) r
  | 0, i, last, h, hg, hl => by
    refine ⟨decide ((x.length : Int) ≤ 100), fun hr => ⟨?_, fun j hj => hg j (by omega)⟩, ?_, ?_⟩
    · have := of_decide_eq_true hr
      omega
    · refine c_next ?_
      simp only [spec_TrendValid.l0]
      exact c_if_neg (by omega) (Ev.now _)
    · refine c_next ?_
      simp only [impl_TrendValid.l0]
      exact c_if_neg (by omega) (Ev.now _)
  | d + 1, i, last, h, hg, hl => by
    have hlast : -1 ≤ last ∧ last ≤ 10000 := by
      by_cases e : i = 0
      · rw [if_pos e] at hl
        omega
      · rw [if_neg e] at hl
        have := hg (i - 1) (by omega)
        have h1 := this.1
        have h2 := this.2.1
        omega
    have ew : wrap64 (last + 1) = last + 1 := c_w64 (by omega) (by omega)
    have es : ∀ r, (if tgood x i then Ev (fun k => spec_TrendValid.l0 k x ((i + 1 : Nat) : Int)) r else r = false) → Ev (fun k => spec_TrendValid.l0 k x (i : Int)) r := by
      intro r hr
      refine c_next ?_
      simp only [spec_TrendValid.l0, tr_l1, tr_w]
      rw [c_succ i (by omega)]
      refine c_if_pos (by omega) (c_if_pos (by omega) ?_)
      change Ev (fun k => (some (decide (0 ≤ tt x i ∧ tt x i ≤ 10000))).bind fun t => _) r
      by_cases g1 : 0 ≤ tt x i ∧ tt x i ≤ 10000
      · refine c_bind1 true (by simp [g1]) (c_if_pos rfl ?_)
        by_cases g2 : -32768 ≤ tv x i ∧ tv x i ≤ 32767
        · by_cases g3 : (i : Int) > 0
          · have ei : wrap64 ((i : Int) - 1) = ((i - 1 : Nat) : Int) := by
              rw [c_w64 (x := (i : Int) - 1) (by omega) (by omega)]
              omega
            rw [ei]
            refine c_if_pos g3 (c_if_pos (by omega) (c_if_pos (by omega) ?_))
            by_cases g4 : tt x (i - 1) ≥ tt x i
            · rw [if_neg (by unfold tgood; omega)] at hr
              subst hr
              exact c_if_pos g4 (Ev.now false)
            · rw [if_pos ⟨g1.1, g1.2, g2.1, g2.2, fun _ => by omega⟩] at hr
              exact c_if_neg g4 (c_bind1 true (by rw [decide_eq_true]; exact g2) (c_if_pos rfl hr))
          · rw [if_pos ⟨g1.1, g1.2, g2.1, g2.2, fun _ => by omega⟩] at hr
            exact c_if_neg g3 (c_bind1 true (by rw [decide_eq_true]; exact g2) (c_if_pos rfl hr))
        · rw [if_neg (by unfold tgood; omega)] at hr
          subst hr
          by_cases g3 : (i : Int) > 0
          · have ei : wrap64 ((i : Int) - 1) = ((i - 1 : Nat) : Int) := by
              rw [c_w64 (x := (i : Int) - 1) (by omega) (by omega)]
              omega
            rw [ei]
            refine c_if_pos g3 (c_if_pos (by omega) (c_if_pos (by omega) ?_))
            by_cases g4 : tt x (i - 1) ≥ tt x i
            · exact c_if_pos g4 (Ev.now false)
            · exact c_if_neg g4 (c_bind1 false (by rw [decide_eq_false]; exact g2) (c_if_neg (by simp) (Ev.now false)))
          · exact c_if_neg g3 (c_bind1 false (by rw [decide_eq_false]; exact g2) (c_if_neg (by simp) (Ev.now false)))
      · rw [if_neg (by unfold tgood; omega)] at hr
        subst hr
        exact c_bind1 false (by simp only [decide_eq_false g1]) (c_if_neg (by simp) (Ev.now false))
    have hi : ∀ r, (if tgood x i then Ev (fun k => impl_TrendValid.l0 k x (tt x i) x (x.length : Int) ((i + 1 : Nat) : Int)) r else r = false) → Ev (fun k => impl_TrendValid.l0 k x last x (x.length : Int) (i : Int)) r := by
      intro r hr
      have hgood : tgood x i ↔ (last + 1 ≤ tt x i ∧ tt x i ≤ 10000) ∧ (-32768 ≤ tv x i ∧ tv x i ≤ 32767) := by
        unfold tgood
        by_cases e : i = 0
        · rw [if_pos e] at hl
          omega
        · rw [if_neg e] at hl
          have h1 := (hg (i - 1) (by omega)).1
          omega
      refine c_next ?_
      simp only [impl_TrendValid.l0, tr_in, tr_iw, ew]
      rw [c_succ i (by omega)]
      refine c_if_pos (by omega) (c_if_pos (by omega) (c_if_pos (by omega) ?_))
      by_cases g1 : last + 1 ≤ tt x i ∧ tt x i ≤ 10000
      · refine c_bind1 true (by rw [decide_eq_true]; exact g1) (c_if_pos rfl ?_)
        by_cases g2 : -32768 ≤ tv x i ∧ tv x i ≤ 32767
        · rw [if_pos (hgood.2 ⟨g1, g2⟩)] at hr
          exact c_bind1 true (by rw [decide_eq_true]; exact g2) (c_if_pos rfl hr)
        · rw [if_neg (fun g => g2 (hgood.1 g).2)] at hr
          subst hr
          exact c_bind1 false (by rw [decide_eq_false]; exact g2) (c_if_neg (by simp) (Ev.now false))
      · rw [if_neg (fun g => g1 (hgood.1 g).1)] at hr
        subst hr
        exact c_bind1 false (by rw [decide_eq_false]; exact g1) (c_if_neg (by simp) (Ev.now false))
    by_cases g : tgood x i
    · obtain ⟨r, h1, h2, h3⟩ := tr_valid x hx d (i + 1) (tt x i) (by omega) (fun j hj => by
        rcases Nat.lt_succ_iff_lt_or_eq.1 hj with hlt | rfl
        · exact hg j hlt
        · exact g) (by rw [if_neg (by omega)]; rfl)
      exact ⟨r, h1, es r (by rw [if_pos g]; exact h2), hi r (by rw [if_pos g]; exact h3)⟩
    · exact ⟨false, fun h => (by cases h), es false (by rw [if_neg g]), hi false (by rw [if_neg g])⟩
theorem tr_valid_ev (x : List TP) (hx : x.length ≤ 1048576) : ∃ r : Bool, (r = true → tvalid x) ∧ Ev (fun k => spec_TrendValid.f k x) r ∧ Ev (fun k => impl_TrendValid.f k x) r :=
  tr_valid x hx x.length 0 (-1) (by omega) (fun j hj => absurd hj (Nat.not_lt_zero j)) rfl
theorem ta_drop (x : List TP) (i : Nat) : rd_T84 (x.drop 1) (i : Int) = rd_T84 x ((i + 1 : Nat) : Int) := by
  simp only [rd_T84, Int.toNat_natCast, List.getD_eq_getElem?_getD, List.getElem?_drop]
  rw [Nat.add_comm]
/-- Both come to one answer, which has P. -/
def Both {α : Type} (P : α → Prop) (g h : Nat → Option α) : Prop := ∃ r, P r ∧ Ev g r ∧ Ev h r
theorem b_now {α : Type} {P : α → Prop} (a : α) (h : P a) : Both P (fun _ => some a) (fun _ => some a) := ⟨a, h, Ev.now a, Ev.now a⟩
theorem b_nextL {α : Type} {P : α → Prop} {g h : Nat → Option α} (k : Both P (fun n => g (n + 1)) h) : Both P g h := by
  obtain ⟨r, hp, h1, h2⟩ := k
  exact ⟨r, hp, c_next h1, h2⟩
theorem b_nextR {α : Type} {P : α → Prop} {g h : Nat → Option α} (k : Both P g (fun n => h (n + 1))) : Both P g h := by
  obtain ⟨r, hp, h1, h2⟩ := k
  exact ⟨r, hp, h1, c_next h2⟩
theorem b_next {α : Type} {P : α → Prop} {g h : Nat → Option α} (k : Both P (fun n => g (n + 1)) (fun n => h (n + 1))) : Both P g h := b_nextL (b_nextR k)
theorem b_posL {α : Type} {P : α → Prop} {c : Prop} [Decidable c] {g f h : Nat → Option α} (hc : c) (k : Both P g h) : Both P (fun n => if c then g n else f n) h := by
  obtain ⟨r, hp, h1, h2⟩ := k
  exact ⟨r, hp, c_if_pos hc h1, h2⟩
theorem b_negL {α : Type} {P : α → Prop} {c : Prop} [Decidable c] {g f h : Nat → Option α} (hc : ¬ c) (k : Both P f h) : Both P (fun n => if c then g n else f n) h := by
  obtain ⟨r, hp, h1, h2⟩ := k
  exact ⟨r, hp, c_if_neg hc h1, h2⟩
theorem b_posR {α : Type} {P : α → Prop} {c : Prop} [Decidable c] {g f h : Nat → Option α} (hc : c) (k : Both P h g) : Both P h (fun n => if c then g n else f n) := by
  obtain ⟨r, hp, h1, h2⟩ := k
  exact ⟨r, hp, h1, c_if_pos hc h2⟩
theorem b_negR {α : Type} {P : α → Prop} {c : Prop} [Decidable c] {g f h : Nat → Option α} (hc : ¬ c) (k : Both P h f) : Both P h (fun n => if c then g n else f n) := by
  obtain ⟨r, hp, h1, h2⟩ := k
  exact ⟨r, hp, h1, c_if_neg hc h2⟩
theorem b_if {α : Type} {P : α → Prop} {c : Prop} [Decidable c] {g f g' f' : Nat → Option α} (hp : c → Both P g g') (hn : ¬ c → Both P f f') : Both P (fun n => if c then g n else f n) (fun n => if c then g' n else f' n) := by
  by_cases hc : c
  · exact b_posL hc (b_posR hc (hp hc))
  · exact b_negL hc (b_negR hc (hn hc))
theorem b_iff {α : Type} {P : α → Prop} {c d : Prop} [Decidable c] [Decidable d] {g f g' f' : Nat → Option α} (e : c ↔ d) (hp : c → Both P g g') (hn : ¬ c → Both P f f') : Both P (fun n => if c then g n else f n) (fun n => if d then g' n else f' n) := by
  by_cases hc : c
  · exact b_posL hc (b_posR (e.1 hc) (hp hc))
  · exact b_negL hc (b_negR (fun h => hc (e.2 h)) (hn hc))
theorem b_bind {α β : Type} {Q : α → Prop} {P : β → Prop} {g h : Nat → Option α} {f f' : Nat → α → Option β} (k : Both Q g h) (l : ∀ a, Q a → Both P (fun n => f n a) (fun n => f' n a)) : Both P (fun n => (g n).bind (f n)) (fun n => (h n).bind (f' n)) := by
  obtain ⟨a, ha, h1, h2⟩ := k
  obtain ⟨r, hp, h3, h4⟩ := l a ha
  exact ⟨r, hp, c_bind a h1 h3, c_bind a h2 h4⟩
theorem b_bindL {α β : Type} {P : β → Prop} {g : Nat → Option α} {f : Nat → α → Option β} {h : Nat → Option β} (a : α) (e : Ev g a) (k : Both P (fun n => f n a) h) : Both P (fun n => (g n).bind (f n)) h := by
  obtain ⟨r, hp, h1, h2⟩ := k
  exact ⟨r, hp, c_bind a e h1, h2⟩
theorem b_bindR {α β : Type} {P : β → Prop} {g : Nat → Option α} {f : Nat → α → Option β} {h : Nat → Option β} (a : α) (e : Ev g a) (k : Both P h (fun n => f n a)) : Both P h (fun n => (g n).bind (f n)) := by
  obtain ⟨r, hp, h1, h2⟩ := k
  exact ⟨r, hp, h1, c_bind a e h2⟩
theorem b_bindL1 {α β : Type} {P : β → Prop} {g : Option α} {f : Nat → α → Option β} {h : Nat → Option β} (a : α) (e : g = some a) (k : Both P (fun n => f n a) h) : Both P (fun n => g.bind (f n)) h := by
  obtain ⟨r, hp, h1, h2⟩ := k
  exact ⟨r, hp, c_bind1 a e h1, h2⟩
theorem b_bindR1 {α β : Type} {P : β → Prop} {g : Option α} {f : Nat → α → Option β} {h : Nat → Option β} (a : α) (e : g = some a) (k : Both P h (fun n => f n a)) : Both P h (fun n => g.bind (f n)) := by
  obtain ⟨r, hp, h1, h2⟩ := k
  exact ⟨r, hp, h1, c_bind1 a e h2⟩
theorem b_mono {α : Type} {P Q : α → Prop} {g h : Nat → Option α} (k : Both P g h) (i : ∀ a, P a → Q a) : Both Q g h := by
  obtain ⟨r, hp, h1, h2⟩ := k
  exact ⟨r, i r hp, h1, h2⟩
theorem co_rd (x : List TP) (i n j : Nat) (h : i + 1 + j < n) : rd_T84 ((x.take n).drop (i + 1)) (j : Int) = rd_T84 x ((i + 1 + j : Nat) : Int) := by
  simp only [rd_T84, Int.toNat_natCast, List.getD_eq_getElem?_getD, List.getElem?_drop, List.getElem?_take]
  rw [if_pos h]
theorem co_chord (x : List TP) (hx : x.length ≤ 1048576) (i n : Nat) (hi : i < n) (hn : n < x.length) (tol dt : Int) : ∀ (d j : Nat), i + 1 + j + d = n →
    Both (fun _ => True) (fun k => spec_l19Chord.l0 k x (i : Int) (n : Int) tol dt ((i + 1 + j : Nat) : Int)) (fun k => impl_near.l0 k tol dt ((x.take n).drop (i + 1)) (((x.take n).drop (i + 1)).length : Int) (j : Int) (rd_T84 x (i : Int)).f0 (rd_T84 x (i : Int)).f1 (rd_T84 x (n : Int)).f0 (rd_T84 x (n : Int)).f1)
  | 0, j, h => by
    refine b_next ?_
    simp only [spec_l19Chord.l0, impl_near.l0]
    exact b_negL (by omega) (b_negR (by rw [List.length_drop, List.length_take]; omega) (b_now true trivial))
  | d + 1, j, h => by
    refine b_next ?_
    simp only [spec_l19Chord.l0, impl_near.l0]
    rw [c_succ j (by omega), c_succ (i + 1 + j) (by omega), co_rd x i n j (by omega)]
    refine b_posL (by omega) (b_posL (by omega) (b_posL (by omega) (b_posL (by omega) (b_posL (by omega) (b_posL (by omega) (b_posL (by omega) ?_))))))
    refine b_posR (by rw [List.length_drop, List.length_take]; omega) (b_posR (by omega) (b_posR (by rw [List.length_drop, List.length_take]; omega) ?_))
    exact b_if (fun _ => b_now false trivial) (fun _ => co_chord x hx i n hi hn tol dt d (j + 1) (by omega))
theorem co_near (x : List TP) (hx : x.length ≤ 1048576) (i n : Nat) (hi : i < n) (hn : n < x.length) (tol : Int) : Both (fun _ => True) (fun k => spec_l19Chord.f k x (i : Int) (n : Int) tol) (fun k => impl_near.f k x (i : Int) (n : Int) tol) := by
  unfold spec_l19Chord.f impl_near.f
  rw [c_succ i (by omega)]
  refine b_posL (by omega) (b_posL (by omega) (b_posL (by omega) (b_posL (by omega) ?_)))
  refine b_posR (by omega) (b_posR (by omega) (b_posR (by omega) (b_posR (by omega) (b_posR (by omega) (b_posR (by omega) (b_posR (by omega) (b_bindR1 _ rfl ?_)))))))
  rw [Int.toNat_natCast, Int.toNat_natCast]
  exact co_chord x hx i n hi hn tol _ (n - (i + 1)) 0 (by omega)
/-- The search for the next point to keep, over what follows from there. -/
theorem co_in (x : List TP) (hx : x.length ≤ 100) (tol : Int) (i : Nat) (out : List TP) (ho : out.length ≤ i + 1) (P : List TP → Prop)
    (hout : ∀ j, i < j → j < x.length → Both P (fun k => spec_CompressTrend.l0 k x tol (out ++ [rd_T84 x (j : Int)]) (j : Int)) (fun k => impl_CompressTrend.l0 k x tol (out ++ [rd_T84 x (j : Int)]) (j : Int))) : ∀ (d j : Nat), j + d + 1 = x.length → i < j →
    Both P (fun k => spec_CompressTrend.l1 k x tol out (i : Int) (j : Int)) (fun k => impl_CompressTrend.l1 k x tol out (i : Int) (j : Int))
  | 0, j, h, hj => by
    have e1 : wrap64 ((x.length : Int) - 1) = (x.length : Int) - 1 := c_w64 (by omega) (by omega)
    refine b_next ?_
    simp only [spec_CompressTrend.l1, impl_CompressTrend.l1]
    rw [c_succ j (by omega), e1]
    exact b_negL (by omega) (b_negR (by omega) (b_posL (by omega) (b_posR (by omega) (b_posL (by omega) (b_posR (by omega) (b_posL (by omega) (b_posR (by omega) (hout j hj (by omega)))))))))
  | d + 1, j, h, hj => by
    have e1 : wrap64 ((x.length : Int) - 1) = (x.length : Int) - 1 := c_w64 (by omega) (by omega)
    refine b_next ?_
    simp only [spec_CompressTrend.l1, impl_CompressTrend.l1]
    rw [c_succ j (by omega), e1]
    refine b_posL (by omega) (b_posR (by omega) (b_bind (co_near x (by omega) i (j + 1) (by omega) (by omega) tol) (fun b _ => b_if (fun _ => ?_) (fun _ => ?_))))
    · exact co_in x hx tol i out ho P hout d (j + 1) (by omega) (by omega)
    · exact b_posL (by omega) (b_posR (by omega) (b_posL (by omega) (b_posR (by omega) (b_posL (by omega) (b_posR (by omega) (hout j hj (by omega)))))))
theorem co_out (x : List TP) (hx : x.length ≤ 100) (tol : Int) : ∀ (d i : Nat) (out : List TP), x.length ≤ i + d + 1 → i < x.length → out.length ≤ i + 1 →
    Both (fun y => y.length ≤ 100) (fun k => spec_CompressTrend.l0 k x tol out (i : Int)) (fun k => impl_CompressTrend.l0 k x tol out (i : Int))
  | 0, i, out, h, hi, ho => by
    have e1 : wrap64 ((x.length : Int) - 1) = (x.length : Int) - 1 := c_w64 (by omega) (by omega)
    refine b_next ?_
    simp only [spec_CompressTrend.l0, impl_CompressTrend.l0]
    rw [e1]
    exact b_negL (by omega) (b_negR (by omega) (b_bindR1 out (if_pos (by omega)) (b_now out (by omega))))
  | d + 1, i, out, h, hi, ho => by
    have e1 : wrap64 ((x.length : Int) - 1) = (x.length : Int) - 1 := c_w64 (by omega) (by omega)
    refine b_next ?_
    simp only [spec_CompressTrend.l0, impl_CompressTrend.l0]
    rw [e1, c_succ i (by omega)]
    refine b_if (fun hc => ?_) (fun _ => b_bindR1 out (if_pos (by omega)) (b_now out (by omega)))
    exact co_in x hx tol i out ho _ (fun j h1 h2 => co_out x hx tol d j _ (by omega) h2 (by simp; omega)) (x.length - 1 - (i + 1)) (i + 1) (by omega) (by omega)
theorem co_both (x : List TP) (hx : x.length ≤ 1048576) (tol : Int) : Both (fun y => y.length ≤ 100) (fun k => spec_CompressTrend.f k x tol) (fun k => impl_CompressTrend.f k x tol) := by
  obtain ⟨b, hv, hs, hi⟩ := tr_valid_ev x hx
  have hbad : Both (fun y : List TP => y.length ≤ 100) (fun k => spec_CompressTrend.j0 k x tol [] true) (fun k => impl_CompressTrend.j0 k x tol true) := by
    refine b_next ?_
    simp only [spec_CompressTrend.j0, impl_CompressTrend.j0]
    exact b_posL trivial (b_posR trivial (b_now [] (by simp)))
  unfold spec_CompressTrend.f impl_CompressTrend.f
  refine b_bindL1 [] rfl (b_bindL b hs (b_bindR b hi ?_))
  cases b with
  | false => exact b_negL (by simp) (b_negR (by simp) hbad)
  | true =>
    have hl := (hv rfl).1
    simp only [tr_l1, tr_in]
    refine b_posL trivial (b_posR trivial (b_bindL1 _ rfl (b_bindR1 _ rfl (b_if (fun _ => ?_) (fun _ => hbad)))))
    by_cases h0 : x.length = 0
    · rw [show ((x.length : Int) == 0) = true from beq_iff_eq.2 (by omega)]
      exact hbad
    · rw [show ((x.length : Int) == 0) = false from beq_eq_false_iff_ne.2 (by omega)]
      refine b_next ?_
      simp only [spec_CompressTrend.j0, impl_CompressTrend.j0]
      refine b_negL (by simp) (b_negR (by simp) (b_posL (by omega) (b_posR (by omega) (b_posL (by simp) ?_))))
      exact co_out x hl tol x.length 0 _ (by omega) (by omega) (by simp)
def bytes (l : List Int) : Prop := ∀ x ∈ l, 0 ≤ x ∧ x ≤ 255
theorem dr_xor (a b : Nat) (ha : a < 4611686018427387904) (hb : b < 4611686018427387904) : Go.bits .xor .i64 (a : Int) (b : Int) = ((a ^^^ b : Nat) : Int) := by
  have hx : a ^^^ b < 2 ^ 62 := Nat.xor_lt_two_pow (by omega) (by omega)
  have ha' : a % 2 ^ IntKind.i64.bits = a := Nat.mod_eq_of_lt (by show a < 2 ^ 64; omega)
  have hb' : b % 2 ^ IntKind.i64.bits = b := Nat.mod_eq_of_lt (by show b < 2 ^ 64; omega)
  simp only [Go.bits, BitVec.ofInt_natCast, BitVec.toNat_xor, BitVec.toNat_ofNat, ha', hb']
  rw [IntKind.wrap_i64]
  omega
theorem dr_rd (l : List Int) (hl : bytes l) (i : Int) : 0 ≤ rd l i ∧ rd l i ≤ 255 := by
  unfold rd
  rw [List.getD_eq_getElem?_getD]
  cases h : l[i.toNat]? with
  | none => exact ⟨by decide, by decide⟩
  | some v => exact hl v (List.mem_of_getElem? h)
theorem dr_tdiv (a b : Nat) : 0 ≤ Int.tdiv (a : Int) (b : Int) ∧ Int.tdiv (a : Int) (b : Int) ≤ a := by
  rw [Int.tdiv_eq_ediv_of_nonneg (by omega)]
  have h1 : ((a : Int) / (b : Int)) = ((a / b : Nat) : Int) := rfl
  rw [h1]
  have h2 := Nat.div_le_self a b
  generalize a / b = q at h2 ⊢
  omega
theorem dr_tmod (a b : Int) (ha : 0 ≤ a) (hb : 0 < b) : 0 ≤ Int.tmod a b ∧ Int.tmod a b < b := by
  rw [Int.tmod_eq_emod_of_nonneg ha]
  exact ⟨Int.emod_nonneg _ (by omega), Int.emod_lt_of_pos _ hb⟩
/-- A pick from the code: a number under the bound, and one place further. -/
theorem dr_pick (l : List Int) (hl : bytes l) (hn : l.length ≤ 2000) (p : Nat) (n : Int) (hp : p ≤ 1000000) (h1 : 1 ≤ n) (h2 : n ≤ 1000000) : ∃ v : Int, 0 ≤ v ∧ v < n ∧ Ev (fun k => spec_l20Rd_pick.f k l (p : Int) n) (v, ((p + 1 : Nat) : Int)) := by
  have e2 : wrap64 (((p + 1 : Nat) : Int) - 1) = (p : Int) := by
    rw [c_w64 (by omega) (by omega)]
    omega
  suffices h : ∃ v : Int, 0 ≤ v ∧ Ev (fun k => spec_l20Rd_pick.f k l (p : Int) n) (Int.tmod v n, ((p + 1 : Nat) : Int)) by
    obtain ⟨v, hv, he⟩ := h
    exact ⟨_, (dr_tmod v n hv (by omega)).1, (dr_tmod v n hv (by omega)).2, he⟩
  unfold spec_l20Rd_pick.f
  rw [c_succ p (by omega)]
  by_cases c0 : l.length = 0
  · refine ⟨0, Int.le_refl 0, c_if_neg (by omega) ?_⟩
    rw [show ((l.length : Int) == 0) = true from beq_iff_eq.2 (by omega)]
    refine c_next ?_
    simp only [spec_l20Rd_pick.j0, Int.zero_tmod]
    exact c_if_pos trivial (Ev.now _)
  rw [show ((l.length : Int) == 0) = false from beq_eq_false_iff_ne.2 (by omega)]
  by_cases c1 : (p : Int) < l.length
  · have hr := dr_rd l hl p
    refine ⟨rd l p, hr.1, c_if_neg (by omega) (c_next ?_)⟩
    simp only [spec_l20Rd_pick.j0]
    rw [e2, c_w64 (x := rd l p) (by omega) (by omega)]
    exact c_if_neg (by simp) (c_if_pos c1 (c_if_pos (by omega) (c_if_neg (by omega) (Ev.now _))))
  · have e3 : wrap64 (wrap64 ((p : Int) * 7) + 3) = (p : Int) * 7 + 3 := by
      rw [c_w64 (x := (p : Int) * 7) (by omega) (by omega), c_w64 (by omega) (by omega)]
    have m1 := dr_tmod p l.length (by omega) (by omega)
    have m2 := dr_tmod ((p : Int) * 7 + 3) l.length (by omega) (by omega)
    have r1 := dr_rd l hl (Int.tmod (p : Int) (l.length : Int))
    have r2 := dr_rd l hl (Int.tmod ((p : Int) * 7 + 3) (l.length : Int))
    have r3 := dr_tdiv p l.length
    obtain ⟨H, hH, hlt⟩ : ∃ H : Nat, (H : Int) = rd l (Int.tmod (p : Int) (l.length : Int)) * 131 + rd l (Int.tmod ((p : Int) * 7 + 3) (l.length : Int)) * 1117 + (p : Int) * 29 + Int.tdiv (p : Int) (l.length : Int) * 53 ∧ H < 1000000000 := by
      generalize rd l (Int.tmod (p : Int) (l.length : Int)) = A at r1 ⊢
      generalize rd l (Int.tmod ((p : Int) * 7 + 3) (l.length : Int)) = B at r2 ⊢
      generalize Int.tdiv (p : Int) (l.length : Int) = D at r3 ⊢
      exact ⟨(A * 131 + B * 1117 + (p : Int) * 29 + D * 53).toNat, by omega, by omega⟩
    have e4 : wrap64 (wrap64 (wrap64 (wrap64 (wrap64 (rd l (Int.tmod (p : Int) (l.length : Int))) * 131) + wrap64 (wrap64 (rd l (Int.tmod ((p : Int) * 7 + 3) (l.length : Int))) * 1117)) + wrap64 ((p : Int) * 29)) + wrap64 (wrap64 (Int.tdiv (p : Int) (l.length : Int)) * 53)) = (H : Int) := by
      rw [hH]
      generalize rd l (Int.tmod (p : Int) (l.length : Int)) = A at r1 ⊢
      generalize rd l (Int.tmod ((p : Int) * 7 + 3) (l.length : Int)) = B at r2 ⊢
      generalize Int.tdiv (p : Int) (l.length : Int) = D at r3 ⊢
      rw [c_w64 (x := A) (by omega) (by omega), c_w64 (x := B) (by omega) (by omega), c_w64 (x := D) (by omega) (by omega), c_w64 (x := A * 131) (by omega) (by omega), c_w64 (x := B * 1117) (by omega) (by omega), c_w64 (x := D * 53) (by omega) (by omega), c_w64 (x := (p : Int) * 29) (by omega) (by omega), c_w64 (x := A * 131 + B * 1117) (by omega) (by omega), c_w64 (x := A * 131 + B * 1117 + (p : Int) * 29) (by omega) (by omega), c_w64 (by omega) (by omega)]
    have e5 : wrap64 (Int.tdiv (H : Int) 64) = ((H / 64 : Nat) : Int) := by
      rw [show Int.tdiv (H : Int) 64 = ((H / 64 : Nat) : Int) from by rw [Int.tdiv_eq_ediv_of_nonneg (by omega)]; rfl]
      have := Nat.div_le_self H 64
      exact c_w64 (by omega) (by omega)
    have e6 := dr_xor H (H / 64) (by omega) (by have := Nat.div_le_self H 64; omega)
    refine ⟨((H ^^^ (H / 64) : Nat) : Int), by omega, c_if_neg (by omega) (c_next ?_)⟩
    simp only [spec_l20Rd_pick.j0]
    rw [e2, e3, e4, e5, e6]
    exact c_if_neg (by simp) (c_if_neg c1 (c_if_neg (by omega) (c_if_pos m1.1 (c_if_pos m1.2 (c_if_pos m2.1 (c_if_pos m2.2 (c_if_neg (by omega) (Ev.now _))))))))
theorem dr_open (l : List Int) (hl : bytes l) : ∃ m, bytes m ∧ m.length ≤ 2000 ∧ spec_l20Open.f l = some (m, 0) := by
  unfold spec_l20Open.f
  by_cases c : (l.length : Int) > 2000
  · exact ⟨l.take 2000, fun x hx => hl x (List.mem_of_mem_take hx), by rw [List.length_take]; omega, by rw [if_pos c, if_pos (by omega)]⟩
  · exact ⟨l, hl, by omega, if_neg c⟩
theorem dr_bytes (l : List Int) (h : ∀ x ∈ l, (Lit.int .u8 x).wf = true) : bytes l := by
  intro x hx
  have := h x hx
  simp only [Lit.wf, IntKind.min, IntKind.max, IntKind.signed, IntKind.bits, Bool.and_eq_true, decide_eq_true_eq] at this
  simp at this
  omega
theorem dr_odd (l : List Int) (hl : bytes l) (hn : l.length ≤ 2000) (p : Nat) (n : Int) (hp : p ≤ 1000000) (h1 : 1 ≤ n) (h2 : n ≤ 1000000) : ∃ b : Bool, Ev (fun k => spec_l20Rd_odd.f k l (p : Int) n) (b, ((p + 1 : Nat) : Int)) := by
  obtain ⟨v, _, _, hv⟩ := dr_pick l hl hn p n hp h1 h2
  unfold spec_l20Rd_odd.f
  exact ⟨_, c_if_pos (by omega) (c_bind _ hv (Ev.now _))⟩
theorem dr_odd0 (l : List Int) (p : Nat) : Ev (fun k => spec_l20Rd_odd.f k l (p : Int) 0) (false, (p : Int)) := by
  unfold spec_l20Rd_odd.f
  exact c_if_neg (by omega) (Ev.now _)
theorem dr_word1 (l : List Int) (hl : bytes l) (hn : l.length ≤ 2000) (p q : Nat) (n : Int) (b : Bool) (hp : p ≤ 1000) (hq : q ≤ 1001) (hpq : p ≤ q) (hqp : q ≤ p + 1) (hb : Ev (fun k => spec_l20Rd_odd.f k l (p : Int) n) (b, (q : Int))) : ∃ (v : Int) (r : Nat), p ≤ r ∧ r ≤ p + 6 ∧ Ev (fun k => spec_l20Word.f k l (p : Int) n) (v, (r : Int)) := by
  unfold spec_l20Word.f
  cases b with
  | true =>
    obtain ⟨v, v0, v1, hv⟩ := dr_pick l hl hn q 2 (by omega) (by omega) (by omega)
    exact ⟨_, q + 1, by omega, by omega, c_bind _ hb (c_if_pos rfl (c_bind1 _ rfl (c_bind _ hv (c_if_pos v0 (c_if_pos v1 (Ev.now _))))))⟩
  | false =>
    obtain ⟨a, a0, a1, ha⟩ := dr_pick l hl hn q 21 (by omega) (by omega) (by omega)
    obtain ⟨b, b0, b1, hb'⟩ := dr_pick l hl hn (q + 1) 256 (by omega) (by omega) (by omega)
    obtain ⟨c, c0, c1, hc⟩ := dr_pick l hl hn (q + 1 + 1) 256 (by omega) (by omega) (by omega)
    obtain ⟨d, d0, d1, hd⟩ := dr_pick l hl hn (q + 1 + 1 + 1) 400 (by omega) (by omega) (by omega)
    obtain ⟨e, e0, e1, he⟩ := dr_pick l hl hn (q + 1 + 1 + 1 + 1) 7 (by omega) (by omega) (by omega)
    have hx : 0 ≤ rd [0, 0, 1, 2, 3, 4, 4] e ∧ rd [0, 0, 1, 2, 3, 4, 4] e < 5 := by
      have : e = 0 ∨ e = 1 ∨ e = 2 ∨ e = 3 ∨ e = 4 ∨ e = 5 ∨ e = 6 := by omega
      rcases this with rfl | rfl | rfl | rfl | rfl | rfl | rfl <;> decide
    exact ⟨_, q + 1 + 1 + 1 + 1 + 1, by omega, by omega, c_bind _ hb (c_if_neg (by simp) (c_bind _ ha (c_bind _ hb' (c_bind _ hc (c_bind _ hd (c_bind1 _ rfl (c_bind1 _ rfl (c_bind _ he (c_if_pos e0 (c_if_pos e1 (c_if_pos hx.1 (c_if_pos hx.2 (Ev.now _)))))))))))))⟩
theorem dr_word (l : List Int) (hl : bytes l) (hn : l.length ≤ 2000) (p : Nat) (n : Int) (hp : p ≤ 1000) (h1 : 0 ≤ n) (h2 : n ≤ 1000000) : ∃ (v : Int) (r : Nat), p ≤ r ∧ r ≤ p + 6 ∧ Ev (fun k => spec_l20Word.f k l (p : Int) n) (v, (r : Int)) := by
  by_cases c : n = 0
  · subst c
    exact dr_word1 l hl hn p p 0 false hp (by omega) (by omega) (by omega) (dr_odd0 l p)
  · obtain ⟨b, hb⟩ := dr_odd l hl hn p n (by omega) (by omega) h2
    exact dr_word1 l hl hn p (p + 1) n b hp (by omega) (by omega) (by omega) hb
theorem dr_trend1 (l : List Int) (hl : bytes l) (hn : l.length ≤ 2000) (x : List TP) (hx : x.length ≤ 13) (b : Bool) (hb : b = true → 0 < x.length) (p : Nat) (hp : p ≤ 990) : ∃ (y : List TP) (q : Nat), y.length ≤ 14 ∧ q ≤ p + 8 ∧ Ev (fun k => spec_l20Trend.j1 k x b l (p : Int)) (y, (q : Int)) := by
  cases b with
  | false =>
    refine ⟨x, p, by omega, by omega, c_next ?_⟩
    simp only [spec_l20Trend.j1]
    exact c_if_neg (by simp) (Ev.now _)
  | true =>
    have h0 := hb rfl
    obtain ⟨a, a0, a1, ha⟩ := dr_pick l hl hn p (x.length : Int) (by omega) (by omega) (by omega)
    obtain ⟨c, c0, c1, hc⟩ := dr_pick l hl hn (p + 1) 3 (by omega) (by omega) (by omega)
    have go : ∀ r, Ev (fun k => if c = 0 then ((some (([(-1), 10001, 3] : List Int) : List Int)).bind fun y250 => ((spec_l20Rd_pick.f k l ((p + 1 + 1 : Nat) : Int) 3).bind fun bt253 => (if 0 ≤ bt253.1 then (if bt253.1 < (y250.length : Int) then (if 0 ≤ a then (if a < (x.length : Int) then (some ((x.set (a : Int).toNat (⟨rd y250 bt253.1, (rd_T84 x a).f1⟩ : TP)), bt253.2)) else (none)) else (none)) else (none)) else (none)))) else (if c = 1 then ((spec_l20Word.f k l ((p + 1 + 1 : Nat) : Int) 1).bind fun bt257 => (if 0 ≤ a then (if a < (x.length : Int) then (some ((x.set (a : Int).toNat (⟨(rd_T84 x a).f0, bt257.1⟩ : TP)), bt257.2)) else (none)) else (none))) else (if 0 < (x.length : Int) then (if x.length < 8796093022208 then (some ((x ++ [(⟨(rd_T84 x 0).f0, (rd_T84 x 0).f1⟩ : TP)]), ((p + 1 + 1 : Nat) : Int))) else (none)) else (none)))) r → Ev (fun k => spec_l20Trend.j1 k x true l (p : Int)) r := by
      intro r hr
      refine c_next ?_
      simp only [spec_l20Trend.j1]
      exact c_if_pos trivial (c_bind _ ha (c_bind _ hc hr))
    by_cases d0 : c = 0
    · obtain ⟨d, e0, e1, hd⟩ := dr_pick l hl hn (p + 1 + 1) 3 (by omega) (by omega) (by omega)
      exact ⟨_, p + 1 + 1 + 1, by rw [List.length_set]; omega, by omega, go _ (c_if_pos d0 (c_bind1 _ rfl (c_bind _ hd (c_if_pos e0 (c_if_pos e1 (c_if_pos a0 (c_if_pos a1 (Ev.now _))))))))⟩
    · by_cases d1 : c = 1
      · obtain ⟨w, q, q0, q1, hw⟩ := dr_word l hl hn (p + 1 + 1) 1 (by omega) (by omega) (by omega)
        exact ⟨_, q, by rw [List.length_set]; omega, by omega, go _ (c_if_neg d0 (c_if_pos d1 (c_bind _ hw (c_if_pos a0 (c_if_pos a1 (Ev.now _))))))⟩
      · exact ⟨_, p + 1 + 1, by simp; omega, by omega, go _ (c_if_neg d0 (c_if_neg d1 (c_if_pos (by omega) (c_if_pos (by omega) (Ev.now _)))))⟩
theorem dr_trendl (l : List Int) (hl : bytes l) (hn : l.length ≤ 2000) : ∀ (d : Nat) (out : List TP) (a b c e : Int) (p : Nat), 1 ≤ e → e ≤ 100 → out.length + d ≤ 13 → p + 4 * d ≤ 980 → ∃ (y : List TP) (q : Nat), y.length ≤ 14 ∧ q ≤ p + 4 * d + 9 ∧ Ev (fun k => spec_l20Trend.l0 k 12 out a b c e (d : Int) l (p : Int)) (y, (q : Int))
  | 0, out, a, b, c, e, p, h1, h2, h3, h4 => by
    by_cases h : out.length = 0
    · obtain ⟨y, q, hy, hq, he⟩ := dr_trend1 l hl hn out (by omega) false (by simp) p (by omega)
      refine ⟨y, q, hy, by omega, c_next ?_⟩
      simp only [spec_l20Trend.l0]
      exact c_if_neg (by omega) (c_if_neg (by omega) he)
    · obtain ⟨f, hf⟩ := dr_odd l hl hn p 12 (by omega) (by omega) (by omega)
      obtain ⟨y, q, hy, hq, he⟩ := dr_trend1 l hl hn out (by omega) f (fun _ => by omega) (p + 1) (by omega)
      refine ⟨y, q, hy, by omega, c_next ?_⟩
      simp only [spec_l20Trend.l0]
      exact c_if_neg (by omega) (c_if_pos (by omega) (c_bind _ hf he))
  | d + 1, out, a, b, c, e, p, h1, h2, h3, h4 => by
    obtain ⟨u, u0, u1, hu⟩ := dr_pick l hl hn p e (by omega) (by omega) (by omega)
    obtain ⟨v, v0, v1, hv⟩ := dr_pick l hl hn (p + 1) 6 (by omega) (by omega) (by omega)
    obtain ⟨f, hf⟩ := dr_odd l hl hn (p + 1 + 1) 5 (by omega) (by omega) (by omega)
    have ed : wrap64 (((d + 1 : Nat) : Int) - 1) = (d : Int) := by
      rw [c_w64 (by omega) (by omega)]
      omega
    cases f with
    | true =>
      obtain ⟨g, g0, g1, hg⟩ := dr_pick l hl hn (p + 1 + 1 + 1) 41 (by omega) (by omega) (by omega)
      obtain ⟨y, q, hy, hq, he⟩ := dr_trendl l hl hn d (out ++ [(⟨a, wrap64 (b + u)⟩ : TP)]) (wrap64 (a + (wrap64 (1 + v)))) (wrap64 (b + (wrap64 (c * (wrap64 (1 + v)))))) (wrap64 (g - 20)) e (p + 1 + 1 + 1 + 1) h1 h2 (by simp; omega) (by omega)
      refine ⟨y, q, hy, by omega, c_next ?_⟩
      simp only [spec_l20Trend.l0]
      rw [ed]
      exact c_if_pos (by omega) (c_bind _ hu (c_if_pos (by omega) (c_bind1 _ rfl (c_bind _ hv (c_bind _ hf (c_if_pos rfl (c_bind _ hg he)))))))
    | false =>
      obtain ⟨y, q, hy, hq, he⟩ := dr_trendl l hl hn d (out ++ [(⟨a, wrap64 (b + u)⟩ : TP)]) (wrap64 (a + (wrap64 (1 + v)))) (wrap64 (b + (wrap64 (c * (wrap64 (1 + v)))))) c e (p + 1 + 1 + 1) h1 h2 (by simp; omega) (by omega)
      refine ⟨y, q, hy, by omega, c_next ?_⟩
      simp only [spec_l20Trend.l0]
      rw [ed]
      exact c_if_pos (by omega) (c_bind _ hu (c_if_pos (by omega) (c_bind1 _ rfl (c_bind _ hv (c_bind _ hf (c_if_neg (by simp) he))))))
theorem dr_draw (l : List Int) (hl : bytes l) : ∃ (y : List TP) (t : Int), y.length ≤ 14 ∧ (t = 0 ∨ t = 1 ∨ t = 2 ∨ t = 5 ∨ t = 30 ∨ t = -1) ∧ Ev (fun k => spec_DrawCompressTrend.f k l) (y, t) := by
  obtain ⟨m, hm, hn, ho⟩ := dr_open l hl
  obtain ⟨a, a0, a1, ha⟩ := dr_pick m hm hn 0 5 (by omega) (by omega) (by omega)
  obtain ⟨b, b0, b1, hb⟩ := dr_pick m hm hn 1 200 (by omega) (by omega) (by omega)
  obtain ⟨c, c0, c1, hc⟩ := dr_pick m hm hn 2 9 (by omega) (by omega) (by omega)
  obtain ⟨d, d0, d1, hd⟩ := dr_pick m hm hn 3 6 (by omega) (by omega) (by omega)
  obtain ⟨e, e0, e1, he⟩ := dr_pick m hm hn 4 14 (by omega) (by omega) (by omega)
  obtain ⟨E, rfl⟩ : ∃ E : Nat, e = (E : Int) := ⟨e.toNat, by omega⟩
  obtain ⟨y, q, hy, hq, ht⟩ := dr_trendl m hm hn E [] a (wrap64 (b - 100)) (wrap64 (c - 4)) (wrap64 (1 + d)) 5 (by rw [c_w64 (by omega) (by omega)]; omega) (by rw [c_w64 (by omega) (by omega)]; omega) (by simp; omega) (by omega)
  obtain ⟨f, f0, f1, hf⟩ := dr_pick m hm hn q 8 (by omega) (by omega) (by omega)
  have hx : (0 ≤ rd [0, 1, 2, 3, 4, 1, 2, 5] f ∧ rd [0, 1, 2, 3, 4, 1, 2, 5] f < 6) ∧ (rd [0, 1, 2, 5, 30, -1] (rd [0, 1, 2, 3, 4, 1, 2, 5] f) = 0 ∨ rd [0, 1, 2, 5, 30, -1] (rd [0, 1, 2, 3, 4, 1, 2, 5] f) = 1 ∨ rd [0, 1, 2, 5, 30, -1] (rd [0, 1, 2, 3, 4, 1, 2, 5] f) = 2 ∨ rd [0, 1, 2, 5, 30, -1] (rd [0, 1, 2, 3, 4, 1, 2, 5] f) = 5 ∨ rd [0, 1, 2, 5, 30, -1] (rd [0, 1, 2, 3, 4, 1, 2, 5] f) = 30 ∨ rd [0, 1, 2, 5, 30, -1] (rd [0, 1, 2, 3, 4, 1, 2, 5] f) = -1) := by
    have : f = 0 ∨ f = 1 ∨ f = 2 ∨ f = 3 ∨ f = 4 ∨ f = 5 ∨ f = 6 ∨ f = 7 := by omega
    rcases this with rfl | rfl | rfl | rfl | rfl | rfl | rfl | rfl <;> decide
  refine ⟨y, _, hy, hx.2, ?_⟩
  unfold spec_DrawCompressTrend.f spec_l20Trend.f
  refine c_bind1 _ ho (c_bind (y, (q : Int)) ?_ (c_bind1 _ rfl (c_bind1 _ rfl (c_bind _ hf (c_if_pos f0 (c_if_pos f1 (c_if_pos hx.1.1 (c_if_pos hx.1.2 (Ev.now _)))))))))
  exact c_bind _ ha (c_bind _ hb (c_bind _ hc (c_bind _ hd (c_bind _ he ht))))
theorem cl_mono (x : List TP) (hv : tvalid x) (i : Nat) : ∀ d, 0 < d → i + d < x.length → tt x i < tt x (i + d)
  | 0, h, _ => absurd h (by omega)
  | d + 1, _, h => by
    have h1 := (hv.2 (i + (d + 1)) h).2.2.2.2 (by omega)
    rw [show i + (d + 1) - 1 = i + d from by omega] at h1
    by_cases h0 : d = 0
    · subst h0
      exact h1
    · have := cl_mono x hv i d (by omega) (by omega)
      omega
/-- What is kept so far: good points, the last of which is point i. -/
def kept (x : List TP) (i : Nat) (out : List TP) : Prop := 1 ≤ out.length ∧ out.length ≤ i + 1 ∧ (∀ a, a < out.length → tgood out a) ∧ tt out (out.length - 1) = tt x i
theorem cl_left (out : List TP) (p : TP) (a : Nat) (h : a < out.length) : rd_T84 (out ++ [p]) (a : Int) = rd_T84 out (a : Int) := by
  simp only [rd_T84, Int.toNat_natCast, List.getD_eq_getElem?_getD]
  rw [List.getElem?_append_left h]
theorem cl_right (out : List TP) (p : TP) : rd_T84 (out ++ [p]) (out.length : Int) = p := by
  simp [rd_T84, List.getD_eq_getElem?_getD]
theorem cl_kept (x : List TP) (hv : tvalid x) (i j : Nat) (out : List TP) (hij : i < j) (hj : j < x.length) (h : kept x i out) : kept x j (out ++ [rd_T84 x (j : Int)]) := by
  obtain ⟨h1, h2, h3, h4⟩ := h
  have hlen : (out ++ [rd_T84 x (j : Int)]).length = out.length + 1 := by simp
  refine ⟨by omega, by omega, fun a ha => ?_, ?_⟩
  · by_cases c : a < out.length
    · have g := h3 a c
      unfold tgood tt tv at g ⊢
      rw [cl_left out _ a c]
      refine ⟨g.1, g.2.1, g.2.2.1, g.2.2.2.1, fun h0 => ?_⟩
      rw [cl_left out _ (a - 1) (by omega)]
      exact g.2.2.2.2 h0
    · have ea : a = out.length := by omega
      subst ea
      have g := hv.2 j hj
      have m := cl_mono x hv i (j - i) (by omega) (by omega)
      rw [show i + (j - i) = j from by omega] at m
      unfold tgood tt tv at *
      rw [cl_right]
      refine ⟨g.1, g.2.1, g.2.2.1, g.2.2.2.1, fun h0 => ?_⟩
      rw [cl_left out _ (out.length - 1) (by omega), h4]
      exact m
  · unfold tt
    rw [hlen, show out.length + 1 - 1 = out.length from by omega, cl_right]
theorem cl_out (x : List TP) (hv : tvalid x) (tol : Int) : ∀ (d i : Nat) (out : List TP), x.length ≤ i + d + 1 → i < x.length → kept x i out →
    Both (fun y => tvalid y ∧ 0 < y.length) (fun k => spec_CompressTrend.l0 k x tol out (i : Int)) (fun k => impl_CompressTrend.l0 k x tol out (i : Int))
  | 0, i, out, h, hi, ho => by
    have hx := hv.1
    have e1 : wrap64 ((x.length : Int) - 1) = (x.length : Int) - 1 := c_w64 (by omega) (by omega)
    have ho' := ho.2.1
    refine b_next ?_
    simp only [spec_CompressTrend.l0, impl_CompressTrend.l0]
    rw [e1]
    exact b_negL (by omega) (b_negR (by omega) (b_bindR1 out (if_pos (by omega)) (b_now out ⟨⟨by omega, ho.2.2.1⟩, ho.1⟩)))
  | d + 1, i, out, h, hi, ho => by
    have hx := hv.1
    have e1 : wrap64 ((x.length : Int) - 1) = (x.length : Int) - 1 := c_w64 (by omega) (by omega)
    have ho' := ho.2.1
    refine b_next ?_
    simp only [spec_CompressTrend.l0, impl_CompressTrend.l0]
    rw [e1, c_succ i (by omega)]
    refine b_if (fun hc => ?_) (fun _ => b_bindR1 out (if_pos (by omega)) (b_now out ⟨⟨by omega, ho.2.2.1⟩, ho.1⟩))
    exact co_in x hx tol i out ho' _ (fun j h1 h2 => cl_out x hv tol d j _ (by omega) h2 (cl_kept x hv i j out h1 h2 ho)) (x.length - 1 - (i + 1)) (i + 1) (by omega) (by omega)
theorem cl_both (x : List TP) (hx : x.length ≤ 1048576) (tol : Int) : Both (fun y => y = [] ∨ (tvalid y ∧ 0 < y.length)) (fun k => spec_CompressTrend.f k x tol) (fun k => impl_CompressTrend.f k x tol) := by
  obtain ⟨b, hv, hs, hi⟩ := tr_valid_ev x hx
  have hbad : Both (fun y : List TP => y = [] ∨ (tvalid y ∧ 0 < y.length)) (fun k => spec_CompressTrend.j0 k x tol [] true) (fun k => impl_CompressTrend.j0 k x tol true) := by
    refine b_next ?_
    simp only [spec_CompressTrend.j0, impl_CompressTrend.j0]
    exact b_posL trivial (b_posR trivial (b_now [] (Or.inl rfl)))
  unfold spec_CompressTrend.f impl_CompressTrend.f
  refine b_bindL1 [] rfl (b_bindL b hs (b_bindR b hi ?_))
  cases b with
  | false => exact b_negL (by simp) (b_negR (by simp) hbad)
  | true =>
    have hl := (hv rfl).1
    simp only [tr_l1, tr_in]
    refine b_posL trivial (b_posR trivial (b_bindL1 _ rfl (b_bindR1 _ rfl (b_if (fun _ => ?_) (fun _ => hbad)))))
    by_cases h0 : x.length = 0
    · rw [show ((x.length : Int) == 0) = true from beq_iff_eq.2 (by omega)]
      exact hbad
    · rw [show ((x.length : Int) == 0) = false from beq_eq_false_iff_ne.2 (by omega)]
      refine b_next ?_
      simp only [spec_CompressTrend.j0, impl_CompressTrend.j0]
      refine b_negL (by simp) (b_negR (by simp) (b_posL (by omega) (b_posR (by omega) (b_posL (by simp) ?_))))
      refine b_mono (cl_out x (hv rfl) tol x.length 0 _ (by omega) (by omega) ?_) (fun y hy => Or.inr hy)
      refine ⟨by simp, by simp, fun a ha => ?_, rfl⟩
      have ea : a = 0 := by simp at ha; omega
      subst ea
      have g := (hv rfl).2 0 (by omega)
      exact ⟨g.1, g.2.1, g.2.2.1, g.2.2.2.1, fun h => absurd h (by omega)⟩
theorem cl_valid (x : List TP) (hv : tvalid x) : ∀ (d i : Nat) (last : Int), i + d = x.length → last = (if i = 0 then -1 else tt x (i - 1)) → Ev (fun k => impl_TrendValid.l0 k x last x (x.length : Int) (i : Int)) true
  | 0, i, last, h, hl => by
    have hx := hv.1
    refine c_next ?_
    simp only [impl_TrendValid.l0]
    exact Ev.congr (fun k => by rw [if_neg (by omega), decide_eq_true (by omega)]) (Ev.now true)
  | d + 1, i, last, h, hl => by
    have hx := hv.1
    have g := hv.2 i (by omega)
    have hlast : -1 ≤ last ∧ last ≤ 10000 ∧ last < tt x i := by
      by_cases e : i = 0
      · rw [if_pos e] at hl
        have := g.1
        omega
      · rw [if_neg e] at hl
        have h1 := (hv.2 (i - 1) (by omega)).1
        have h2 := (hv.2 (i - 1) (by omega)).2.1
        have h3 := g.2.2.2.2 (by omega)
        omega
    refine c_next ?_
    simp only [impl_TrendValid.l0, tr_in, tr_iw]
    rw [c_succ i (by omega), c_w64 (x := last + 1) (by omega) (by omega)]
    refine c_if_pos (by omega) (c_if_pos (by omega) (c_if_pos (by omega) ?_))
    refine c_bind1 true (congrArg some (decide_eq_true ?_)) (c_if_pos rfl (c_bind1 true (congrArg some (decide_eq_true ⟨g.2.2.1, g.2.2.2.1⟩)) (c_if_pos rfl ?_)))
    · have := g.2.1
      unfold tt at *
      omega
    · exact cl_valid x hv d (i + 1) (tt x i) (by omega) (by rw [if_neg (by omega)]; rfl)
theorem cl_floor (D b : Int) (hD : -65535 ≤ D ∧ D ≤ 65535) (hb : 0 < b ∧ b ≤ 10000) : impl_floor.f (wrap64 (D * b)) b = some D := by
  have h1 : D * b ≤ 65535 * 10000 := by
    have a1 : D * b ≤ 65535 * b := Int.mul_le_mul_of_nonneg_right hD.2 (by omega)
    omega
  have h2 : -65535 * 10000 ≤ D * b := by
    have a1 : -65535 * b ≤ D * b := Int.mul_le_mul_of_nonneg_right hD.1 (by omega)
    omega
  unfold impl_floor.f
  rw [c_w64 (by omega) (by omega), if_neg (by omega), Int.mul_tmod_left, if_neg (by omega), Int.mul_tdiv_cancel _ (by omega), c_w64 (by omega) (by omega)]
theorem cl_at_l (x : List TP) (hv : tvalid x) (i : Nat) (hi : i < x.length) : ∀ (d j : Nat), j + 1 + d = i → Ev (fun k => impl_trendAt.l0 k x (tt x i) (x.drop 1) ((x.drop 1).length : Int) (j : Int)) (tv x i)
  | 0, j, h => by
    have hx := hv.1
    have ei : i = j + 1 := by omega
    subst ei
    have g := hv.2 (j + 1) hi
    have g' := hv.2 j (by omega)
    have m := g.2.2.2.2 (by omega)
    have ef := cl_floor (tv x (j + 1) - tv x j) (tt x (j + 1) - tt x j) (by have := g.2.2.1; have := g.2.2.2.1; have := g'.2.2.1; have := g'.2.2.2.1; omega) (by have := g.2.1; have := g'.1; rw [Nat.add_sub_cancel] at m; omega)
    rw [Nat.add_sub_cancel] at m
    have w1 : wrap64 (tv x (j + 1) - tv x j) = tv x (j + 1) - tv x j := c_w64 (by have := g.2.2.1; have := g'.2.2.2.1; omega) (by have := g'.2.2.1; have := g.2.2.2.1; omega)
    have w2 : wrap64 (tt x (j + 1) - tt x j) = tt x (j + 1) - tt x j := c_w64 (by omega) (by have := g.2.1; have := g'.1; omega)
    refine c_next ?_
    simp only [impl_trendAt.l0, ta_drop, List.length_drop]
    refine c_if_pos (by omega) (c_if_pos (by omega) (c_if_pos (by omega) (c_if_pos (by omega) (c_if_pos (Int.le_refl _) (c_bind1 (tv x (j + 1) - tv x j) ?_ ?_)))))
    · show impl_floor.f (wrap64 (wrap64 (tv x (j + 1) - tv x j) * wrap64 (tt x (j + 1) - tt x j))) (wrap64 (tt x (j + 1) - tt x j)) = _
      rw [w1, w2]
      exact ef
    · refine Ev.congr (fun k => ?_) (Ev.now (tv x (j + 1)))
      have hh : wrap64 (tv x j + (tv x (j + 1) - tv x j)) = tv x (j + 1) := by
        rw [c_w64 (by have := g.2.2.1; omega) (by have := g.2.2.2.1; omega)]
        omega
      exact congrArg some hh
  | d + 1, j, h => by
    have hx := hv.1
    have m := cl_mono x hv (j + 1) (i - (j + 1)) (by omega) (by omega)
    rw [show j + 1 + (i - (j + 1)) = i from by omega] at m
    refine c_next ?_
    simp only [impl_trendAt.l0, ta_drop]
    rw [c_succ j (by omega)]
    exact c_if_pos (by rw [List.length_drop]; omega) (c_if_pos (by omega) (c_if_pos (by rw [List.length_drop]; omega) (c_if_pos (by omega) (c_if_neg (by unfold tt at m; unfold tt; omega) (cl_at_l x hv i hi d (j + 1) (by omega))))))
theorem cl_at (x : List TP) (hv : tvalid x) (i : Nat) (hi : i < x.length) : Ev (fun k => impl_trendAt.f k x (tt x i)) (tv x i) := by
  have hx := hv.1
  unfold impl_trendAt.f
  by_cases h0 : i = 0
  · subst h0
    exact c_if_pos (by omega) (c_if_pos (Int.le_refl _) (Ev.now _))
  · have m := cl_mono x hv 0 i (by omega) (by omega)
    rw [Nat.zero_add] at m
    exact c_if_pos (by omega) (c_if_neg (show ¬ tt x i ≤ tt x 0 from by omega) (c_if_pos (by omega) (c_bind1 _ rfl (cl_at_l x hv i hi (i - 1) 0 (by omega)))))
theorem cl_err (x : List TP) (hv : tvalid x) : ∀ (d i : Nat), i + d = x.length → Ev (fun k => impl_TrendError.l0 k x 0 x (x.length : Int) (i : Int)) 0
  | 0, i, h => by
    refine c_next ?_
    simp only [impl_TrendError.l0]
    exact c_if_neg (by omega) (Ev.now 0)
  | d + 1, i, h => by
    have hx := hv.1
    refine c_next ?_
    simp only [impl_TrendError.l0]
    rw [c_succ i (by omega)]
    refine c_if_pos (by omega) (c_if_pos (by omega) (c_if_pos (by omega) (c_bind _ (cl_at x hv i (by omega)) ?_)))
    have e : (mx (mx 0 (wrap64 ((rd_T84 x (i : Int)).f1 - tv x i))) (wrap64 (-(wrap64 ((rd_T84 x (i : Int)).f1 - tv x i))))) = 0 := by
      have : (rd_T84 x (i : Int)).f1 - tv x i = 0 := Int.sub_self _
      rw [this]
      show _ = (0 : Int)
      kernel_rfl
    rw [e]
    exact cl_err x hv d (i + 1) (by omega)
theorem cl_error (x : List TP) (hv : tvalid x) (h0 : 0 < x.length) : Ev (fun k => impl_TrendError.f k x x) 0 := by
  have hb : Ev (fun k => impl_TrendValid.f k x) true := cl_valid x hv x.length 0 (-1) (by omega) rfl
  unfold impl_TrendError.f
  refine c_bind _ hb (c_if_pos rfl (c_bind _ hb (c_if_pos rfl ?_)))
  rw [show ((x.length : Int) == 0) = false from beq_eq_false_iff_ne.2 (by omega)]
  refine c_next ?_
  simp only [impl_TrendError.j0]
  exact c_if_neg (by simp) (cl_err x hv x.length 0 (by omega))
theorem cl_same_l (x : List TP) (hn : x.length ≤ 1048576) : ∀ (d i : Nat), i + d = x.length → Ev (fun k => laws_samePoints.l0 k x x (i : Int)) true
  | 0, i, h => by
    refine c_next ?_
    simp only [laws_samePoints.l0]
    exact c_if_neg (by omega) (Ev.now true)
  | d + 1, i, h => by
    refine c_next ?_
    simp only [laws_samePoints.l0]
    rw [c_succ i (by omega)]
    exact c_if_pos (by omega) (c_if_pos (by omega) (c_if_pos (by omega) (c_if_neg (by simp) (cl_same_l x hn d (i + 1) (by omega)))))
theorem cl_same (x : List TP) (hn : x.length ≤ 1048576) : Ev (fun k => laws_samePoints.f k x x) true := by
  unfold laws_samePoints.f
  exact c_if_pos rfl (cl_same_l x hn x.length 0 (by omega))
theorem cl_up (x : List TP) (t : Int) (n : Nat) (y : List TP) (h : impl_CompressTrend.f n x t = some y) : Ev (fun k => impl_CompressTrend.f k x t) y := by
  refine ⟨n, fun k hk => ?_⟩
  obtain ⟨d, rfl⟩ : ∃ d, k = n + d := ⟨k - n, by omega⟩
  clear hk
  induction d with
  | zero => exact h
  | succ d ih => exact impl_CompressTrend.mono x t (n + d) y ih
def line9 : List TP := [⟨0, 100⟩, ⟨3, 93⟩, ⟨6, 86⟩, ⟨9, 79⟩, ⟨12, 72⟩, ⟨15, 65⟩, ⟨18, 58⟩, ⟨21, 51⟩, ⟨24, 44⟩]
def two9 : List TP := [⟨0, 100⟩, ⟨24, 44⟩]
theorem cl_line0 : impl_CompressTrend.f 60 line9 0 = some two9 := by kernel_rfl
theorem cl_line1 : impl_CompressTrend.f 60 line9 1 = some two9 := by kernel_rfl
theorem cl_line2 : impl_CompressTrend.f 60 line9 2 = some two9 := by kernel_rfl
theorem cl_line5 : impl_CompressTrend.f 60 line9 5 = some two9 := by kernel_rfl
theorem cl_line30 : impl_CompressTrend.f 60 line9 30 = some two9 := by kernel_rfl
theorem cl_loop (k : Nat) (t : Int) (y : List TP) : laws_FnCompressLine.l0 (k + 10) t y [] 0 = (impl_CompressTrend.f k line9 (mx 0 t)).bind fun t300 => (if (t300.length : Int) = 2 then (if (y.length : Int) = 0 then (some true) else ((impl_TrendError.f k y y).bind fun t303 => (some (t303 == 0)))) else (some false)) := by kernel_rfl
theorem FnCompressLine : ∀ (l0 : List Int), (l0.length ≤ maxLen ∧ ∀ y2 ∈ l0, (Lit.int .u8 y2).wf = true) → ∃ k, laws_FnCompressLine.f k l0 = some true := by
  intro x hx0
  have hx := hx0.1
  have hb := hx0.2
  refine Ev.rounds (r := true) ?_
  unfold laws_FnCompressLine.f
  by_cases cx : (x.length : Int) > 1048576
  · exact c_if_pos cx (Ev.now true)
  obtain ⟨l, t, hl, ht, hd⟩ := dr_draw x (dr_bytes x hb)
  obtain ⟨y, hy, hs, hi⟩ := cl_both l (by omega) t
  have hyl : y.length ≤ 100 := by
    rcases hy with rfl | hy
    · simp
    · exact hy.1.1
  refine c_if_neg cx (c_bind _ hd (c_bind _ hi (c_bind _ hs (c_bind _ (cl_same y (by omega)) (c_if_pos rfl ?_)))))
  have htwo : Ev (fun k => impl_CompressTrend.f k line9 (mx 0 t)) two9 := by
    rcases ht with rfl | rfl | rfl | rfl | rfl | rfl
    · exact cl_up _ _ _ _ cl_line0
    · exact cl_up _ _ _ _ cl_line1
    · exact cl_up _ _ _ _ cl_line2
    · exact cl_up _ _ _ _ cl_line5
    · exact cl_up _ _ _ _ cl_line30
    · exact cl_up _ _ _ _ cl_line0
  have hfin : Ev (fun k => (impl_CompressTrend.f k line9 (mx 0 t)).bind fun t300 => (if (t300.length : Int) = 2 then (if (y.length : Int) = 0 then (some true) else ((impl_TrendError.f k y y).bind fun t303 => (some (t303 == 0)))) else (some false))) true := by
    refine c_bind _ htwo (c_if_pos rfl ?_)
    rcases hy with rfl | hy
    · exact c_if_pos rfl (Ev.now true)
    · exact c_if_neg (by omega) (c_bind _ (cl_error y hy.1 hy.2) (Ev.now true))
  obtain ⟨K, hK⟩ := hfin
  refine ⟨K + 10, fun k hk => ?_⟩
  obtain ⟨d, rfl⟩ : ∃ d, k = d + 10 := ⟨k - 10, by omega⟩
  exact (cl_loop d t y).trans (hK d (by omega))

end Go.Proofs.Ythbbhdadioiefaa.Pure
