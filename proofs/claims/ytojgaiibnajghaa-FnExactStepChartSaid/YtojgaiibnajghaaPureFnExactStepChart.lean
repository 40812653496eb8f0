/- For every chart, number of steps, set of steps and image the law of StepChart answers true (no condition beyond the kinds and the reach of the arguments). -/
import Derived.Test.YtojgaiibnajghaaQFnExactStepChartx3
namespace Go.Proofs.Ytojgaiibnajghaa.Pure
open Go.RowKit Go.Proofs.Ytojgaiibnajghaa.QFnExactStepChart Go.Proofs.YtojgaiibnajghaaW.PrintWords Go.Proofs.YtojgaiibnajghaaW.PrintLast Go.Proofs.YtojgaiibnajghaaW.PrintMore
set_option linter.unusedVariables false
set_option linter.unusedSimpArgs false

theorem c_ev_det {α : Type} {g : Nat → Option α} {r r' : α} (h : Ev g r) (h' : Ev g r') : r = r' := by
  obtain ⟨K, h⟩ := h
  obtain ⟨K', h'⟩ := h'
  have h1 := h (max K K') (by omega)
  have h2 := h' (max K K') (by omega)
  rw [h1] at h2
  exact Option.some.inj h2
theorem c_w64 {x : Int} (h0 : -9223372036854775808 ≤ x) (h1 : x ≤ 9223372036854775807) : wrap64 x = x := by
  unfold wrap64
  omega
theorem c_succ (i : Nat) (h : i < 9223372036854775807) : wrap64 ((i : Int) + 1) = ((i + 1 : Nat) : Int) := by
  unfold wrap64
  omega
theorem c_take_set {α : Type} (x acc : List α) (v : α) (i : Nat) (hv : x[i]? = some v) (hl : acc.length = x.length) (ht : acc.take i = x.take i) : (acc.set i v).take (i + 1) = x.take (i + 1) := by
  have hi : i < x.length := (List.getElem?_eq_some_iff.1 hv).1
  apply List.ext_getElem?
  intro j
  have hj := congrArg (fun l => l[j]?) ht
  simp only [List.getElem?_take] at hj
  rw [List.getElem?_take, List.getElem?_take]
  by_cases h1 : j < i + 1
  · rw [if_pos h1, if_pos h1]
    by_cases h2 : j < i
    · rw [if_pos h2, if_pos h2] at hj
      rw [List.getElem?_set_ne (by omega)]
      exact hj
    · have : j = i := by omega
      subst this
      rw [List.getElem?_set_self (by omega), hv]
  · rw [if_neg h1, if_neg h1]
theorem c_getD {α : Type} (x : List α) (d : α) (i : Nat) (h : i < x.length) : x[i]? = some (x.getD i d) := by
  rw [List.getD_eq_getElem?_getD, List.getElem?_eq_getElem h]
  rfl
theorem c_if_pos {α : Type} {c : Prop} [Decidable c] {g f : Nat → Option α} {r : α} (h : c) (k : Ev g r) : Ev (fun n => if c then g n else f n) r := Ev.congr (fun _ => if_pos h) k
theorem c_if_neg {α : Type} {c : Prop} [Decidable c] {g f : Nat → Option α} {r : α} (h : ¬ c) (k : Ev f r) : Ev (fun n => if c then g n else f n) r := Ev.congr (fun _ => if_neg h) k
theorem c_bind {α β : Type} {g : Nat → Option α} {f : Nat → α → Option β} (a : α) {r : β} (h : Ev g a) (k : Ev (fun n => f n a) r) : Ev (fun n => (g n).bind (f n)) r := Ev.bind h k
theorem c_bind1 {α β : Type} {g : Option α} {f : Nat → α → Option β} (a : α) {r : β} (h : g = some a) (k : Ev (fun n => f n a) r) : Ev (fun n => g.bind (f n)) r := Ev.congr (fun n => by rw [h]; rfl) k

theorem c_next {α : Type} {g : Nat → Option α} {r : α} (h : Ev (fun k => g (k + 1)) r) : Ev g r := Ev.step (fun _ => rfl) h


def c_cvTransition (p : S77) : S75 := ⟨p.f0, p.f1, p.f2⟩
theorem c_szTransitionS (x : List S77) (n : Nat) (hx : x.length ≤ 9223372036854775807) (hn : n ≤ 1048576) : laws_szTransitionS.f x (n : Int) = some (if (n : Int) - x.length < 0 then -1 else (n : Int) - x.length) := by
  unfold laws_szTransitionS.f
  rw [c_w64 (x := (n : Int) - (x.length : Int)) (by omega) (by omega)]
  split <;> rfl
theorem c_toTransitionS_l (x : List S77) (hn : x.length < 4611686018427387904) : ∀ (d : Nat) (acc : List S75) (i : Nat), acc.length = x.length → i + d = x.length → acc.take i = (x.map c_cvTransition).take i → Ev (fun k => laws_toTransitionS.l0 k x acc (i : Int)) (x.map c_cvTransition)
  | 0, acc, i, hl, hi, ht => by
    have e : acc = x.map c_cvTransition := by
      rw [List.take_of_length_le (by omega), List.take_of_length_le (by rw [List.length_map]; omega)] at ht
      exact ht
    subst e
    refine c_next ?_
    simp only [laws_toTransitionS.l0]
    exact c_if_neg (by omega) (Ev.now _)
  | d + 1, acc, i, hl, hi, ht => by
    refine c_next ?_
    simp only [laws_toTransitionS.l0, laws_toTransition.f]
    rw [c_succ i (by omega), Int.toNat_natCast]
    refine c_if_pos (by omega) (c_if_pos (by omega) (c_bind1 _ rfl (c_if_pos (by omega) ?_)))
    refine c_toTransitionS_l x hn d _ (i + 1) (by rw [List.length_set]; exact hl) (by omega) (c_take_set (x.map c_cvTransition) acc _ i ?_ (by rw [hl, List.length_map]) ht)
    rw [List.getElem?_map, c_getD x z77 i (by omega)]
    simp only [Option.map_some, c_cvTransition, rd_T77, Int.toNat_natCast]
theorem c_toTransitionS_ev (x : List S77) (hn : x.length ≤ 1048576) : Ev (fun k => laws_toTransitionS.f k x) (x.map c_cvTransition) := by
  unfold laws_toTransitionS.f
  refine c_if_pos (by omega) (c_if_pos (by omega) ?_)
  refine c_toTransitionS_l x (by omega) x.length _ 0 (by simp) (by omega) (by simp)
theorem c_eqTransition_same (p : S75) : laws_eqTransition.f p.f0 p.f1 p.f2 p.f0 p.f1 p.f2 = some true := by simp [laws_eqTransition.f]
theorem c_eqTransitionS_l (x : List S75) (hn : x.length < 4611686018427387904) : ∀ (d : Nat) (i : Nat), i + d = x.length → Ev (fun k => laws_eqTransitionS.l0 k x x (i : Int)) true
  | 0, i, hi => by
    refine c_next ?_
    simp only [laws_eqTransitionS.l0]
    exact c_if_neg (by omega) (Ev.now true)
  | d + 1, i, hi => by
    refine c_next ?_
    simp only [laws_eqTransitionS.l0]
    rw [c_succ i (by omega)]
    exact c_if_pos (by omega) (c_if_pos (by omega) (c_if_pos (by omega) (c_bind1 true (c_eqTransition_same _) (c_if_pos rfl (c_eqTransitionS_l x hn d (i + 1) (by omega))))))
theorem c_eqTransitionS_ev (x : List S75) (hn : x.length < 4611686018427387904) : Ev (fun k => laws_eqTransitionS.f k x x) true := by
  unfold laws_eqTransitionS.f
  exact c_if_pos rfl (c_eqTransitionS_l x hn x.length 0 (by omega))


theorem c_toIntS_l (x : List Int) (hn : x.length < 4611686018427387904) : ∀ (d : Nat) (acc : List Int) (i : Nat), acc.length = x.length → i + d = x.length → acc.take i = x.take i → Ev (fun k => laws_toIntS.l0 k x acc (i : Int)) x
  | 0, acc, i, hl, hi, ht => by
    have e : acc = x := by
      rw [List.take_of_length_le (by omega), List.take_of_length_le (by omega)] at ht
      exact ht
    subst e
    exact Ev.step (f := fun _ => some acc) (fun k => by simp only [laws_toIntS.l0]; rw [if_neg (by omega)]) (Ev.now _)
  | d + 1, acc, i, hl, hi, ht => by
    refine Ev.step (f := fun k => laws_toIntS.l0 k x (acc.set i (x.getD i 0)) ((i + 1 : Nat) : Int)) (fun k => ?_) (c_toIntS_l x hn d _ (i + 1) (by rw [List.length_set]; exact hl) (by omega) (c_take_set x acc _ i (c_getD x 0 i (by omega)) hl ht))
    simp only [laws_toIntS.l0]
    rw [if_pos (by omega), if_pos (by omega), if_pos (by omega), c_succ i (by omega)]
    simp only [rd, Int.toNat_natCast]
theorem c_toIntS_ev (x : List Int) (hn : x.length ≤ 1048576) : Ev (fun k => laws_toIntS.f k x) x := by
  unfold laws_toIntS.f
  refine c_if_pos (by omega) (c_if_pos (by omega) ?_)
  refine c_toIntS_l x (by omega) x.length _ 0 (by simp) (by omega) (by simp)


theorem c_toBoolS_l (x : List Bool) (hn : x.length < 4611686018427387904) : ∀ (d : Nat) (acc : List Bool) (i : Nat), acc.length = x.length → i + d = x.length → acc.take i = x.take i → Ev (fun k => laws_toBoolS.l0 k x acc (i : Int)) x
  | 0, acc, i, hl, hi, ht => by
    have e : acc = x := by
      rw [List.take_of_length_le (by omega), List.take_of_length_le (by omega)] at ht
      exact ht
    subst e
    exact Ev.step (f := fun _ => some acc) (fun k => by simp only [laws_toBoolS.l0]; rw [if_neg (by omega)]) (Ev.now _)
  | d + 1, acc, i, hl, hi, ht => by
    refine Ev.step (f := fun k => laws_toBoolS.l0 k x (acc.set i (x.getD i false)) ((i + 1 : Nat) : Int)) (fun k => ?_) (c_toBoolS_l x hn d _ (i + 1) (by rw [List.length_set]; exact hl) (by omega) (c_take_set x acc _ i (c_getD x false i (by omega)) hl ht))
    simp only [laws_toBoolS.l0]
    rw [if_pos (by omega), if_pos (by omega), if_pos (by omega), c_succ i (by omega)]
    simp only [rdOf, Int.toNat_natCast]
theorem c_toBoolS_ev (x : List Bool) (hn : x.length ≤ 1048576) : Ev (fun k => laws_toBoolS.f k x) x := by
  unfold laws_toBoolS.f
  refine c_if_pos (by omega) (c_if_pos (by omega) ?_)
  refine c_toBoolS_l x (by omega) x.length _ 0 (by simp) (by omega) (by simp)


theorem c_eqIntS_l (x : List Int) (hn : x.length < 4611686018427387904) : ∀ (d : Nat) (i : Nat), i + d = x.length → Ev (fun k => laws_eqIntS.l0 k x x (i : Int)) true
  | 0, i, hi => Ev.step (f := fun _ => some true) (fun k => by simp only [laws_eqIntS.l0]; rw [if_neg (by omega)]) (Ev.now _)
  | d + 1, i, hi => by
    refine Ev.step (f := fun k => laws_eqIntS.l0 k x x ((i + 1 : Nat) : Int)) (fun k => ?_) (c_eqIntS_l x hn d (i + 1) (by omega))
    simp only [laws_eqIntS.l0]
    rw [if_pos (by omega), if_pos (by omega), if_pos (by omega), if_pos trivial, c_succ i (by omega)]
theorem c_eqIntS_ev (x : List Int) (hn : x.length < 4611686018427387904) : Ev (fun k => laws_eqIntS.f k x x) true := by
  unfold laws_eqIntS.f
  exact c_if_pos rfl (c_eqIntS_l x hn x.length 0 (by omega))


theorem c_eqBoolS_l (x : List Bool) (hn : x.length < 4611686018427387904) : ∀ (d : Nat) (i : Nat), i + d = x.length → Ev (fun k => laws_eqBoolS.l0 k x x (i : Int)) true
  | 0, i, hi => Ev.step (f := fun _ => some true) (fun k => by simp only [laws_eqBoolS.l0]; rw [if_neg (by omega)]) (Ev.now _)
  | d + 1, i, hi => by
    refine Ev.step (f := fun k => laws_eqBoolS.l0 k x x ((i + 1 : Nat) : Int)) (fun k => ?_) (c_eqBoolS_l x hn d (i + 1) (by omega))
    simp only [laws_eqBoolS.l0]
    rw [if_pos (by omega), if_pos (by omega), if_pos (by omega), if_neg (by simp), c_succ i (by omega)]
theorem c_eqBoolS_ev (x : List Bool) (hn : x.length < 4611686018427387904) : Ev (fun k => laws_eqBoolS.f k x x) true := by
  unfold laws_eqBoolS.f
  exact c_if_pos rfl (c_eqBoolS_l x hn x.length 0 (by omega))


def c_mkBool (m : Int) (n : Nat) : List Bool := (List.range n).map fun (j : Nat) => (Int.tmod (m + (j : Int)) 3 == 0)
theorem c_mkBool_len (m : Int) (n : Nat) : (c_mkBool m n).length = n := by simp [c_mkBool]
theorem c_mkBool_at (m : Int) (n i : Nat) (h : i < n) : (c_mkBool m n)[i]? = some (Int.tmod (m + (i : Int)) 3 == 0) := by simp [c_mkBool, h]


def c_mkInt (m : Int) (n : Nat) : List Int := (List.range n).map fun (j : Nat) => ((m + (j : Int)))
theorem c_mkInt_len (m : Int) (n : Nat) : (c_mkInt m n).length = n := by simp [c_mkInt]
theorem c_mkInt_at (m : Int) (n i : Nat) (h : i < n) : (c_mkInt m n)[i]? = some ((m + (i : Int))) := by simp [c_mkInt, h]

/-- Both come to one answer, which has P. -/
def Both {α : Type} (P : α → Prop) (g h : Nat → Option α) : Prop := ∃ r, P r ∧ Ev g r ∧ Ev h r
theorem b_now {α : Type} {P : α → Prop} (a : α) (h : P a) : Both P (fun _ => some a) (fun _ => some a) := ⟨a, h, Ev.now a, Ev.now a⟩
theorem b_nextL {α : Type} {P : α → Prop} {g h : Nat → Option α} (k : Both P (fun n => g (n + 1)) h) : Both P g h := by
  obtain ⟨r, hp, h1, h2⟩ := k
  exact ⟨r, hp, c_next h1, h2⟩
theorem b_nextR {α : Type} {P : α → Prop} {g h : Nat → Option α} (k : Both P g (fun n => h (n + 1))) : Both P g h := by
  obtain ⟨r, hp, h1, h2⟩ := k
  exact ⟨r, hp, h1, c_next h2⟩
theorem b_next {α : Type} {P : α → Prop} {g h : Nat → Option α} (k : Both P (fun n => g (n + 1)) (fun n => h (n + 1))) : Both P g h := b_nextL (b_nextR k)
theorem b_posL {α : Type} {P : α → Prop} {c : Prop} [Decidable c] {g f h : Nat → Option α} (hc : c) (k : Both P g h) : Both P (fun n => if c then g n else f n) h := by
  obtain ⟨r, hp, h1, h2⟩ := k
  exact ⟨r, hp, c_if_pos hc h1, h2⟩
theorem b_negL {α : Type} {P : α → Prop} {c : Prop} [Decidable c] {g f h : Nat → Option α} (hc : ¬ c) (k : Both P f h) : Both P (fun n => if c then g n else f n) h := by
  obtain ⟨r, hp, h1, h2⟩ := k
  exact ⟨r, hp, c_if_neg hc h1, h2⟩
theorem b_posR {α : Type} {P : α → Prop} {c : Prop} [Decidable c] {g f h : Nat → Option α} (hc : c) (k : Both P h g) : Both P h (fun n => if c then g n else f n) := by
  obtain ⟨r, hp, h1, h2⟩ := k
  exact ⟨r, hp, h1, c_if_pos hc h2⟩
theorem b_negR {α : Type} {P : α → Prop} {c : Prop} [Decidable c] {g f h : Nat → Option α} (hc : ¬ c) (k : Both P h f) : Both P h (fun n => if c then g n else f n) := by
  obtain ⟨r, hp, h1, h2⟩ := k
  exact ⟨r, hp, h1, c_if_neg hc h2⟩
theorem b_if {α : Type} {P : α → Prop} {c : Prop} [Decidable c] {g f g' f' : Nat → Option α} (hp : c → Both P g g') (hn : ¬ c → Both P f f') : Both P (fun n => if c then g n else f n) (fun n => if c then g' n else f' n) := by
  by_cases hc : c
  · exact b_posL hc (b_posR hc (hp hc))
  · exact b_negL hc (b_negR hc (hn hc))
theorem b_iff {α : Type} {P : α → Prop} {c d : Prop} [Decidable c] [Decidable d] {g f g' f' : Nat → Option α} (e : c ↔ d) (hp : c → Both P g g') (hn : ¬ c → Both P f f') : Both P (fun n => if c then g n else f n) (fun n => if d then g' n else f' n) := by
  by_cases hc : c
  · exact b_posL hc (b_posR (e.1 hc) (hp hc))
  · exact b_negL hc (b_negR (fun h => hc (e.2 h)) (hn hc))
theorem b_bind {α β : Type} {Q : α → Prop} {P : β → Prop} {g h : Nat → Option α} {f f' : Nat → α → Option β} (k : Both Q g h) (l : ∀ a, Q a → Both P (fun n => f n a) (fun n => f' n a)) : Both P (fun n => (g n).bind (f n)) (fun n => (h n).bind (f' n)) := by
  obtain ⟨a, ha, h1, h2⟩ := k
  obtain ⟨r, hp, h3, h4⟩ := l a ha
  exact ⟨r, hp, c_bind a h1 h3, c_bind a h2 h4⟩
theorem b_bindL {α β : Type} {P : β → Prop} {g : Nat → Option α} {f : Nat → α → Option β} {h : Nat → Option β} (a : α) (e : Ev g a) (k : Both P (fun n => f n a) h) : Both P (fun n => (g n).bind (f n)) h := by
  obtain ⟨r, hp, h1, h2⟩ := k
  exact ⟨r, hp, c_bind a e h1, h2⟩
theorem b_bindR {α β : Type} {P : β → Prop} {g : Nat → Option α} {f : Nat → α → Option β} {h : Nat → Option β} (a : α) (e : Ev g a) (k : Both P h (fun n => f n a)) : Both P h (fun n => (g n).bind (f n)) := by
  obtain ⟨r, hp, h1, h2⟩ := k
  exact ⟨r, hp, h1, c_bind a e h2⟩
theorem b_bindL1 {α β : Type} {P : β → Prop} {g : Option α} {f : Nat → α → Option β} {h : Nat → Option β} (a : α) (e : g = some a) (k : Both P (fun n => f n a) h) : Both P (fun n => g.bind (f n)) h := by
  obtain ⟨r, hp, h1, h2⟩ := k
  exact ⟨r, hp, c_bind1 a e h1, h2⟩
theorem b_bindR1 {α β : Type} {P : β → Prop} {g : Option α} {f : Nat → α → Option β} {h : Nat → Option β} (a : α) (e : g = some a) (k : Both P h (fun n => f n a)) : Both P h (fun n => g.bind (f n)) := by
  obtain ⟨r, hp, h1, h2⟩ := k
  exact ⟨r, hp, h1, c_bind1 a e h2⟩
theorem b_mono {α : Type} {P Q : α → Prop} {g h : Nat → Option α} (k : Both P g h) (i : ∀ a, P a → Q a) : Both Q g h := by
  obtain ⟨r, hp, h1, h2⟩ := k
  exact ⟨r, i r hp, h1, h2⟩
theorem im_szt (x : List Bool) (y : List Int) (t0 : Int) (h0 : 0 ≤ t0) (h1 : t0 ≤ 1048576) (hx : x.length ≤ 9223372036854775807) (hy : y.length ≤ 9223372036854775807) : (∃ t : Int, t < 0 ∧ laws_szImage.f x y t0 = some t) ∨ ((x.length : Int) + y.length ≤ t0 ∧ ∃ t : Int, ¬ t < 0 ∧ laws_szImage.f x y t0 = some t) := by
  unfold laws_szImage.f laws_szBoolS.f laws_szIntS.f
  rw [c_w64 (x := t0 - (x.length : Int)) (by omega) (by omega)]
  by_cases c : t0 - (x.length : Int) < 0
  · exact Or.inl ⟨-1, by omega, by rw [if_pos c]; rfl⟩
  · rw [if_neg c]
    simp only [Option.bind_some]
    rw [if_neg c, c_w64 (x := t0 - (x.length : Int) - (y.length : Int)) (by omega) (by omega)]
    by_cases c2 : t0 - (x.length : Int) - (y.length : Int) < 0
    · exact Or.inl ⟨-1, by omega, by rw [if_pos c2]; rfl⟩
    · refine Or.inr ⟨by omega, t0 - (x.length : Int) - (y.length : Int), c2, ?_⟩
      rw [if_neg c2]
      simp only [Option.bind_some]
      rw [if_neg c2]
theorem c_toImage_ev (x : List Bool) (y : List Int) (hx : x.length ≤ 1048576) (hy : y.length ≤ 1048576) : Ev (fun k => laws_toImage.f k x y) (x, y) := by
  unfold laws_toImage.f
  exact c_bind x (c_toBoolS_ev x hx) (c_bind y (c_toIntS_ev y hy) (Ev.now (x, y)))
theorem c_eqImage_ev (x : List Bool) (y : List Int) (hx : x.length ≤ 1048576) (hy : y.length ≤ 1048576) : Ev (fun k => laws_eqImage.f k x y x y) true := by
  unfold laws_eqImage.f
  exact c_bind true (c_eqBoolS_ev x (by omega)) (c_if_pos rfl (c_bind true (c_eqIntS_ev y (by omega)) (c_if_pos rfl (Ev.now true))))
theorem im_l1in (a b c : Int) : spec_l1In.f a b c = some (decide (b ≤ a ∧ a ≤ c)) := by
  unfold spec_l1In.f
  by_cases h : a ≥ b
  · rw [if_pos h]
    simp [h]
  · rw [if_neg h]
    simp [h]
def im_ok (x : List Bool) (y : List Int) : Bool := decide ((x.length : Int) ≤ 16) && (decide ((y.length : Int) ≤ 8) && !(iv_bad y))
theorem im_at (y : List Int) (i : Nat) (hi : i < y.length) : y.drop i = rd y (i : Int) :: y.drop (i + 1) := by
  rw [List.drop_eq_getElem_cons hi]
  simp only [rd, Int.toNat_natCast]
  rw [List.getD_eq_getElem?_getD, List.getElem?_eq_getElem hi]
  rfl
theorem im_l0 (x : List Bool) (y : List Int) (hy : y.length ≤ 1048576) : ∀ (d i : Nat), i + d = y.length → Ev (fun k => spec_ImageValid.l0 k (i : Int) x y) (decide ((x.length : Int) ≤ 16) && (decide ((y.length : Int) ≤ 8) && !(iv_bad (y.drop i))))
  | 0, i, h => by
    refine c_next ?_
    simp only [spec_ImageValid.l0]
    rw [List.drop_of_length_le (by omega)]
    refine c_if_neg (by omega) ?_
    by_cases c : (x.length : Int) ≤ 16
    · refine c_if_pos c ?_
      have e : (decide ((x.length : Int) ≤ 16) && (decide ((y.length : Int) ≤ 8) && !(iv_bad ([] : List Int)))) = decide ((y.length : Int) ≤ 8) := by simp [c, iv_bad]
      rw [e]
      exact Ev.now _
    · refine c_if_neg c ?_
      rw [decide_eq_false c, Bool.false_and]
      exact Ev.now _
  | d + 1, i, h => by
    have ih := im_l0 x y hy d (i + 1) (by omega)
    refine c_next ?_
    simp only [spec_ImageValid.l0]
    rw [c_succ i (by omega), im_l1in, im_at y i (by omega)]
    refine c_if_pos (by omega) (c_if_pos (by omega) ?_)
    by_cases c : -32768 ≤ rd y (i : Int) ∧ rd y (i : Int) ≤ 32767
    · refine c_bind1 true (congrArg some (decide_eq_true c)) (c_if_pos rfl ?_)
      have e : iv_bad (rd y (i : Int) :: y.drop (i + 1)) = iv_bad (y.drop (i + 1)) := by simp [iv_bad, c]
      rw [e]
      exact ih
    · refine c_bind1 false (congrArg some (decide_eq_false c)) (c_if_neg (by simp) ?_)
      have e : iv_bad (rd y (i : Int) :: y.drop (i + 1)) = true := by unfold iv_bad; rw [List.any_cons, decide_eq_false c]; rfl
      rw [e, Bool.not_true, Bool.and_false, Bool.and_false]
      exact Ev.now _
theorem im_valid (x : List Bool) (y : List Int) (hy : y.length ≤ 1048576) : Ev (fun k => spec_ImageValid.f k x y) (im_ok x y) := im_l0 x y hy y.length 0 (by omega)
theorem im_valid' (x : List Bool) (y : List Int) : impl_ImageValid.f x y = some (im_ok x y) := rfl
theorem im_small {x : List Bool} {y : List Int} (h : im_ok x y = true) : x.length ≤ 16 ∧ y.length ≤ 8 ∧ iv_bad y = false := by
  simp only [im_ok, Bool.and_eq_true, decide_eq_true_eq, Bool.not_eq_true'] at h
  exact ⟨by omega, by omega, h.2.2⟩
abbrev TT := S75
abbrev tf (x : List TT) (i : Nat) : TT := rd_T75 x (i : Int)
theorem cv_in (a b c : Int) : impl_in.f a b c = spec_l1In.f a b c := rfl
theorem cv_l1 (a b c : Int) : spec_l1In.f a b c = some (decide (b ≤ a ∧ a ≤ c)) := by
  unfold spec_l1In.f
  by_cases h : a ≥ b
  · rw [if_pos h]
    simp [h]
  · rw [if_neg h]
    simp [h]
def cv_t (a b : Int) (t : TT) : Bool := decide (1 ≤ t.f0 ∧ t.f0 ≤ wrap64 (shl .i64 1 a - 1)) && (decide (1 ≤ t.f1 ∧ t.f1 ≤ wrap64 (shl .i64 1 a - 1)) && decide (0 ≤ t.f2 ∧ t.f2 ≤ wrap64 (b - 1)))
def cv_all (x : List TT) (a b : Int) : Bool := decide (1 ≤ a ∧ a ≤ 8) && (decide (0 ≤ b ∧ b ≤ 16) && (x.all (cv_t a b) && decide ((x.length : Int) ≤ 12)))
theorem cv_at (x : List TT) (i : Nat) (hi : i < x.length) : x.drop i = tf x i :: x.drop (i + 1) := by
  rw [List.drop_eq_getElem_cons hi]
  simp only [tf, rd_T75, Int.toNat_natCast]
  rw [List.getD_eq_getElem?_getD, List.getElem?_eq_getElem hi]
  rfl
theorem cv_same (x : List TT) (a b : Int) (hx : (x.length : Int) ≤ 12) : ∀ (k : Nat) (i : Int), impl_ChartValid.l0 k a b x (x.length : Int) i = spec_ChartValid.l0 k x a b i
  | 0, i => rfl
  | k + 1, i => by
    simp only [impl_ChartValid.l0, spec_ChartValid.l0, cv_in]
    by_cases c : i < (x.length : Int)
    · rw [if_pos c, if_pos c, if_pos c, cv_same x a b hx k]
    · rw [if_neg c, if_neg c, decide_eq_true hx]
theorem cv_l0 (x : List TT) (a b : Int) (hx : x.length ≤ 1048576) (ha : 0 ≤ a) : ∀ (d i : Nat), i + d = x.length → Ev (fun k => spec_ChartValid.l0 k x a b (i : Int)) ((x.drop i).all (cv_t a b) && decide ((x.length : Int) ≤ 12))
  | 0, i, h => by
    refine c_next ?_
    simp only [spec_ChartValid.l0]
    rw [List.drop_of_length_le (by omega), List.all_nil, Bool.true_and]
    exact c_if_neg (by omega) (Ev.now _)
  | d + 1, i, h => by
    have ih := cv_l0 x a b hx ha d (i + 1) (by omega)
    refine c_next ?_
    simp only [spec_ChartValid.l0, cv_l1]
    rw [c_succ i (by omega), cv_at x i (by omega), List.all_cons]
    refine c_if_pos (by omega) (c_if_pos (by omega) (c_if_pos ha ?_))
    show Ev (fun k => (some (decide (1 ≤ (tf x i).f0 ∧ (tf x i).f0 ≤ wrap64 (shl .i64 1 a - 1)))).bind _) _
    by_cases g1 : 1 ≤ (tf x i).f0 ∧ (tf x i).f0 ≤ wrap64 (shl .i64 1 a - 1)
    · refine c_bind1 true (congrArg some (decide_eq_true g1)) (c_if_pos rfl ?_)
      by_cases g2 : 1 ≤ (tf x i).f1 ∧ (tf x i).f1 ≤ wrap64 (shl .i64 1 a - 1)
      · refine c_bind1 true (congrArg some (decide_eq_true g2)) (c_if_pos rfl ?_)
        by_cases g3 : 0 ≤ (tf x i).f2 ∧ (tf x i).f2 ≤ wrap64 (b - 1)
        · refine c_bind1 true (congrArg some (decide_eq_true g3)) (c_if_pos rfl ?_)
          have e : cv_t a b (tf x i) = true := by unfold cv_t; rw [decide_eq_true g1, decide_eq_true g2, decide_eq_true g3]; rfl
          rw [e, Bool.true_and]
          exact ih
        · refine c_bind1 false (congrArg some (decide_eq_false g3)) (c_if_neg (by simp) ?_)
          have e : cv_t a b (tf x i) = false := by unfold cv_t; rw [decide_eq_true g1, decide_eq_true g2, decide_eq_false g3]; rfl
          rw [e, Bool.false_and, Bool.false_and]
          exact Ev.now false
      · refine c_bind1 false (congrArg some (decide_eq_false g2)) (c_if_neg (by simp) ?_)
        have e : cv_t a b (tf x i) = false := by unfold cv_t; rw [decide_eq_true g1, decide_eq_false g2]; rfl
        rw [e, Bool.false_and, Bool.false_and]
        exact Ev.now false
    · refine c_bind1 false (congrArg some (decide_eq_false g1)) (c_if_neg (by simp) ?_)
      have e : cv_t a b (tf x i) = false := by unfold cv_t; rw [decide_eq_false g1]; rfl
      rw [e, Bool.false_and, Bool.false_and]
      exact Ev.now false
theorem cv_both (x : List TT) (a b : Int) (hx : x.length ≤ 1048576) : Ev (fun k => spec_ChartValid.f k x a b) (cv_all x a b) ∧ Ev (fun k => impl_ChartValid.f k x a b) (cv_all x a b) := by
  have no : Ev (fun k => spec_ChartValid.j0 k x a b true) false := c_next (by simp only [spec_ChartValid.j0]; exact c_if_pos trivial (Ev.now false))
  have no' : Ev (fun k => impl_ChartValid.j0 k x a b true) false := c_next (by simp only [impl_ChartValid.j0]; exact c_if_pos trivial (Ev.now false))
  unfold spec_ChartValid.f impl_ChartValid.f cv_all
  simp only [cv_in, cv_l1]
  by_cases g1 : 1 ≤ a ∧ a ≤ 8
  · rw [decide_eq_true g1, Bool.true_and]
    by_cases g2 : 0 ≤ b ∧ b ≤ 16
    · rw [decide_eq_true g2, Bool.true_and]
      have hl := cv_l0 x a b hx (by omega) x.length 0 (by omega)
      rw [List.drop_zero] at hl
      refine ⟨c_bind1 true rfl (c_if_pos rfl (c_bind1 true rfl (c_next ?_))), ?_⟩
      · simp only [spec_ChartValid.j0]
        exact c_if_neg (by simp) hl
      · by_cases c : (x.length : Int) > 12
        · have e : decide ((x.length : Int) ≤ 12) = false := decide_eq_false (by omega)
          rw [e, Bool.and_false]
          exact c_if_pos c no'
        · refine c_if_neg c (c_bind1 true rfl (c_if_pos rfl (c_bind1 true rfl (c_next ?_))))
          simp only [impl_ChartValid.j0]
          exact c_if_neg (by simp) (Ev.congr (fun k => cv_same x a b (by omega) k 0) hl)
    · rw [decide_eq_false g2, Bool.false_and]
      refine ⟨c_bind1 true rfl (c_if_pos rfl (c_bind1 false rfl no)), ?_⟩
      by_cases c : (x.length : Int) > 12
      · exact c_if_pos c no'
      · exact c_if_neg c (c_bind1 true rfl (c_if_pos rfl (c_bind1 false rfl no')))
  · rw [decide_eq_false g1, Bool.false_and]
    refine ⟨c_bind1 false rfl (c_if_neg (by simp) no), ?_⟩
    by_cases c : (x.length : Int) > 12
    · exact c_if_pos c no'
    · exact c_if_neg c (c_bind1 false rfl (c_if_neg (by simp) no'))
theorem cv_top (a : Int) (h : 1 ≤ a ∧ a ≤ 8) : 1 ≤ wrap64 (shl .i64 1 a - 1) ∧ wrap64 (shl .i64 1 a - 1) ≤ 255 := by
  rcases (by omega : a = 1 ∨ a = 2 ∨ a = 3 ∨ a = 4 ∨ a = 5 ∨ a = 6 ∨ a = 7 ∨ a = 8) with rfl | rfl | rfl | rfl | rfl | rfl | rfl | rfl <;> decide +kernel
theorem cv_facts (x : List TT) (a b : Int) (h : cv_all x a b = true) : (1 ≤ a ∧ a ≤ 8) ∧ (0 ≤ b ∧ b ≤ 16) ∧ x.length ≤ 12 ∧ ∀ i, i < x.length → (1 ≤ (tf x i).f0 ∧ (tf x i).f0 ≤ 255) ∧ (1 ≤ (tf x i).f1 ∧ (tf x i).f1 ≤ 255) ∧ 0 ≤ (tf x i).f2 ∧ (tf x i).f2 < b := by
  unfold cv_all at h
  simp only [Bool.and_eq_true, decide_eq_true_eq, List.all_eq_true] at h
  obtain ⟨h1, h2, h3, h4⟩ := h
  refine ⟨h1, h2, by omega, fun i hi => ?_⟩
  have hm : tf x i ∈ x := by
    have e : x[i]? = some (tf x i) := by
      rw [List.getElem?_eq_getElem hi]
      simp only [tf, rd_T75, Int.toNat_natCast]
      rw [List.getD_eq_getElem?_getD, List.getElem?_eq_getElem hi]
      rfl
    exact List.mem_of_getElem? e
  have ht := h3 _ hm
  unfold cv_t at ht
  simp only [Bool.and_eq_true, decide_eq_true_eq] at ht
  have htop := cv_top a h1
  have hw : wrap64 (b - 1) = b - 1 := c_w64 (by omega) (by omega)
  rw [hw] at ht
  exact ⟨⟨by omega, by omega⟩, ⟨by omega, by omega⟩, by omega, by omega⟩
theorem bv_wrap (v : BitVec 64) : BitVec.ofInt 64 (IntKind.i64.wrap (v.toNat : Int)) = v := by
  rw [IntKind.wrap_i64]
  apply BitVec.eq_of_toNat_eq
  rw [BitVec.toNat_ofInt]
  have := v.isLt
  omega
theorem bv_back (x : Int) (h0 : -9223372036854775808 ≤ x) (h1 : x ≤ 9223372036854775807) : IntKind.i64.wrap ((BitVec.ofInt 64 x).toNat : Int) = x := by
  rw [IntKind.wrap_i64, BitVec.toNat_ofInt]
  omega
theorem bv_and_eq (a b : Int) : Go.bits .and .i64 a b = IntKind.i64.wrap ((BitVec.ofInt 64 a &&& BitVec.ofInt 64 b).toNat : Int) := rfl
theorem bv_or_eq (a b : Int) : Go.bits .or .i64 a b = IntKind.i64.wrap ((BitVec.ofInt 64 a ||| BitVec.ofInt 64 b).toNat : Int) := rfl
theorem bv_andNot_eq (a b : Int) : Go.bits .andNot .i64 a b = IntKind.i64.wrap ((BitVec.ofInt 64 a &&& ~~~BitVec.ofInt 64 b).toNat : Int) := rfl
theorem bv_and (a b : Int) : BitVec.ofInt 64 (Go.bits .and .i64 a b) = BitVec.ofInt 64 a &&& BitVec.ofInt 64 b := bv_wrap _
theorem bv_or (a b : Int) : BitVec.ofInt 64 (Go.bits .or .i64 a b) = BitVec.ofInt 64 a ||| BitVec.ofInt 64 b := bv_wrap _
theorem bv_andNot (a b : Int) : BitVec.ofInt 64 (Go.bits .andNot .i64 a b) = BitVec.ofInt 64 a &&& ~~~BitVec.ofInt 64 b := bv_wrap _
theorem bv_sub (F X : BitVec 64) : F &&& ~~~X = 0#64 ↔ F &&& X = F := by
  constructor
  · intro h
    apply BitVec.eq_of_getLsbD_eq
    intro i hi
    have := congrArg (fun v => v.getLsbD i) h
    simp only [BitVec.getLsbD_and, BitVec.getLsbD_not, BitVec.getLsbD_zero, hi, decide_true, Bool.true_and] at this ⊢
    cases hF : F.getLsbD i <;> cases hX : X.getLsbD i <;> simp_all
  · intro h
    apply BitVec.eq_of_getLsbD_eq
    intro i hi
    have := congrArg (fun v => v.getLsbD i) h
    simp only [BitVec.getLsbD_and, BitVec.getLsbD_not, BitVec.getLsbD_zero, hi, decide_true, Bool.true_and] at this ⊢
    cases hF : F.getLsbD i <;> cases hX : X.getLsbD i <;> simp_all
theorem bv_fits (F X : Int) (h0 : 0 ≤ F) (h1 : F ≤ 9223372036854775807) : Go.bits .andNot .i64 F X = 0 ↔ Go.bits .and .i64 F X = F := by
  have e0 : Go.bits .andNot .i64 F X = 0 ↔ BitVec.ofInt 64 F &&& ~~~BitVec.ofInt 64 X = 0#64 := by
    constructor
    · intro h
      rw [← bv_andNot, h]
      rfl
    · intro h
      rw [bv_andNot_eq, h]
      rfl
  have e1 : Go.bits .and .i64 F X = F ↔ BitVec.ofInt 64 F &&& BitVec.ofInt 64 X = BitVec.ofInt 64 F := by
    constructor
    · intro h
      rw [← bv_and, h]
    · intro h
      rw [bv_and_eq, h]
      exact bv_back F (by omega) h1
  rw [e0, e1]
  exact bv_sub _ _
theorem bv_left (a l f : Int) : Go.bits .andNot .i64 (Go.bits .andNot .i64 a l) f = Go.bits .andNot .i64 a (Go.bits .or .i64 l f) := by
  rw [bv_andNot_eq, bv_andNot_eq a (Go.bits .or .i64 l f), bv_andNot, bv_or]
  congr 2
  apply congrArg BitVec.toNat
  apply BitVec.eq_of_getLsbD_eq
  intro i hi
  simp only [BitVec.getLsbD_and, BitVec.getLsbD_not, BitVec.getLsbD_or, hi, decide_true, Bool.true_and]
  cases (BitVec.ofInt 64 a).getLsbD i <;> cases (BitVec.ofInt 64 l).getLsbD i <;> cases (BitVec.ofInt 64 f).getLsbD i <;> rfl
theorem bv_none (a : Int) (h0 : 0 ≤ a) (h1 : a ≤ 9223372036854775807) : Go.bits .andNot .i64 a 0 = a := by
  rw [bv_andNot_eq]
  have e : BitVec.ofInt 64 a &&& ~~~BitVec.ofInt 64 0 = BitVec.ofInt 64 a := by
    rw [show BitVec.ofInt 64 0 = 0#64 from rfl]
    apply BitVec.eq_of_getLsbD_eq
    intro i hi
    simp only [BitVec.getLsbD_and, BitVec.getLsbD_not, BitVec.getLsbD_zero, hi, decide_true, Bool.true_and, Bool.not_false, Bool.and_true]
  rw [e]
  exact bv_back a (by omega) h1
theorem sc_l0 (x : List TT) (v : List Bool) (a : Int) (hx : x.length ≤ 12) (hv : v.length ≤ 16) (hf : ∀ i, i < x.length → (1 ≤ (tf x i).f0 ∧ (tf x i).f0 ≤ 255) ∧ (1 ≤ (tf x i).f1 ∧ (tf x i).f1 ≤ 255) ∧ 0 ≤ (tf x i).f2 ∧ (tf x i).f2 < (v.length : Int)) :
    ∀ (d i : Nat) (left ent : Int), i + d = x.length → ∃ r, Ev (fun k => spec_l11Fire.l0 k x v (Go.bits .andNot .i64 a left) ent (i : Int)) r ∧ sc_run (stc_p v) a (x.drop i) left ent = some r
  | 0, i, left, ent, h => by
    refine ⟨Go.bits .or .i64 (Go.bits .andNot .i64 a left) ent, c_next ?_, ?_⟩
    · simp only [spec_l11Fire.l0]
      exact c_if_neg (by omega) (Ev.now _)
    · rw [List.drop_of_length_le (by omega)]
      rfl
  | d + 1, i, left, ent, h => by
    have hi : i < x.length := by omega
    obtain ⟨f0, f1, f2⟩ := hf i hi
    have hp : stc_p v (tf x i).f2 = some (rdOf false v (tf x i).f2) := by unfold stc_p; rw [if_pos f2]
    rw [cv_at x i hi]
    simp only [sc_run]
    by_cases c : Go.bits .andNot .i64 (tf x i).f0 (Go.bits .andNot .i64 a left) = 0
    · have c' := (bv_fits (tf x i).f0 (Go.bits .andNot .i64 a left) (by omega) (by omega)).1 c
      rw [if_pos c, hp]
      simp only [Option.bind_some]
      by_cases b : rdOf false v (tf x i).f2 = true
      · obtain ⟨r, h1, h2⟩ := sc_l0 x v a hx hv hf d (i + 1) (Go.bits .or .i64 left (tf x i).f0) (Go.bits .or .i64 ent (tf x i).f1) (by omega)
        rw [if_pos b]
        refine ⟨r, c_next ?_, h2⟩
        simp only [spec_l11Fire.l0]
        rw [c_succ i (by omega)]
        rw [← bv_left] at h1
        exact c_if_pos (by omega) (c_if_pos (by omega) (c_if_pos c' (c_if_pos f2.1 (c_if_pos f2.2 (c_if_pos b h1)))))
      · obtain ⟨r, h1, h2⟩ := sc_l0 x v a hx hv hf d (i + 1) left ent (by omega)
        rw [if_neg b]
        refine ⟨r, c_next ?_, h2⟩
        simp only [spec_l11Fire.l0]
        rw [c_succ i (by omega)]
        exact c_if_pos (by omega) (c_if_pos (by omega) (c_if_pos c' (c_if_pos f2.1 (c_if_pos f2.2 (c_if_neg b h1)))))
    · have c' : ¬ Go.bits .and .i64 (tf x i).f0 (Go.bits .andNot .i64 a left) = (tf x i).f0 := fun h' => c ((bv_fits _ _ (by omega) (by omega)).2 h')
      obtain ⟨r, h1, h2⟩ := sc_l0 x v a hx hv hf d (i + 1) left ent (by omega)
      rw [if_neg c]
      refine ⟨r, c_next ?_, h2⟩
      simp only [spec_l11Fire.l0]
      rw [c_succ i (by omega)]
      exact c_if_pos (by omega) (c_if_pos (by omega) (c_if_neg c' h1))
theorem sc_both (x : List TT) (n a : Int) (v : List Bool) (y : List Int) (hx : x.length ≤ 1048576) (hv : v.length ≤ 1048576) (hy : y.length ≤ 1048576) : Both (fun _ => True) (fun k => spec_StepChart.f k x n a v y) (fun k => impl_StepChart.f k x n a v y) := by
  unfold spec_StepChart.f impl_StepChart.f
  refine b_bindL _ (im_valid v y hy) (b_bindR1 _ (im_valid' v y) ?_)
  cases h : im_ok v y with
  | false => exact b_negL (by simp) (b_negR (by simp) (b_now 0 trivial))
  | true =>
    obtain ⟨h1, h2, _⟩ := im_small h
    obtain ⟨e1, e2⟩ := cv_both x n (v.length : Int) hx
    refine b_posL rfl (b_posR rfl (b_bindL _ e1 (b_bindR _ e2 ?_)))
    cases hc : cv_all x n (v.length : Int) with
    | false => exact b_negL (by simp) (b_negR (by simp) (b_now 0 trivial))
    | true =>
      obtain ⟨g1, g2, g3, g4⟩ := cv_facts x n _ hc
      have htop := cv_top n g1
      refine b_posL rfl (b_posR rfl (b_posL (by omega) (b_posR (by omega) ?_)))
      rw [cv_l1]
      by_cases c : 0 ≤ a ∧ a ≤ wrap64 (shl .i64 1 n - 1)
      · obtain ⟨r, r1, r2⟩ := sc_l0 x v a g3 h1 g4 x.length 0 0 0 (by omega)
        rw [bv_none a c.1 (by omega)] at r1
        rw [List.drop_zero] at r2
        refine b_bindL1 true (congrArg some (decide_eq_true c)) (b_posL rfl (b_posR c ?_))
        refine b_bindL r r1 ?_
        exact ⟨r, trivial, Ev.now r, Ev.congr (fun _ => r2) (Ev.now r)⟩
      · exact b_bindL1 false (congrArg some (decide_eq_false c)) (b_negL (by simp) (b_negR c (b_now 0 trivial)))
theorem FnExactStepChart : ∀ (l0 : List S77) (a1 : Int) (a2 : Int) (l3_0 : List Bool) (l3_1 : List Int), (l0.length ≤ maxLen ∧ ∀ y2 ∈ l0, ((Lit.int .i64 y2.f0).wf = true) ∧ ((Lit.int .i64 y2.f1).wf = true) ∧ ((Lit.int .i64 y2.f2).wf = true)) → (Lit.int .i64 a1).wf = true → (Lit.int .i64 a2).wf = true → (l3_0.length ≤ maxLen ∧ ∀ y4 ∈ l3_0, True) → (l3_1.length ≤ maxLen ∧ ∀ y4 ∈ l3_1, (Lit.int .i64 y4).wf = true) → ∃ k, laws_FnExactStepChart.f k l0 a1 a2 l3_0 l3_1 = some true := by
  intro x n a v y hx hn ha hv hy
  refine Ev.rounds (r := true) ?_
  unfold laws_FnExactStepChart.f
  have hm := hx.1
  have hmx := hv.1
  have hmy := hy.1
  simp only [maxLen] at hm hmx hmy
  have hz := c_szTransitionS x 1048576 (by omega) (by omega)
  by_cases cx : ((1048576 : Nat) : Int) - x.length < 0
  · rw [if_pos cx] at hz
    exact c_bind1 _ hz (c_if_pos (by omega) (Ev.now true))
  rw [if_neg cx] at hz
  refine c_bind1 _ hz (c_if_neg (by omega) ?_)
  rcases im_szt v y (((1048576 : Nat) : Int) - x.length) (by omega) (by omega) (by omega) (by omega) with ⟨t, ht, hs⟩ | ⟨hl, t, ht, hs⟩
  · exact c_bind1 _ hs (c_if_pos ht (Ev.now true))
  refine c_bind1 _ hs (c_if_neg ht ?_)
  clear hs ht hz
  obtain ⟨r, _, hs, hi⟩ := sc_both (x.map c_cvTransition) n a v y (by rw [List.length_map]; omega) (by omega) (by omega)
  refine c_bind _ (c_toTransitionS_ev x (by omega)) ?_
  refine c_bind _ (c_toImage_ev v y (by omega) (by omega)) ?_
  refine c_bind _ (hs) ?_
  refine c_bind _ (c_toTransitionS_ev x (by omega)) ?_
  refine c_bind _ (c_toImage_ev v y (by omega) (by omega)) ?_
  refine c_bind _ (hi) ?_
  refine c_if_pos rfl ?_
  refine c_bind _ (c_toTransitionS_ev x (by omega)) ?_
  refine c_bind _ (c_eqTransitionS_ev (x.map c_cvTransition) (by first | omega | (rw [List.length_map]; omega))) ?_
  refine c_if_pos rfl ?_
  refine c_bind _ (c_toImage_ev v y (by omega) (by omega)) ?_
  refine c_bind _ (c_eqImage_ev v y (by omega) (by omega)) ?_
  refine c_if_pos rfl ?_
  exact Ev.now true

end Go.Proofs.Ytojgaiibnajghaa.Pure
