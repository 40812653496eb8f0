/- For every list of commands and two lists of flags the law of ModeTrace answers true (no condition beyond the kinds and the reach of the arguments). -/
import Derived.Test.YthbbhdadioiefaaQFnExactModeTracex6
namespace Go.Proofs.Ythbbhdadioiefaa.Pure
open Go.RowKit Go.Proofs.Ythbbhdadioiefaa.QFnExactModeTrace Go.Proofs.YthbbhdadioiefaaW.PrintWords Go.Proofs.YthbbhdadioiefaaW.PrintLast Go.Proofs.YthbbhdadioiefaaW.PrintMore
set_option linter.unusedVariables false
set_option linter.unusedSimpArgs false

theorem c_ev_det {α : Type} {g : Nat → Option α} {r r' : α} (h : Ev g r) (h' : Ev g r') : r = r' := by
  obtain ⟨K, h⟩ := h
  obtain ⟨K', h'⟩ := h'
  have h1 := h (max K K') (by omega)
  have h2 := h' (max K K') (by omega)
  rw [h1] at h2
  exact Option.some.inj h2
theorem c_w64 {x : Int} (h0 : -9223372036854775808 ≤ x) (h1 : x ≤ 9223372036854775807) : wrap64 x = x := by
  unfold wrap64
  omega
theorem c_succ (i : Nat) (h : i < 9223372036854775807) : wrap64 ((i : Int) + 1) = ((i + 1 : Nat) : Int) := by
  unfold wrap64
  omega
theorem c_take_set {α : Type} (x acc : List α) (v : α) (i : Nat) (hv : x[i]? = some v) (hl : acc.length = x.length) (ht : acc.take i = x.take i) : (acc.set i v).take (i + 1) = x.take (i + 1) := by
  have hi : i < x.length := (List.getElem?_eq_some_iff.1 hv).1
  apply List.ext_getElem?
  intro j
  have hj := congrArg (fun l => l[j]?) ht
  simp only [List.getElem?_take] at hj
  rw [List.getElem?_take, List.getElem?_take]
  by_cases h1 : j < i + 1
  · rw [if_pos h1, if_pos h1]
    by_cases h2 : j < i
    · rw [if_pos h2, if_pos h2] at hj
      rw [List.getElem?_set_ne (by omega)]
      exact hj
    · have : j = i := by omega
      subst this
      rw [List.getElem?_set_self (by omega), hv]
  · rw [if_neg h1, if_neg h1]
theorem c_getD {α : Type} (x : List α) (d : α) (i : Nat) (h : i < x.length) : x[i]? = some (x.getD i d) := by
  rw [List.getD_eq_getElem?_getD, List.getElem?_eq_getElem h]
  rfl
theorem c_if_pos {α : Type} {c : Prop} [Decidable c] {g f : Nat → Option α} {r : α} (h : c) (k : Ev g r) : Ev (fun n => if c then g n else f n) r := Ev.congr (fun _ => if_pos h) k
theorem c_if_neg {α : Type} {c : Prop} [Decidable c] {g f : Nat → Option α} {r : α} (h : ¬ c) (k : Ev f r) : Ev (fun n => if c then g n else f n) r := Ev.congr (fun _ => if_neg h) k
theorem c_bind {α β : Type} {g : Nat → Option α} {f : Nat → α → Option β} (a : α) {r : β} (h : Ev g a) (k : Ev (fun n => f n a) r) : Ev (fun n => (g n).bind (f n)) r := Ev.bind h k
theorem c_bind1 {α β : Type} {g : Option α} {f : Nat → α → Option β} (a : α) {r : β} (h : g = some a) (k : Ev (fun n => f n a) r) : Ev (fun n => g.bind (f n)) r := Ev.congr (fun n => by rw [h]; rfl) k

theorem c_next {α : Type} {g : Nat → Option α} {r : α} (h : Ev (fun k => g (k + 1)) r) : Ev g r := Ev.step (fun _ => rfl) h


theorem c_toIntS_l (x : List Int) (hn : x.length < 4611686018427387904) : ∀ (d : Nat) (acc : List Int) (i : Nat), acc.length = x.length → i + d = x.length → acc.take i = x.take i → Ev (fun k => laws_toIntS.l0 k x acc (i : Int)) x
  | 0, acc, i, hl, hi, ht => by
    have e : acc = x := by
      rw [List.take_of_length_le (by omega), List.take_of_length_le (by omega)] at ht
      exact ht
    subst e
    exact Ev.step (f := fun _ => some acc) (fun k => by simp only [laws_toIntS.l0]; rw [if_neg (by omega)]) (Ev.now _)
  | d + 1, acc, i, hl, hi, ht => by
    refine Ev.step (f := fun k => laws_toIntS.l0 k x (acc.set i (x.getD i 0)) ((i + 1 : Nat) : Int)) (fun k => ?_) (c_toIntS_l x hn d _ (i + 1) (by rw [List.length_set]; exact hl) (by omega) (c_take_set x acc _ i (c_getD x 0 i (by omega)) hl ht))
    simp only [laws_toIntS.l0]
    rw [if_pos (by omega), if_pos (by omega), if_pos (by omega), c_succ i (by omega)]
    simp only [rd, Int.toNat_natCast]
theorem c_toIntS_ev (x : List Int) (hn : x.length ≤ 1048576) : Ev (fun k => laws_toIntS.f k x) x := by
  unfold laws_toIntS.f
  refine c_if_pos (by omega) (c_if_pos (by omega) ?_)
  refine c_toIntS_l x (by omega) x.length _ 0 (by simp) (by omega) (by simp)


theorem c_toBoolS_l (x : List Bool) (hn : x.length < 4611686018427387904) : ∀ (d : Nat) (acc : List Bool) (i : Nat), acc.length = x.length → i + d = x.length → acc.take i = x.take i → Ev (fun k => laws_toBoolS.l0 k x acc (i : Int)) x
  | 0, acc, i, hl, hi, ht => by
    have e : acc = x := by
      rw [List.take_of_length_le (by omega), List.take_of_length_le (by omega)] at ht
      exact ht
    subst e
    exact Ev.step (f := fun _ => some acc) (fun k => by simp only [laws_toBoolS.l0]; rw [if_neg (by omega)]) (Ev.now _)
  | d + 1, acc, i, hl, hi, ht => by
    refine Ev.step (f := fun k => laws_toBoolS.l0 k x (acc.set i (x.getD i false)) ((i + 1 : Nat) : Int)) (fun k => ?_) (c_toBoolS_l x hn d _ (i + 1) (by rw [List.length_set]; exact hl) (by omega) (c_take_set x acc _ i (c_getD x false i (by omega)) hl ht))
    simp only [laws_toBoolS.l0]
    rw [if_pos (by omega), if_pos (by omega), if_pos (by omega), c_succ i (by omega)]
    simp only [rdOf, Int.toNat_natCast]
theorem c_toBoolS_ev (x : List Bool) (hn : x.length ≤ 1048576) : Ev (fun k => laws_toBoolS.f k x) x := by
  unfold laws_toBoolS.f
  refine c_if_pos (by omega) (c_if_pos (by omega) ?_)
  refine c_toBoolS_l x (by omega) x.length _ 0 (by simp) (by omega) (by simp)


theorem c_eqIntS_l (x : List Int) (hn : x.length < 4611686018427387904) : ∀ (d : Nat) (i : Nat), i + d = x.length → Ev (fun k => laws_eqIntS.l0 k x x (i : Int)) true
  | 0, i, hi => Ev.step (f := fun _ => some true) (fun k => by simp only [laws_eqIntS.l0]; rw [if_neg (by omega)]) (Ev.now _)
  | d + 1, i, hi => by
    refine Ev.step (f := fun k => laws_eqIntS.l0 k x x ((i + 1 : Nat) : Int)) (fun k => ?_) (c_eqIntS_l x hn d (i + 1) (by omega))
    simp only [laws_eqIntS.l0]
    rw [if_pos (by omega), if_pos (by omega), if_pos (by omega), if_pos trivial, c_succ i (by omega)]
theorem c_eqIntS_ev (x : List Int) (hn : x.length < 4611686018427387904) : Ev (fun k => laws_eqIntS.f k x x) true := by
  unfold laws_eqIntS.f
  exact c_if_pos rfl (c_eqIntS_l x hn x.length 0 (by omega))


theorem c_eqBoolS_l (x : List Bool) (hn : x.length < 4611686018427387904) : ∀ (d : Nat) (i : Nat), i + d = x.length → Ev (fun k => laws_eqBoolS.l0 k x x (i : Int)) true
  | 0, i, hi => Ev.step (f := fun _ => some true) (fun k => by simp only [laws_eqBoolS.l0]; rw [if_neg (by omega)]) (Ev.now _)
  | d + 1, i, hi => by
    refine Ev.step (f := fun k => laws_eqBoolS.l0 k x x ((i + 1 : Nat) : Int)) (fun k => ?_) (c_eqBoolS_l x hn d (i + 1) (by omega))
    simp only [laws_eqBoolS.l0]
    rw [if_pos (by omega), if_pos (by omega), if_pos (by omega), if_neg (by simp), c_succ i (by omega)]
theorem c_eqBoolS_ev (x : List Bool) (hn : x.length < 4611686018427387904) : Ev (fun k => laws_eqBoolS.f k x x) true := by
  unfold laws_eqBoolS.f
  exact c_if_pos rfl (c_eqBoolS_l x hn x.length 0 (by omega))


def c_mkInt (m : Int) (n : Nat) : List Int := (List.range n).map fun (j : Nat) => ((m + (j : Int)))
theorem c_mkInt_len (m : Int) (n : Nat) : (c_mkInt m n).length = n := by simp [c_mkInt]
theorem c_mkInt_at (m : Int) (n i : Nat) (h : i < n) : (c_mkInt m n)[i]? = some ((m + (i : Int))) := by simp [c_mkInt, h]
theorem c_heldInt_l (m : Int) (n : Nat) (hm : 0 ≤ m) (hb : m + n < 4611686018427387904) : ∀ (d i : Nat), i + d = n → Ev (fun k => laws_heldIntS.l0 k (c_mkInt m n) (m + i) (i : Int)) (m + n)
  | 0, i, hi => by
    have ei : i = n := by omega
    subst ei
    refine Ev.step (f := fun _ => some (m + i)) (fun k => ?_) (Ev.now _)
    simp only [laws_heldIntS.l0, c_mkInt_len]
    rw [if_neg (by omega)]
  | d + 1, i, hi => by
    refine Ev.step (f := fun k => laws_heldIntS.l0 k (c_mkInt m n) (m + ((i + 1 : Nat) : Int)) ((i + 1 : Nat) : Int)) (fun k => ?_) (c_heldInt_l m n hm hb d (i + 1) (by omega))
    have hrd : rd (c_mkInt m n) (i : Int) = ((m + (i : Int))) := by
      simp only [rd, Int.toNat_natCast]
      rw [List.getD_eq_getElem?_getD, c_mkInt_at m n i (by omega)]
      rfl
    simp only [laws_heldIntS.l0, c_mkInt_len]
    rw [if_pos (by omega), if_pos (by omega), if_pos hrd, c_succ i (by omega), c_w64 (x := m + i + 1) (by omega) (by omega), show m + (i : Int) + 1 = m + ((i + 1 : Nat) : Int) from by omega]
theorem c_heldInt_ev (m : Int) (n : Nat) (hm : 0 ≤ m) (hb : m + n < 4611686018427387904) : Ev (fun k => laws_heldIntS.f k (c_mkInt m n) m) (m + n) := by
  have := c_heldInt_l m n hm hb n 0 (by omega)
  rw [show m + ((0 : Nat) : Int) = m from by omega] at this
  exact this


def c_mkBool (m : Int) (n : Nat) : List Bool := (List.range n).map fun (j : Nat) => (Int.tmod (m + (j : Int)) 3 == 0)
theorem c_mkBool_len (m : Int) (n : Nat) : (c_mkBool m n).length = n := by simp [c_mkBool]
theorem c_mkBool_at (m : Int) (n i : Nat) (h : i < n) : (c_mkBool m n)[i]? = some (Int.tmod (m + (i : Int)) 3 == 0) := by simp [c_mkBool, h]


theorem c_laws_markIntS_l (m : Int) (n : Nat) (hm : 0 ≤ m) (hb : m + n < 4611686018427387904) : ∀ (d : Nat) (acc : List Int) (i : Nat), acc.length = n → i + d = n → acc.take i = (c_mkInt m n).take i → Ev (fun k => laws_markIntS.l0 k acc (m + i) (i : Int)) (m + n, c_mkInt m n)
  | 0, acc, i, hl, hi, ht => by
    have e : acc = c_mkInt m n := by
      rw [List.take_of_length_le (by omega), List.take_of_length_le (by rw [c_mkInt_len]; omega)] at ht
      exact ht
    have ei : i = n := by omega
    subst ei
    refine Ev.step (f := fun _ => some (m + i, c_mkInt m i)) (fun k => ?_) (Ev.now _)
    simp only [laws_markIntS.l0]
    rw [if_neg (by omega), e]
  | d + 1, acc, i, hl, hi, ht => by
    refine Ev.step (f := fun k => laws_markIntS.l0 k (acc.set i ((m + i))) (m + ((i + 1 : Nat) : Int)) ((i + 1 : Nat) : Int)) (fun k => ?_) (c_laws_markIntS_l m n hm hb d _ (i + 1) (by rw [List.length_set]; exact hl) (by omega) (c_take_set (c_mkInt m n) acc _ i (c_mkInt_at m n i (by omega)) (by rw [hl, c_mkInt_len]) ht))
    simp only [laws_markIntS.l0]
    rw [if_pos (by omega), if_pos (by omega), c_succ i (by omega), Int.toNat_natCast, c_w64 (x := m + i + 1) (by omega) (by omega), show m + (i : Int) + 1 = m + ((i + 1 : Nat) : Int) from by omega]
theorem c_laws_markIntS_ev (l : List Int) (m : Int) (hm : 0 ≤ m) (hb : m + l.length < 4611686018427387904) : Ev (fun k => laws_markIntS.f k l m) (m + l.length, c_mkInt m l.length) := by
  have := c_laws_markIntS_l m l.length hm hb l.length l 0 rfl (by omega) (by simp)
  rw [show m + ((0 : Nat) : Int) = m from by omega] at this
  exact this


theorem c_laws_markBoolS_l (m : Int) (n : Nat) (hm : 0 ≤ m) (hb : m + n < 4611686018427387904) : ∀ (d : Nat) (acc : List Bool) (i : Nat), acc.length = n → i + d = n → acc.take i = (c_mkBool m n).take i → Ev (fun k => laws_markBoolS.l0 k acc (m + i) (i : Int)) (m + n, c_mkBool m n)
  | 0, acc, i, hl, hi, ht => by
    have e : acc = c_mkBool m n := by
      rw [List.take_of_length_le (by omega), List.take_of_length_le (by rw [c_mkBool_len]; omega)] at ht
      exact ht
    have ei : i = n := by omega
    subst ei
    refine Ev.step (f := fun _ => some (m + i, c_mkBool m i)) (fun k => ?_) (Ev.now _)
    simp only [laws_markBoolS.l0]
    rw [if_neg (by omega), e]
  | d + 1, acc, i, hl, hi, ht => by
    refine Ev.step (f := fun k => laws_markBoolS.l0 k (acc.set i (Int.tmod (m + i) 3 == 0)) (m + ((i + 1 : Nat) : Int)) ((i + 1 : Nat) : Int)) (fun k => ?_) (c_laws_markBoolS_l m n hm hb d _ (i + 1) (by rw [List.length_set]; exact hl) (by omega) (c_take_set (c_mkBool m n) acc _ i (c_mkBool_at m n i (by omega)) (by rw [hl, c_mkBool_len]) ht))
    simp only [laws_markBoolS.l0]
    rw [if_pos (by omega), if_pos (by omega), c_succ i (by omega), Int.toNat_natCast, c_w64 (x := m + i + 1) (by omega) (by omega), show m + (i : Int) + 1 = m + ((i + 1 : Nat) : Int) from by omega]
theorem c_laws_markBoolS_ev (l : List Bool) (m : Int) (hm : 0 ≤ m) (hb : m + l.length < 4611686018427387904) : Ev (fun k => laws_markBoolS.f k l m) (m + l.length, c_mkBool m l.length) := by
  have := c_laws_markBoolS_l m l.length hm hb l.length l 0 rfl (by omega) (by simp)
  rw [show m + ((0 : Nat) : Int) = m from by omega] at this
  exact this

/-- Both come to one answer, which has P. -/
def Both {α : Type} (P : α → Prop) (g h : Nat → Option α) : Prop := ∃ r, P r ∧ Ev g r ∧ Ev h r
theorem b_now {α : Type} {P : α → Prop} (a : α) (h : P a) : Both P (fun _ => some a) (fun _ => some a) := ⟨a, h, Ev.now a, Ev.now a⟩
theorem b_nextL {α : Type} {P : α → Prop} {g h : Nat → Option α} (k : Both P (fun n => g (n + 1)) h) : Both P g h := by
  obtain ⟨r, hp, h1, h2⟩ := k
  exact ⟨r, hp, c_next h1, h2⟩
theorem b_nextR {α : Type} {P : α → Prop} {g h : Nat → Option α} (k : Both P g (fun n => h (n + 1))) : Both P g h := by
  obtain ⟨r, hp, h1, h2⟩ := k
  exact ⟨r, hp, h1, c_next h2⟩
theorem b_next {α : Type} {P : α → Prop} {g h : Nat → Option α} (k : Both P (fun n => g (n + 1)) (fun n => h (n + 1))) : Both P g h := b_nextL (b_nextR k)
theorem b_posL {α : Type} {P : α → Prop} {c : Prop} [Decidable c] {g f h : Nat → Option α} (hc : c) (k : Both P g h) : Both P (fun n => if c then g n else f n) h := by
  obtain ⟨r, hp, h1, h2⟩ := k
  exact ⟨r, hp, c_if_pos hc h1, h2⟩
theorem b_negL {α : Type} {P : α → Prop} {c : Prop} [Decidable c] {g f h : Nat → Option α} (hc : ¬ c) (k : Both P f h) : Both P (fun n => if c then g n else f n) h := by
  obtain ⟨r, hp, h1, h2⟩ := k
  exact ⟨r, hp, c_if_neg hc h1, h2⟩
theorem b_posR {α : Type} {P : α → Prop} {c : Prop} [Decidable c] {g f h : Nat → Option α} (hc : c) (k : Both P h g) : Both P h (fun n => if c then g n else f n) := by
  obtain ⟨r, hp, h1, h2⟩ := k
  exact ⟨r, hp, h1, c_if_pos hc h2⟩
theorem b_negR {α : Type} {P : α → Prop} {c : Prop} [Decidable c] {g f h : Nat → Option α} (hc : ¬ c) (k : Both P h f) : Both P h (fun n => if c then g n else f n) := by
  obtain ⟨r, hp, h1, h2⟩ := k
  exact ⟨r, hp, h1, c_if_neg hc h2⟩
theorem b_if {α : Type} {P : α → Prop} {c : Prop} [Decidable c] {g f g' f' : Nat → Option α} (hp : c → Both P g g') (hn : ¬ c → Both P f f') : Both P (fun n => if c then g n else f n) (fun n => if c then g' n else f' n) := by
  by_cases hc : c
  · exact b_posL hc (b_posR hc (hp hc))
  · exact b_negL hc (b_negR hc (hn hc))
theorem b_iff {α : Type} {P : α → Prop} {c d : Prop} [Decidable c] [Decidable d] {g f g' f' : Nat → Option α} (e : c ↔ d) (hp : c → Both P g g') (hn : ¬ c → Both P f f') : Both P (fun n => if c then g n else f n) (fun n => if d then g' n else f' n) := by
  by_cases hc : c
  · exact b_posL hc (b_posR (e.1 hc) (hp hc))
  · exact b_negL hc (b_negR (fun h => hc (e.2 h)) (hn hc))
theorem b_bind {α β : Type} {Q : α → Prop} {P : β → Prop} {g h : Nat → Option α} {f f' : Nat → α → Option β} (k : Both Q g h) (l : ∀ a, Q a → Both P (fun n => f n a) (fun n => f' n a)) : Both P (fun n => (g n).bind (f n)) (fun n => (h n).bind (f' n)) := by
  obtain ⟨a, ha, h1, h2⟩ := k
  obtain ⟨r, hp, h3, h4⟩ := l a ha
  exact ⟨r, hp, c_bind a h1 h3, c_bind a h2 h4⟩
theorem b_bindL {α β : Type} {P : β → Prop} {g : Nat → Option α} {f : Nat → α → Option β} {h : Nat → Option β} (a : α) (e : Ev g a) (k : Both P (fun n => f n a) h) : Both P (fun n => (g n).bind (f n)) h := by
  obtain ⟨r, hp, h1, h2⟩ := k
  exact ⟨r, hp, c_bind a e h1, h2⟩
theorem b_bindR {α β : Type} {P : β → Prop} {g : Nat → Option α} {f : Nat → α → Option β} {h : Nat → Option β} (a : α) (e : Ev g a) (k : Both P h (fun n => f n a)) : Both P h (fun n => (g n).bind (f n)) := by
  obtain ⟨r, hp, h1, h2⟩ := k
  exact ⟨r, hp, h1, c_bind a e h2⟩
theorem b_bindL1 {α β : Type} {P : β → Prop} {g : Option α} {f : Nat → α → Option β} {h : Nat → Option β} (a : α) (e : g = some a) (k : Both P (fun n => f n a) h) : Both P (fun n => g.bind (f n)) h := by
  obtain ⟨r, hp, h1, h2⟩ := k
  exact ⟨r, hp, c_bind1 a e h1, h2⟩
theorem b_bindR1 {α β : Type} {P : β → Prop} {g : Option α} {f : Nat → α → Option β} {h : Nat → Option β} (a : α) (e : g = some a) (k : Both P h (fun n => f n a)) : Both P h (fun n => g.bind (f n)) := by
  obtain ⟨r, hp, h1, h2⟩ := k
  exact ⟨r, hp, h1, c_bind1 a e h2⟩
theorem b_mono {α : Type} {P Q : α → Prop} {g h : Nat → Option α} (k : Both P g h) (i : ∀ a, P a → Q a) : Both Q g h := by
  obtain ⟨r, hp, h1, h2⟩ := k
  exact ⟨r, i r hp, h1, h2⟩
theorem ms_range (a b : Int) (c d : Bool) (h : ms_ok a b = true) : Ev (fun k => spec_ModeStep.f k a b c d) (ms_out a b c d) := by
  unfold ms_ok at h
  rw [Bool.and_eq_true, decide_eq_true_eq, decide_eq_true_eq] at h
  have go : ∀ k, spec_ModeStep.f (k + 9) a b c d = some (ms_out a b c d) := by
    intro k
    rcases (by omega : a = 0 ∨ a = 1 ∨ a = 2 ∨ a = 3 ∨ a = 4 ∨ a = 5) with rfl | rfl | rfl | rfl | rfl | rfl <;>
      rcases (by omega : b = 0 ∨ b = 1 ∨ b = 2 ∨ b = 3 ∨ b = 4) with rfl | rfl | rfl | rfl | rfl <;> cases c <;> cases d <;> rfl
  exact Ev.congr (fun _ => rfl) ⟨9, fun k hk => by
    obtain ⟨n, rfl⟩ : ∃ n, k = n + 9 := ⟨k - 9, by omega⟩
    exact go n⟩
theorem ms_norange (a b : Int) (c d : Bool) (h : ms_ok a b = false) : Ev (fun k => spec_ModeStep.f k a b c d) (-1) := by
  have l1 : ∀ a b c : Int, spec_l1In.f a b c = some (decide (b ≤ a ∧ a ≤ c)) := by
    intro a b c
    unfold spec_l1In.f
    by_cases h : a ≥ b
    · rw [if_pos h]
      simp [h]
    · rw [if_neg h]
      simp [h]
  have j : Ev (fun k => spec_ModeStep.j0 k a b c d true) (-1) := c_next (by simp only [spec_ModeStep.j0]; exact c_if_pos trivial (Ev.now (-1)))
  unfold ms_ok at h
  unfold spec_ModeStep.f
  simp only [l1]
  by_cases c1 : 0 ≤ a ∧ a ≤ 5
  · refine c_bind1 true (congrArg some (decide_eq_true c1)) (c_if_pos rfl ?_)
    rw [decide_eq_true c1, Bool.true_and] at h
    exact c_bind1 false (congrArg some h) j
  · exact c_bind1 false (congrArg some (decide_eq_false c1)) (c_if_neg (by simp) j)
theorem ms_spec (a b : Int) (c d : Bool) : Ev (fun k => spec_ModeStep.f k a b c d) (if ms_ok a b = true then ms_out a b c d else -1) := by
  cases h : ms_ok a b with
  | true => exact ms_range a b c d h
  | false => exact ms_norange a b c d h
theorem ms_in6 (a b : Int) (c d : Bool) (h : ms_ok a b = true) : 0 ≤ ms_out a b c d ∧ ms_out a b c d ≤ 5 := by
  unfold ms_ok at h
  rw [Bool.and_eq_true, decide_eq_true_eq, decide_eq_true_eq] at h
  rcases (by omega : a = 0 ∨ a = 1 ∨ a = 2 ∨ a = 3 ∨ a = 4 ∨ a = 5) with rfl | rfl | rfl | rfl | rfl | rfl <;>
    rcases (by omega : b = 0 ∨ b = 1 ∨ b = 2 ∨ b = 3 ∨ b = 4) with rfl | rfl | rfl | rfl | rfl <;> cases c <;> cases d <;> decide
def mt_get (a : List Bool) (i : Nat) : Bool := if (i : Int) < (a.length : Int) then rdOf false a (i : Int) else false
/-- The round's way through the two tests on the flags' lengths. -/
theorem mt_take {α : Type} (x : List α) (i : Nat) (v : α) (R : List α) (h : i < R.length) (e : R.take i = x) : (R.set i v).take (i + 1) = x ++ [v] := by
  rw [List.take_add_one, List.getElem?_set_self h, List.take_set_of_le (Nat.le_refl i), e]
  rfl
theorem mt_impl (m c : Int) (d f : Bool) (h : ms_ok m c = true) : impl_ModeStep.f m c d f = some (ms_out m c d f) := by
  unfold impl_ModeStep.f
  rw [if_pos h]
theorem mt_l0 (x : List Int) (a b : List Bool) (hx : x.length ≤ 200) (hc : ∀ i, i < x.length → 0 ≤ rd x (i : Int) ∧ rd x (i : Int) ≤ 4) : ∀ (d i : Nat) (m : Int) (S R : List Int), i + d = x.length → S.length = i → R.length = x.length → R.take i = S → 0 ≤ m → m ≤ 5 →
    Both (fun y => y.length ≤ 200) (fun k => spec_ModeTrace.l0 k x a b S m (i : Int)) (fun k => impl_ModeTrace.l0 k a b R m x (x.length : Int) (i : Int))
  | 0, i, m, S, R, h, hS, hR, hT, h0, h1 => by
    have e : R = S := by rw [← hT, List.take_of_length_le (by omega)]
    subst e
    refine b_next ?_
    simp only [spec_ModeTrace.l0, impl_ModeTrace.l0]
    exact b_negL (by omega) (b_negR (by omega) (b_now _ (by omega)))
  | d + 1, i, m, S, R, h, hS, hR, hT, h0, h1 => by
    have hci := hc i (by omega)
    have ok : ms_ok m (rd x (i : Int)) = true := by
      unfold ms_ok
      rw [Bool.and_eq_true, decide_eq_true_eq, decide_eq_true_eq]
      exact ⟨⟨h0, h1⟩, hci⟩
    have ih : ∀ u v, Both (fun y => y.length ≤ 200) (fun k => spec_ModeTrace.l0 k x a b (S ++ [ms_out m (rd x (i : Int)) u v]) (ms_out m (rd x (i : Int)) u v) ((i + 1 : Nat) : Int)) (fun k => impl_ModeTrace.l0 k a b (R.set i (ms_out m (rd x (i : Int)) u v)) (ms_out m (rd x (i : Int)) u v) x (x.length : Int) ((i + 1 : Nat) : Int)) := fun u v => by
      have h6 := ms_in6 m (rd x (i : Int)) u v ok
      exact mt_l0 x a b hx hc d (i + 1) _ _ _ (by omega) (by rw [List.length_append, hS]; rfl) (by rw [List.length_set]; exact hR) (mt_take S i _ R (by omega) hT) h6.1 h6.2
    have go : ∀ u v, Both (fun y => y.length ≤ 200) (fun k => (spec_ModeStep.f k m (rd x (i : Int)) u v).bind fun t => (if t < 0 then (some (([] : List Int))) else (if S.length < 17592186044416 then (spec_ModeTrace.l0 k x a b (S ++ [t]) t ((i + 1 : Nat) : Int)) else (none)))) (fun k => (impl_ModeStep.f m (rd x (i : Int)) u v).bind fun t => (if (i : Int) < (R.length : Int) then (impl_ModeTrace.l0 k a b (R.set i t) t x (x.length : Int) ((i + 1 : Nat) : Int)) else (none))) := fun u v => by
      have h6 := ms_in6 m (rd x (i : Int)) u v ok
      exact b_bindL _ (ms_range m _ u v ok) (b_bindR1 _ (mt_impl m _ u v ok) (b_negL (by omega) (b_posL (by omega) (b_posR (by omega) (ih u v)))))
    refine b_next ?_
    simp only [spec_ModeTrace.l0, impl_ModeTrace.l0]
    rw [c_succ i (by omega), Int.toNat_natCast]
    refine b_posL (by omega) (b_posL (by omega) (b_posR (by omega) (b_posR (by omega) (b_posR (by omega) (b_if (fun _ => b_if (fun _ => go _ _) (fun _ => go _ _)) (fun _ => b_if (fun _ => go _ _) (fun _ => go _ _)))))))
theorem mt_bad (x : List Int) (a b : List Bool) (hx : x.length ≤ 200) (j : Nat) (hj : j < x.length) (hb : ¬ (0 ≤ rd x (j : Int) ∧ rd x (j : Int) ≤ 4)) : ∀ (d i : Nat) (m : Int) (S : List Int), i + d = j → S.length = i → Ev (fun k => spec_ModeTrace.l0 k x a b S m (i : Int)) []
  | 0, i, m, S, h, hS => by
    have e : i = j := by omega
    subst e
    have no : ms_ok m (rd x (i : Int)) = false := by
      unfold ms_ok
      rw [decide_eq_false hb, Bool.and_false]
    have go : ∀ u v (g : Nat → Int → Option (List Int)), Ev (fun k => (spec_ModeStep.f k m (rd x (i : Int)) u v).bind fun t => (if t < 0 then (some (([] : List Int))) else g k t)) [] := fun u v g => c_bind _ (ms_norange m _ u v no) (c_if_pos (by omega) (Ev.now []))
    refine c_next ?_
    simp only [spec_ModeTrace.l0]
    refine c_if_pos (by omega) (c_if_pos (by omega) ?_)
    by_cases c1 : (i : Int) < (a.length : Int)
    · refine c_if_pos c1 ?_
      by_cases c2 : (i : Int) < (b.length : Int)
      · exact c_if_pos c2 (go _ _ _)
      · exact c_if_neg c2 (go _ _ _)
    · refine c_if_neg c1 ?_
      by_cases c2 : (i : Int) < (b.length : Int)
      · exact c_if_pos c2 (go _ _ _)
      · exact c_if_neg c2 (go _ _ _)
  | d + 1, i, m, S, h, hS => by
    have go : ∀ u v, Ev (fun k => (spec_ModeStep.f k m (rd x (i : Int)) u v).bind fun t => (if t < 0 then (some (([] : List Int))) else (if S.length < 17592186044416 then (spec_ModeTrace.l0 k x a b (S ++ [t]) t ((i + 1 : Nat) : Int)) else (none)))) [] := fun u v => by
      refine c_bind _ (ms_spec m _ u v) ?_
      generalize (if ms_ok m (rd x (i : Int)) = true then ms_out m (rd x (i : Int)) u v else -1) = t
      by_cases ct : t < 0
      · exact c_if_pos ct (Ev.now [])
      · exact c_if_neg ct (c_if_pos (by omega) (mt_bad x a b hx j hj hb d (i + 1) t _ (by omega) (by rw [List.length_append, hS]; rfl)))
    refine c_next ?_
    simp only [spec_ModeTrace.l0]
    rw [c_succ i (by omega)]
    refine c_if_pos (by omega) (c_if_pos (by omega) ?_)
    by_cases c1 : (i : Int) < (a.length : Int)
    · refine c_if_pos c1 ?_
      by_cases c2 : (i : Int) < (b.length : Int)
      · exact c_if_pos c2 (go _ _)
      · exact c_if_neg c2 (go _ _)
    · refine c_if_neg c1 ?_
      by_cases c2 : (i : Int) < (b.length : Int)
      · exact c_if_pos c2 (go _ _)
      · exact c_if_neg c2 (go _ _)
theorem mt_any (x : List Int) : (x.any fun v => !decide (0 ≤ v ∧ v ≤ 4)) = false ↔ ∀ i : Nat, i < x.length → 0 ≤ rd x (i : Int) ∧ rd x (i : Int) ≤ 4 := by
  rw [List.any_eq_false]
  constructor
  · intro h i hi
    have := h (x[i]) (List.getElem_mem hi)
    simp only [rd, Int.toNat_natCast]
    rw [List.getD_eq_getElem?_getD, List.getElem?_eq_getElem hi]
    simpa using this
  · intro h v hv
    obtain ⟨i, hi, rfl⟩ := List.getElem_of_mem hv
    have := h i hi
    simp only [rd, Int.toNat_natCast] at this
    rw [List.getD_eq_getElem?_getD, List.getElem?_eq_getElem hi] at this
    simpa using this
theorem mt_both (x : List Int) (a b : List Bool) (hx : x.length ≤ 1048576) : Both (fun y => y.length ≤ 200) (fun k => spec_ModeTrace.f k x a b) (fun k => impl_ModeTrace.f k x a b) := by
  unfold spec_ModeTrace.f impl_ModeTrace.f
  refine b_bindL1 [] rfl ?_
  refine b_if (fun _ => ?_) (fun c => ?_)
  · refine b_nextR ?_
    simp only [impl_ModeTrace.j0]
    exact b_posR trivial (b_now [] (by simp))
  · refine b_bindR1 _ rfl (b_nextR ?_)
    simp only [impl_ModeTrace.j0]
    cases hb : (x.any fun v => !decide (0 ≤ v ∧ v ≤ 4)) with
    | false =>
      refine b_negR (by simp) (b_posR (by omega) (b_posR (by omega) ?_))
      exact mt_l0 x a b (by omega) ((mt_any x).1 hb) x.length 0 0 [] _ (by omega) rfl (by simp) (by simp) (by omega) (by omega)
    | true =>
      have hn : ¬ ∀ i : Nat, i < x.length → 0 ≤ rd x (i : Int) ∧ rd x (i : Int) ≤ 4 := fun h => by
        rw [(mt_any x).2 h] at hb
        cases hb
      obtain ⟨j, hj⟩ := Classical.not_forall.1 hn
      obtain ⟨hj, hb⟩ := Classical.not_imp.1 hj
      refine b_posR rfl ?_
      exact ⟨[], by simp, mt_bad x a b (by omega) j hj hb j 0 0 [] (by omega) rfl, Ev.now []⟩
theorem FnExactModeTrace : ∀ (l0 : List Int) (l1 : List Bool) (l2 : List Bool), (l0.length ≤ maxLen ∧ ∀ y2 ∈ l0, (Lit.int .i64 y2).wf = true) → (l1.length ≤ maxLen ∧ ∀ y2 ∈ l1, True) → (l2.length ≤ maxLen ∧ ∀ y2 ∈ l2, True) → ∃ k, laws_FnExactModeTrace.f k l0 l1 l2 = some true := by
  intro x a b hx ha hb
  refine Ev.rounds (r := true) ?_
  unfold laws_FnExactModeTrace.f
  by_cases cx : (x.length : Int) > 1048576
  · exact c_if_pos cx (Ev.now true)
  by_cases ca : (a.length : Int) > 1048576
  · exact c_if_neg cx (c_if_pos ca (Ev.now true))
  by_cases cb : (b.length : Int) > 1048576
  · exact c_if_neg cx (c_if_neg ca (c_if_pos cb (Ev.now true)))
  obtain ⟨y, hy, hs, hi⟩ := mt_both x a b (by omega)
  refine c_if_neg (by omega) ?_
  refine c_if_neg (by omega) ?_
  refine c_if_neg (by omega) ?_
  refine c_bind _ (c_toIntS_ev x (by omega)) ?_
  refine c_bind _ (c_toBoolS_ev a (by omega)) ?_
  refine c_bind _ (c_toBoolS_ev b (by omega)) ?_
  refine c_bind _ (hs) ?_
  refine c_bind _ (c_toIntS_ev x (by omega)) ?_
  refine c_bind _ (c_toBoolS_ev a (by omega)) ?_
  refine c_bind _ (c_toBoolS_ev b (by omega)) ?_
  refine c_bind _ (hi) ?_
  refine c_bind _ (c_eqIntS_ev y (by first | omega | (rw [List.length_map]; omega))) ?_
  refine c_if_pos rfl ?_
  refine c_bind _ (c_toIntS_ev x (by omega)) ?_
  refine c_bind _ (c_eqIntS_ev x (by first | omega | (rw [List.length_map]; omega))) ?_
  refine c_if_pos rfl ?_
  refine c_bind _ (c_toBoolS_ev a (by omega)) ?_
  refine c_bind _ (c_eqBoolS_ev a (by first | omega | (rw [List.length_map]; omega))) ?_
  refine c_if_pos rfl ?_
  refine c_bind _ (c_toBoolS_ev b (by omega)) ?_
  refine c_bind _ (c_eqBoolS_ev b (by first | omega | (rw [List.length_map]; omega))) ?_
  refine c_if_pos rfl ?_
  refine c_bind _ (c_laws_markIntS_ev x (1) (by omega) (by omega)) ?_
  refine c_bind _ (c_laws_markBoolS_ev a (1 + (x.length : Int)) (by omega) (by omega)) ?_
  refine c_bind _ (c_laws_markBoolS_ev b (1 + (x.length : Int) + (a.length : Int)) (by omega) (by omega)) ?_
  refine c_if_neg (by simp only; omega) ?_
  refine c_bind _ (c_eqIntS_ev y (by first | omega | (rw [List.length_map]; omega))) ?_
  refine c_next ?_
  simp only [laws_FnExactModeTrace.j0]
  refine c_if_neg (by simp) ?_
  refine c_bind _ (c_laws_markIntS_ev y (1) (by omega) (by omega)) ?_
  refine c_bind _ (c_heldInt_ev (1) (y.length) (by omega) (by omega)) ?_
  refine c_if_neg (by omega) ?_
  refine c_if_pos rfl ?_
  refine c_bind _ (c_toIntS_ev x (by omega)) ?_
  refine c_bind _ (c_toBoolS_ev a (by omega)) ?_
  refine c_bind _ (c_toBoolS_ev b (by omega)) ?_
  refine c_bind _ (hi) ?_
  refine c_bind _ (c_eqIntS_ev y (by first | omega | (rw [List.length_map]; omega))) ?_
  refine c_if_pos rfl ?_
  refine c_bind _ (c_heldInt_ev (1) (y.length) (by omega) (by omega)) ?_
  refine c_if_neg (by omega) ?_
  refine c_if_pos rfl ?_
  exact Ev.now true

end Go.Proofs.Ythbbhdadioiefaa.Pure
