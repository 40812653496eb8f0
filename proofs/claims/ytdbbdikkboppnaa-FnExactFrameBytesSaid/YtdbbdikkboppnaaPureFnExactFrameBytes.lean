/- For every frame the law of FrameBytes answers true (no condition beyond the kinds and the reach of the argument). -/
import Derived.Test.YtdbbdikkboppnaaQFnExactFrameBytesx2
namespace Go.Proofs.Ytdbbdikkboppnaa.Pure
open Go.RowKit Go.Proofs.Ytdbbdikkboppnaa.QFnExactFrameBytes Go.Proofs.YtdbbdikkboppnaaW.PrintWords Go.Proofs.YtdbbdikkboppnaaW.PrintLast Go.Proofs.YtdbbdikkboppnaaW.PrintMore
set_option linter.unusedVariables false
set_option linter.unusedSimpArgs false

theorem c_ev_det {α : Type} {g : Nat → Option α} {r r' : α} (h : Ev g r) (h' : Ev g r') : r = r' := by
  obtain ⟨K, h⟩ := h
  obtain ⟨K', h'⟩ := h'
  have h1 := h (max K K') (by omega)
  have h2 := h' (max K K') (by omega)
  rw [h1] at h2
  exact Option.some.inj h2
theorem c_w64 {x : Int} (h0 : -9223372036854775808 ≤ x) (h1 : x ≤ 9223372036854775807) : wrap64 x = x := by
  unfold wrap64
  omega
theorem c_succ (i : Nat) (h : i < 9223372036854775807) : wrap64 ((i : Int) + 1) = ((i + 1 : Nat) : Int) := by
  unfold wrap64
  omega
theorem c_take_set {α : Type} (x acc : List α) (v : α) (i : Nat) (hv : x[i]? = some v) (hl : acc.length = x.length) (ht : acc.take i = x.take i) : (acc.set i v).take (i + 1) = x.take (i + 1) := by
  have hi : i < x.length := (List.getElem?_eq_some_iff.1 hv).1
  apply List.ext_getElem?
  intro j
  have hj := congrArg (fun l => l[j]?) ht
  simp only [List.getElem?_take] at hj
  rw [List.getElem?_take, List.getElem?_take]
  by_cases h1 : j < i + 1
  · rw [if_pos h1, if_pos h1]
    by_cases h2 : j < i
    · rw [if_pos h2, if_pos h2] at hj
      rw [List.getElem?_set_ne (by omega)]
      exact hj
    · have : j = i := by omega
      subst this
      rw [List.getElem?_set_self (by omega), hv]
  · rw [if_neg h1, if_neg h1]
theorem c_getD {α : Type} (x : List α) (d : α) (i : Nat) (h : i < x.length) : x[i]? = some (x.getD i d) := by
  rw [List.getD_eq_getElem?_getD, List.getElem?_eq_getElem h]
  rfl
theorem c_if_pos {α : Type} {c : Prop} [Decidable c] {g f : Nat → Option α} {r : α} (h : c) (k : Ev g r) : Ev (fun n => if c then g n else f n) r := Ev.congr (fun _ => if_pos h) k
theorem c_if_neg {α : Type} {c : Prop} [Decidable c] {g f : Nat → Option α} {r : α} (h : ¬ c) (k : Ev f r) : Ev (fun n => if c then g n else f n) r := Ev.congr (fun _ => if_neg h) k
theorem c_bind {α β : Type} {g : Nat → Option α} {f : Nat → α → Option β} (a : α) {r : β} (h : Ev g a) (k : Ev (fun n => f n a) r) : Ev (fun n => (g n).bind (f n)) r := Ev.bind h k
theorem c_bind1 {α β : Type} {g : Option α} {f : Nat → α → Option β} (a : α) {r : β} (h : g = some a) (k : Ev (fun n => f n a) r) : Ev (fun n => g.bind (f n)) r := Ev.congr (fun n => by rw [h]; rfl) k

theorem c_next {α : Type} {g : Nat → Option α} {r : α} (h : Ev (fun k => g (k + 1)) r) : Ev g r := Ev.step (fun _ => rfl) h


theorem c_toByteS_l (x : List Int) (hn : x.length < 4611686018427387904) : ∀ (d : Nat) (acc : List Int) (i : Nat), acc.length = x.length → i + d = x.length → acc.take i = x.take i → Ev (fun k => laws_toByteS.l0 k x acc (i : Int)) x
  | 0, acc, i, hl, hi, ht => by
    have e : acc = x := by
      rw [List.take_of_length_le (by omega), List.take_of_length_le (by omega)] at ht
      exact ht
    subst e
    exact Ev.step (f := fun _ => some acc) (fun k => by simp only [laws_toByteS.l0]; rw [if_neg (by omega)]) (Ev.now _)
  | d + 1, acc, i, hl, hi, ht => by
    refine Ev.step (f := fun k => laws_toByteS.l0 k x (acc.set i (x.getD i 0)) ((i + 1 : Nat) : Int)) (fun k => ?_) (c_toByteS_l x hn d _ (i + 1) (by rw [List.length_set]; exact hl) (by omega) (c_take_set x acc _ i (c_getD x 0 i (by omega)) hl ht))
    simp only [laws_toByteS.l0]
    rw [if_pos (by omega), if_pos (by omega), if_pos (by omega), c_succ i (by omega)]
    simp only [rd, Int.toNat_natCast]
theorem c_toByteS_ev (x : List Int) (hn : x.length ≤ 1048576) : Ev (fun k => laws_toByteS.f k x) x := by
  unfold laws_toByteS.f
  refine c_if_pos (by omega) (c_if_pos (by omega) ?_)
  refine c_toByteS_l x (by omega) x.length _ 0 (by simp) (by omega) (by simp)


theorem c_eqByteS_l (x : List Int) (hn : x.length < 4611686018427387904) : ∀ (d : Nat) (i : Nat), i + d = x.length → Ev (fun k => laws_eqByteS.l0 k x x (i : Int)) true
  | 0, i, hi => Ev.step (f := fun _ => some true) (fun k => by simp only [laws_eqByteS.l0]; rw [if_neg (by omega)]) (Ev.now _)
  | d + 1, i, hi => by
    refine Ev.step (f := fun k => laws_eqByteS.l0 k x x ((i + 1 : Nat) : Int)) (fun k => ?_) (c_eqByteS_l x hn d (i + 1) (by omega))
    simp only [laws_eqByteS.l0]
    rw [if_pos (by omega), if_pos (by omega), if_pos (by omega), if_pos trivial, c_succ i (by omega)]
theorem c_eqByteS_ev (x : List Int) (hn : x.length < 4611686018427387904) : Ev (fun k => laws_eqByteS.f k x x) true := by
  unfold laws_eqByteS.f
  exact c_if_pos rfl (c_eqByteS_l x hn x.length 0 (by omega))


def c_mkByte (m : Int) (n : Nat) : List Int := (List.range n).map fun (j : Nat) => ((m + (j : Int)) % 256)
theorem c_mkByte_len (m : Int) (n : Nat) : (c_mkByte m n).length = n := by simp [c_mkByte]
theorem c_mkByte_at (m : Int) (n i : Nat) (h : i < n) : (c_mkByte m n)[i]? = some ((m + (i : Int)) % 256) := by simp [c_mkByte, h]
theorem c_heldByte_l (m : Int) (n : Nat) (hm : 0 ≤ m) (hb : m + n < 4611686018427387904) : ∀ (d i : Nat), i + d = n → Ev (fun k => laws_heldByteS.l0 k (c_mkByte m n) (m + i) (i : Int)) (m + n)
  | 0, i, hi => by
    have ei : i = n := by omega
    subst ei
    refine Ev.step (f := fun _ => some (m + i)) (fun k => ?_) (Ev.now _)
    simp only [laws_heldByteS.l0, c_mkByte_len]
    rw [if_neg (by omega)]
  | d + 1, i, hi => by
    refine Ev.step (f := fun k => laws_heldByteS.l0 k (c_mkByte m n) (m + ((i + 1 : Nat) : Int)) ((i + 1 : Nat) : Int)) (fun k => ?_) (c_heldByte_l m n hm hb d (i + 1) (by omega))
    have hrd : rd (c_mkByte m n) (i : Int) = ((m + (i : Int)) % 256) := by
      simp only [rd, Int.toNat_natCast]
      rw [List.getD_eq_getElem?_getD, c_mkByte_at m n i (by omega)]
      rfl
    simp only [laws_heldByteS.l0, c_mkByte_len]
    rw [if_pos (by omega), if_pos (by omega), if_pos hrd, c_succ i (by omega), c_w64 (x := m + i + 1) (by omega) (by omega), show m + (i : Int) + 1 = m + ((i + 1 : Nat) : Int) from by omega]
theorem c_heldByte_ev (m : Int) (n : Nat) (hm : 0 ≤ m) (hb : m + n < 4611686018427387904) : Ev (fun k => laws_heldByteS.f k (c_mkByte m n) m) (m + n) := by
  have := c_heldByte_l m n hm hb n 0 (by omega)
  rw [show m + ((0 : Nat) : Int) = m from by omega] at this
  exact this


theorem c_laws_markByteS_l (m : Int) (n : Nat) (hm : 0 ≤ m) (hb : m + n < 4611686018427387904) : ∀ (d : Nat) (acc : List Int) (i : Nat), acc.length = n → i + d = n → acc.take i = (c_mkByte m n).take i → Ev (fun k => laws_markByteS.l0 k acc (m + i) (i : Int)) (m + n, c_mkByte m n)
  | 0, acc, i, hl, hi, ht => by
    have e : acc = c_mkByte m n := by
      rw [List.take_of_length_le (by omega), List.take_of_length_le (by rw [c_mkByte_len]; omega)] at ht
      exact ht
    have ei : i = n := by omega
    subst ei
    refine Ev.step (f := fun _ => some (m + i, c_mkByte m i)) (fun k => ?_) (Ev.now _)
    simp only [laws_markByteS.l0]
    rw [if_neg (by omega), e]
  | d + 1, acc, i, hl, hi, ht => by
    refine Ev.step (f := fun k => laws_markByteS.l0 k (acc.set i ((m + i) % 256)) (m + ((i + 1 : Nat) : Int)) ((i + 1 : Nat) : Int)) (fun k => ?_) (c_laws_markByteS_l m n hm hb d _ (i + 1) (by rw [List.length_set]; exact hl) (by omega) (c_take_set (c_mkByte m n) acc _ i (c_mkByte_at m n i (by omega)) (by rw [hl, c_mkByte_len]) ht))
    simp only [laws_markByteS.l0]
    rw [if_pos (by omega), if_pos (by omega), c_succ i (by omega), Int.toNat_natCast, c_w64 (x := m + i + 1) (by omega) (by omega), show m + (i : Int) + 1 = m + ((i + 1 : Nat) : Int) from by omega]
theorem c_laws_markByteS_ev (l : List Int) (m : Int) (hm : 0 ≤ m) (hb : m + l.length < 4611686018427387904) : Ev (fun k => laws_markByteS.f k l m) (m + l.length, c_mkByte m l.length) := by
  have := c_laws_markByteS_l m l.length hm hb l.length l 0 rfl (by omega) (by simp)
  rw [show m + ((0 : Nat) : Int) = m from by omega] at this
  exact this


theorem c_laws_markByteS_w_l (m : Int) (n : Nat) (hm : 0 ≤ m) (hb : m + n < 4611686018427387904) : ∀ (d : Nat) (acc : List Int) (i : Nat), acc.length = n → i + d = n → acc.take i = (c_mkByte m n).take i → Ev (fun k => laws_markByteS_w.l0 k acc (m + i) (i : Int)) (m + n, c_mkByte m n)
  | 0, acc, i, hl, hi, ht => by
    have e : acc = c_mkByte m n := by
      rw [List.take_of_length_le (by omega), List.take_of_length_le (by rw [c_mkByte_len]; omega)] at ht
      exact ht
    have ei : i = n := by omega
    subst ei
    refine Ev.step (f := fun _ => some (m + i, c_mkByte m i)) (fun k => ?_) (Ev.now _)
    simp only [laws_markByteS_w.l0]
    rw [if_neg (by omega), e]
  | d + 1, acc, i, hl, hi, ht => by
    refine Ev.step (f := fun k => laws_markByteS_w.l0 k (acc.set i ((m + i) % 256)) (m + ((i + 1 : Nat) : Int)) ((i + 1 : Nat) : Int)) (fun k => ?_) (c_laws_markByteS_w_l m n hm hb d _ (i + 1) (by rw [List.length_set]; exact hl) (by omega) (c_take_set (c_mkByte m n) acc _ i (c_mkByte_at m n i (by omega)) (by rw [hl, c_mkByte_len]) ht))
    simp only [laws_markByteS_w.l0]
    rw [if_pos (by omega), if_pos (by omega), c_succ i (by omega), Int.toNat_natCast, c_w64 (x := m + i + 1) (by omega) (by omega), show m + (i : Int) + 1 = m + ((i + 1 : Nat) : Int) from by omega]
theorem c_laws_markByteS_w_ev (l : List Int) (m : Int) (hm : 0 ≤ m) (hb : m + l.length < 4611686018427387904) : Ev (fun k => laws_markByteS_w.f k l m) (m + l.length, c_mkByte m l.length) := by
  have := c_laws_markByteS_w_l m l.length hm hb l.length l 0 rfl (by omega) (by simp)
  rw [show m + ((0 : Nat) : Int) = m from by omega] at this
  exact this

/-- Both come to one answer, which has P. -/
def Both {α : Type} (P : α → Prop) (g h : Nat → Option α) : Prop := ∃ r, P r ∧ Ev g r ∧ Ev h r
theorem b_now {α : Type} {P : α → Prop} (a : α) (h : P a) : Both P (fun _ => some a) (fun _ => some a) := ⟨a, h, Ev.now a, Ev.now a⟩
theorem b_nextL {α : Type} {P : α → Prop} {g h : Nat → Option α} (k : Both P (fun n => g (n + 1)) h) : Both P g h := by
  obtain ⟨r, hp, h1, h2⟩ := k
  exact ⟨r, hp, c_next h1, h2⟩
theorem b_nextR {α : Type} {P : α → Prop} {g h : Nat → Option α} (k : Both P g (fun n => h (n + 1))) : Both P g h := by
  obtain ⟨r, hp, h1, h2⟩ := k
  exact ⟨r, hp, h1, c_next h2⟩
theorem b_next {α : Type} {P : α → Prop} {g h : Nat → Option α} (k : Both P (fun n => g (n + 1)) (fun n => h (n + 1))) : Both P g h := b_nextL (b_nextR k)
theorem b_posL {α : Type} {P : α → Prop} {c : Prop} [Decidable c] {g f h : Nat → Option α} (hc : c) (k : Both P g h) : Both P (fun n => if c then g n else f n) h := by
  obtain ⟨r, hp, h1, h2⟩ := k
  exact ⟨r, hp, c_if_pos hc h1, h2⟩
theorem b_negL {α : Type} {P : α → Prop} {c : Prop} [Decidable c] {g f h : Nat → Option α} (hc : ¬ c) (k : Both P f h) : Both P (fun n => if c then g n else f n) h := by
  obtain ⟨r, hp, h1, h2⟩ := k
  exact ⟨r, hp, c_if_neg hc h1, h2⟩
theorem b_posR {α : Type} {P : α → Prop} {c : Prop} [Decidable c] {g f h : Nat → Option α} (hc : c) (k : Both P h g) : Both P h (fun n => if c then g n else f n) := by
  obtain ⟨r, hp, h1, h2⟩ := k
  exact ⟨r, hp, h1, c_if_pos hc h2⟩
theorem b_negR {α : Type} {P : α → Prop} {c : Prop} [Decidable c] {g f h : Nat → Option α} (hc : ¬ c) (k : Both P h f) : Both P h (fun n => if c then g n else f n) := by
  obtain ⟨r, hp, h1, h2⟩ := k
  exact ⟨r, hp, h1, c_if_neg hc h2⟩
theorem b_if {α : Type} {P : α → Prop} {c : Prop} [Decidable c] {g f g' f' : Nat → Option α} (hp : c → Both P g g') (hn : ¬ c → Both P f f') : Both P (fun n => if c then g n else f n) (fun n => if c then g' n else f' n) := by
  by_cases hc : c
  · exact b_posL hc (b_posR hc (hp hc))
  · exact b_negL hc (b_negR hc (hn hc))
theorem b_iff {α : Type} {P : α → Prop} {c d : Prop} [Decidable c] [Decidable d] {g f g' f' : Nat → Option α} (e : c ↔ d) (hp : c → Both P g g') (hn : ¬ c → Both P f f') : Both P (fun n => if c then g n else f n) (fun n => if d then g' n else f' n) := by
  by_cases hc : c
  · exact b_posL hc (b_posR (e.1 hc) (hp hc))
  · exact b_negL hc (b_negR (fun h => hc (e.2 h)) (hn hc))
theorem b_bind {α β : Type} {Q : α → Prop} {P : β → Prop} {g h : Nat → Option α} {f f' : Nat → α → Option β} (k : Both Q g h) (l : ∀ a, Q a → Both P (fun n => f n a) (fun n => f' n a)) : Both P (fun n => (g n).bind (f n)) (fun n => (h n).bind (f' n)) := by
  obtain ⟨a, ha, h1, h2⟩ := k
  obtain ⟨r, hp, h3, h4⟩ := l a ha
  exact ⟨r, hp, c_bind a h1 h3, c_bind a h2 h4⟩
theorem b_bindL {α β : Type} {P : β → Prop} {g : Nat → Option α} {f : Nat → α → Option β} {h : Nat → Option β} (a : α) (e : Ev g a) (k : Both P (fun n => f n a) h) : Both P (fun n => (g n).bind (f n)) h := by
  obtain ⟨r, hp, h1, h2⟩ := k
  exact ⟨r, hp, c_bind a e h1, h2⟩
theorem b_bindR {α β : Type} {P : β → Prop} {g : Nat → Option α} {f : Nat → α → Option β} {h : Nat → Option β} (a : α) (e : Ev g a) (k : Both P h (fun n => f n a)) : Both P h (fun n => (g n).bind (f n)) := by
  obtain ⟨r, hp, h1, h2⟩ := k
  exact ⟨r, hp, h1, c_bind a e h2⟩
theorem b_bindL1 {α β : Type} {P : β → Prop} {g : Option α} {f : Nat → α → Option β} {h : Nat → Option β} (a : α) (e : g = some a) (k : Both P (fun n => f n a) h) : Both P (fun n => g.bind (f n)) h := by
  obtain ⟨r, hp, h1, h2⟩ := k
  exact ⟨r, hp, c_bind1 a e h1, h2⟩
theorem b_bindR1 {α β : Type} {P : β → Prop} {g : Option α} {f : Nat → α → Option β} {h : Nat → Option β} (a : α) (e : g = some a) (k : Both P h (fun n => f n a)) : Both P h (fun n => g.bind (f n)) := by
  obtain ⟨r, hp, h1, h2⟩ := k
  exact ⟨r, hp, h1, c_bind1 a e h2⟩
theorem b_mono {α : Type} {P Q : α → Prop} {g h : Nat → Option α} (k : Both P g h) (i : ∀ a, P a → Q a) : Both Q g h := by
  obtain ⟨r, hp, h1, h2⟩ := k
  exact ⟨r, i r hp, h1, h2⟩
theorem fv_same (a b : Int) (l : List Int) : impl_FrameValid.f a b l = spec_FrameValid.f a b l := rfl
theorem fv_some (a b : Int) (l : List Int) : ∃ r, spec_FrameValid.f a b l = some r := by
  unfold spec_FrameValid.f spec_l1In.f
  by_cases c0 : a ≥ 0 <;> by_cases c1 : b ≥ 1 <;> by_cases c2 : a ≤ 31 <;> by_cases c3 : b ≤ 3 <;> simp [c0, c1, c2, c3]
theorem fv_le (a b : Int) (l : List Int) (h : spec_FrameValid.f a b l = some true) : l.length ≤ 16 := by
  unfold spec_FrameValid.f at h
  obtain ⟨t, _, h⟩ := Option.bind_eq_some_iff.mp h
  split at h
  · obtain ⟨u, _, h⟩ := Option.bind_eq_some_iff.mp h
    split at h
    · have := of_decide_eq_true (Option.some.inj h)
      omega
    · exact absurd h (by simp)
  · exact absurd h (by simp)
theorem cr_same (l : List Int) : ∀ k, (∀ v i, impl_Crc8.l0 k v l (l.length : Int) i = spec_Crc8.l0 k l v i) ∧ (∀ v i j, impl_Crc8.l1 k v l (l.length : Int) i j = spec_Crc8.l1 k l v i j)
  | 0 => ⟨fun _ _ => rfl, fun _ _ _ => rfl⟩
  | k + 1 => by
    obtain ⟨h0, h1⟩ := cr_same l k
    refine ⟨fun v i => ?_, fun v i j => ?_⟩
    · by_cases c : i < (l.length : Int)
      · by_cases c0 : 0 ≤ i
        · simp only [impl_Crc8.l0, spec_Crc8.l0, if_pos c, if_pos c0, h1]
        · simp only [impl_Crc8.l0, spec_Crc8.l0, if_pos c, if_neg c0]
      · simp only [impl_Crc8.l0, spec_Crc8.l0, if_neg c]
    · simp only [impl_Crc8.l1, spec_Crc8.l1]
      rw [h1, h1, h0, Int.mul_comm v 2]
theorem cr_in (l : List Int) (i : Nat) (P : ∀ v, ∃ r, Ev (fun k => spec_Crc8.l0 k l v (wrap64 (i + 1))) r) : ∀ (d : Nat) (v : Int) (j : Nat), j + d = 8 → ∃ r, Ev (fun k => spec_Crc8.l1 k l v (i : Int) (j : Int)) r
  | 0, v, j, h => by
    obtain ⟨r, hr⟩ := P v
    exact ⟨r, Ev.step (fun k => by simp only [spec_Crc8.l1]; rw [if_neg (by omega)]) hr⟩
  | d + 1, v, j, h => by
    by_cases c : v ≥ 128
    · obtain ⟨r, hr⟩ := cr_in l i P d (Go.bits .xor .i64 (wrap64 ((wrap64 (2 * v)) - 256)) 7) (j + 1) (by omega)
      exact ⟨r, Ev.step (fun k => by simp only [spec_Crc8.l1]; rw [if_pos (by omega), if_pos c, c_succ j (by omega)]) hr⟩
    · obtain ⟨r, hr⟩ := cr_in l i P d (wrap64 (2 * v)) (j + 1) (by omega)
      exact ⟨r, Ev.step (fun k => by simp only [spec_Crc8.l1]; rw [if_pos (by omega), if_neg c, c_succ j (by omega)]) hr⟩
theorem cr_out (l : List Int) (hn : l.length < 4611686018427387904) : ∀ (d : Nat) (v : Int) (i : Nat), i + d = l.length → ∃ r, Ev (fun k => spec_Crc8.l0 k l v (i : Int)) r
  | 0, v, i, h => ⟨v, Ev.step (fun k => by simp only [spec_Crc8.l0]; rw [if_neg (by omega)]) (Ev.now v)⟩
  | d + 1, v, i, h => by
    obtain ⟨r, hr⟩ := cr_in l i (fun v => by rw [c_succ i (by omega)]; exact cr_out l hn d v (i + 1) (by omega)) 8 (Go.bits .xor .i64 v (wrap64 (rd l i))) 0 (by omega)
    exact ⟨r, Ev.step (fun k => by simp only [spec_Crc8.l0]; rw [if_pos (by omega), if_pos (by omega)]; rfl) hr⟩
theorem fb_szFrame (a b : Int) (l : List Int) (hl : l.length ≤ 9223372036854775807) : laws_szFrame.f a b l 1048576 = some (if 1048576 - (l.length : Int) < 0 then -1 else 1048576 - (l.length : Int)) := by
  unfold laws_szFrame.f laws_szByteS.f
  rw [c_w64 (x := 1048576 - (l.length : Int)) (by omega) (by omega)]
  by_cases c : 1048576 - (l.length : Int) < 0
  · rw [if_pos c, if_pos c]
    rfl
  · rw [if_neg c, if_neg c]
    simp only [Option.bind_some]
    rw [if_neg c]
theorem fb_toFrame (a b : Int) (l : List Int) (hl : l.length ≤ 1048576) : Ev (fun k => laws_toFrame.f k a b l) (a, b, l) := by
  unfold laws_toFrame.f
  exact c_bind l (c_toByteS_ev l (by omega)) (Ev.now _)
theorem fb_both (a b : Int) (l : List Int) (hl : l.length ≤ 1048576) : Both (fun y => y.length ≤ 1048596) (fun k => spec_FrameBytes.f k a b l) (fun k => impl_FrameBytes.f k a b l) := by
  obtain ⟨v, hv⟩ := fv_some a b l
  have hi : impl_FrameValid.f a b l = some v := (fv_same a b l).trans hv
  unfold spec_FrameBytes.f impl_FrameBytes.f
  refine b_bindL1 v hv (b_bindR1 v hi ?_)
  cases v with
  | false => exact b_negL (by simp) (b_negR (by simp) (b_now [] (by simp)))
  | true =>
    have h16 := fv_le a b l hv
    have hh : (impl_FrameBytes.head a b l).length = 3 := rfl
    obtain ⟨c, hc⟩ := cr_out (impl_FrameBytes.head a b l ++ l) (by rw [List.length_append]; omega) _ 0 0 (Nat.zero_add _)
    have hci : Ev (fun k => impl_Crc8.f k (impl_FrameBytes.head a b l ++ l)) c := Ev.congr (fun k => (cr_same _ k).1 0 0) hc
    refine b_posL rfl (b_posR rfl (b_bindL1 _ rfl ?_))
    refine b_posL (by simp only [List.length_cons, List.length_nil]; omega) (b_bindL1 _ rfl (b_bindL c hc (b_bindR c hci (b_posL (by simp only [List.length_append, List.length_cons, List.length_nil]; omega) (b_posR (by omega) (b_now _ ?_))))))
    show (impl_FrameBytes.head a b l ++ l ++ [c % 256]).length ≤ 1048596
    rw [List.length_append, List.length_append, hh, List.length_singleton]
    omega
theorem FnExactFrameBytes : ∀ (a0_0 : Int) (a0_1 : Int) (l0_2 : List Int), (Lit.int .i64 a0_0).wf = true → (Lit.int .i64 a0_1).wf = true → (l0_2.length ≤ maxLen ∧ ∀ y4 ∈ l0_2, (Lit.int .u8 y4).wf = true) → ∃ k, laws_FnExactFrameBytes.f k a0_0 a0_1 l0_2 = some true := by
  intro a b l ha hb hl
  refine Ev.rounds (r := true) ?_
  unfold laws_FnExactFrameBytes.f
  have hm := hl.1
  simp only [maxLen] at hm
  have hz := fb_szFrame a b l (by omega)
  by_cases c : 1048576 - (l.length : Int) < 0
  · rw [if_pos c] at hz
    exact c_bind1 _ hz (c_if_pos (by omega) (Ev.now true))
  rw [if_neg c] at hz
  have ht := fb_toFrame a b l (by omega)
  obtain ⟨y, hy, hs, hi⟩ := fb_both a b l (by omega)
  have hey := c_eqByteS_ev y (by omega)
  have hef : Ev (fun k => laws_eqFrame.f k a b l a b l) true := by
    unfold laws_eqFrame.f
    exact c_if_pos rfl (c_if_pos rfl (c_bind true (c_eqByteS_ev l (by omega)) (c_if_pos rfl (Ev.now true))))
  have hmf : Ev (fun k => laws_markFrame.f k a b l 1) (1 + (l.length : Int), c_mkByte 1 l.length) := by
    unfold laws_markFrame.f
    exact c_bind _ (c_laws_markByteS_ev l 1 (by omega) (by omega)) (Ev.now _)
  have hmy := c_laws_markByteS_w_ev y 1 (by omega) (by omega)
  have hhy := c_heldByte_ev 1 y.length (by omega) (by omega)
  refine c_bind1 _ hz (c_if_neg c (c_bind _ ht (c_bind _ hs (c_bind _ ht (c_bind _ hi (c_bind _ hey (c_if_pos rfl (c_bind _ ht (c_bind _ hef (c_if_pos rfl (c_bind _ hmf (c_if_neg (by simp only; omega) (c_bind _ hey (c_next ?_))))))))))))))
  simp only [laws_FnExactFrameBytes.j0]
  exact c_if_neg (by simp) (c_bind _ hmy (c_bind _ hhy (c_if_neg (by omega) (c_if_pos rfl (c_bind _ ht (c_bind _ hi (c_bind _ hey (c_if_pos rfl (c_bind _ hhy (c_if_neg (by omega) (c_if_pos rfl (Ev.now true))))))))))))

end Go.Proofs.Ytdbbdikkboppnaa.Pure
