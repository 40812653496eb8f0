/- For every list of bytes the law of ReadFrame answers true (no condition beyond the kinds and the reach of the argument). -/
import Derived.Test.YtdbbdikkboppnaaQFnExactReadFramex3
namespace Go.Proofs.Ytdbbdikkboppnaa.Pure
open Go.RowKit Go.Proofs.Ytdbbdikkboppnaa.QFnExactReadFrame Go.Proofs.YtdbbdikkboppnaaW.PrintWords Go.Proofs.YtdbbdikkboppnaaW.PrintLast Go.Proofs.YtdbbdikkboppnaaW.PrintMore
set_option linter.unusedVariables false
set_option linter.unusedSimpArgs false

theorem c_ev_det {α : Type} {g : Nat → Option α} {r r' : α} (h : Ev g r) (h' : Ev g r') : r = r' := by
  obtain ⟨K, h⟩ := h
  obtain ⟨K', h'⟩ := h'
  have h1 := h (max K K') (by omega)
  have h2 := h' (max K K') (by omega)
  rw [h1] at h2
  exact Option.some.inj h2
theorem c_w64 {x : Int} (h0 : -9223372036854775808 ≤ x) (h1 : x ≤ 9223372036854775807) : wrap64 x = x := by
  unfold wrap64
  omega
theorem c_succ (i : Nat) (h : i < 9223372036854775807) : wrap64 ((i : Int) + 1) = ((i + 1 : Nat) : Int) := by
  unfold wrap64
  omega
theorem c_take_set {α : Type} (x acc : List α) (v : α) (i : Nat) (hv : x[i]? = some v) (hl : acc.length = x.length) (ht : acc.take i = x.take i) : (acc.set i v).take (i + 1) = x.take (i + 1) := by
  have hi : i < x.length := (List.getElem?_eq_some_iff.1 hv).1
  apply List.ext_getElem?
  intro j
  have hj := congrArg (fun l => l[j]?) ht
  simp only [List.getElem?_take] at hj
  rw [List.getElem?_take, List.getElem?_take]
  by_cases h1 : j < i + 1
  · rw [if_pos h1, if_pos h1]
    by_cases h2 : j < i
    · rw [if_pos h2, if_pos h2] at hj
      rw [List.getElem?_set_ne (by omega)]
      exact hj
    · have : j = i := by omega
      subst this
      rw [List.getElem?_set_self (by omega), hv]
  · rw [if_neg h1, if_neg h1]
theorem c_getD {α : Type} (x : List α) (d : α) (i : Nat) (h : i < x.length) : x[i]? = some (x.getD i d) := by
  rw [List.getD_eq_getElem?_getD, List.getElem?_eq_getElem h]
  rfl
theorem c_if_pos {α : Type} {c : Prop} [Decidable c] {g f : Nat → Option α} {r : α} (h : c) (k : Ev g r) : Ev (fun n => if c then g n else f n) r := Ev.congr (fun _ => if_pos h) k
theorem c_if_neg {α : Type} {c : Prop} [Decidable c] {g f : Nat → Option α} {r : α} (h : ¬ c) (k : Ev f r) : Ev (fun n => if c then g n else f n) r := Ev.congr (fun _ => if_neg h) k
theorem c_bind {α β : Type} {g : Nat → Option α} {f : Nat → α → Option β} (a : α) {r : β} (h : Ev g a) (k : Ev (fun n => f n a) r) : Ev (fun n => (g n).bind (f n)) r := Ev.bind h k
theorem c_bind1 {α β : Type} {g : Option α} {f : Nat → α → Option β} (a : α) {r : β} (h : g = some a) (k : Ev (fun n => f n a) r) : Ev (fun n => g.bind (f n)) r := Ev.congr (fun n => by rw [h]; rfl) k

theorem c_next {α : Type} {g : Nat → Option α} {r : α} (h : Ev (fun k => g (k + 1)) r) : Ev g r := Ev.step (fun _ => rfl) h


theorem c_toByteS_l (x : List Int) (hn : x.length < 4611686018427387904) : ∀ (d : Nat) (acc : List Int) (i : Nat), acc.length = x.length → i + d = x.length → acc.take i = x.take i → Ev (fun k => laws_toByteS.l0 k x acc (i : Int)) x
  | 0, acc, i, hl, hi, ht => by
    have e : acc = x := by
      rw [List.take_of_length_le (by omega), List.take_of_length_le (by omega)] at ht
      exact ht
    subst e
    exact Ev.step (f := fun _ => some acc) (fun k => by simp only [laws_toByteS.l0]; rw [if_neg (by omega)]) (Ev.now _)
  | d + 1, acc, i, hl, hi, ht => by
    refine Ev.step (f := fun k => laws_toByteS.l0 k x (acc.set i (x.getD i 0)) ((i + 1 : Nat) : Int)) (fun k => ?_) (c_toByteS_l x hn d _ (i + 1) (by rw [List.length_set]; exact hl) (by omega) (c_take_set x acc _ i (c_getD x 0 i (by omega)) hl ht))
    simp only [laws_toByteS.l0]
    rw [if_pos (by omega), if_pos (by omega), if_pos (by omega), c_succ i (by omega)]
    simp only [rd, Int.toNat_natCast]
theorem c_toByteS_ev (x : List Int) (hn : x.length ≤ 1048576) : Ev (fun k => laws_toByteS.f k x) x := by
  unfold laws_toByteS.f
  refine c_if_pos (by omega) (c_if_pos (by omega) ?_)
  refine c_toByteS_l x (by omega) x.length _ 0 (by simp) (by omega) (by simp)


theorem c_eqByteS_l (x : List Int) (hn : x.length < 4611686018427387904) : ∀ (d : Nat) (i : Nat), i + d = x.length → Ev (fun k => laws_eqByteS.l0 k x x (i : Int)) true
  | 0, i, hi => Ev.step (f := fun _ => some true) (fun k => by simp only [laws_eqByteS.l0]; rw [if_neg (by omega)]) (Ev.now _)
  | d + 1, i, hi => by
    refine Ev.step (f := fun k => laws_eqByteS.l0 k x x ((i + 1 : Nat) : Int)) (fun k => ?_) (c_eqByteS_l x hn d (i + 1) (by omega))
    simp only [laws_eqByteS.l0]
    rw [if_pos (by omega), if_pos (by omega), if_pos (by omega), if_pos trivial, c_succ i (by omega)]
theorem c_eqByteS_ev (x : List Int) (hn : x.length < 4611686018427387904) : Ev (fun k => laws_eqByteS.f k x x) true := by
  unfold laws_eqByteS.f
  exact c_if_pos rfl (c_eqByteS_l x hn x.length 0 (by omega))


def c_mkByte (m : Int) (n : Nat) : List Int := (List.range n).map fun (j : Nat) => ((m + (j : Int)) % 256)
theorem c_mkByte_len (m : Int) (n : Nat) : (c_mkByte m n).length = n := by simp [c_mkByte]
theorem c_mkByte_at (m : Int) (n i : Nat) (h : i < n) : (c_mkByte m n)[i]? = some ((m + (i : Int)) % 256) := by simp [c_mkByte, h]
theorem c_heldByte_l (m : Int) (n : Nat) (hm : 0 ≤ m) (hb : m + n < 4611686018427387904) : ∀ (d i : Nat), i + d = n → Ev (fun k => laws_heldByteS.l0 k (c_mkByte m n) (m + i) (i : Int)) (m + n)
  | 0, i, hi => by
    have ei : i = n := by omega
    subst ei
    refine Ev.step (f := fun _ => some (m + i)) (fun k => ?_) (Ev.now _)
    simp only [laws_heldByteS.l0, c_mkByte_len]
    rw [if_neg (by omega)]
  | d + 1, i, hi => by
    refine Ev.step (f := fun k => laws_heldByteS.l0 k (c_mkByte m n) (m + ((i + 1 : Nat) : Int)) ((i + 1 : Nat) : Int)) (fun k => ?_) (c_heldByte_l m n hm hb d (i + 1) (by omega))
    have hrd : rd (c_mkByte m n) (i : Int) = ((m + (i : Int)) % 256) := by
      simp only [rd, Int.toNat_natCast]
      rw [List.getD_eq_getElem?_getD, c_mkByte_at m n i (by omega)]
      rfl
    simp only [laws_heldByteS.l0, c_mkByte_len]
    rw [if_pos (by omega), if_pos (by omega), if_pos hrd, c_succ i (by omega), c_w64 (x := m + i + 1) (by omega) (by omega), show m + (i : Int) + 1 = m + ((i + 1 : Nat) : Int) from by omega]
theorem c_heldByte_ev (m : Int) (n : Nat) (hm : 0 ≤ m) (hb : m + n < 4611686018427387904) : Ev (fun k => laws_heldByteS.f k (c_mkByte m n) m) (m + n) := by
  have := c_heldByte_l m n hm hb n 0 (by omega)
  rw [show m + ((0 : Nat) : Int) = m from by omega] at this
  exact this


theorem c_laws_markByteS_l (m : Int) (n : Nat) (hm : 0 ≤ m) (hb : m + n < 4611686018427387904) : ∀ (d : Nat) (acc : List Int) (i : Nat), acc.length = n → i + d = n → acc.take i = (c_mkByte m n).take i → Ev (fun k => laws_markByteS.l0 k acc (m + i) (i : Int)) (m + n, c_mkByte m n)
  | 0, acc, i, hl, hi, ht => by
    have e : acc = c_mkByte m n := by
      rw [List.take_of_length_le (by omega), List.take_of_length_le (by rw [c_mkByte_len]; omega)] at ht
      exact ht
    have ei : i = n := by omega
    subst ei
    refine Ev.step (f := fun _ => some (m + i, c_mkByte m i)) (fun k => ?_) (Ev.now _)
    simp only [laws_markByteS.l0]
    rw [if_neg (by omega), e]
  | d + 1, acc, i, hl, hi, ht => by
    refine Ev.step (f := fun k => laws_markByteS.l0 k (acc.set i ((m + i) % 256)) (m + ((i + 1 : Nat) : Int)) ((i + 1 : Nat) : Int)) (fun k => ?_) (c_laws_markByteS_l m n hm hb d _ (i + 1) (by rw [List.length_set]; exact hl) (by omega) (c_take_set (c_mkByte m n) acc _ i (c_mkByte_at m n i (by omega)) (by rw [hl, c_mkByte_len]) ht))
    simp only [laws_markByteS.l0]
    rw [if_pos (by omega), if_pos (by omega), c_succ i (by omega), Int.toNat_natCast, c_w64 (x := m + i + 1) (by omega) (by omega), show m + (i : Int) + 1 = m + ((i + 1 : Nat) : Int) from by omega]
theorem c_laws_markByteS_ev (l : List Int) (m : Int) (hm : 0 ≤ m) (hb : m + l.length < 4611686018427387904) : Ev (fun k => laws_markByteS.f k l m) (m + l.length, c_mkByte m l.length) := by
  have := c_laws_markByteS_l m l.length hm hb l.length l 0 rfl (by omega) (by simp)
  rw [show m + ((0 : Nat) : Int) = m from by omega] at this
  exact this


theorem c_laws_markByteS_w_l (m : Int) (n : Nat) (hm : 0 ≤ m) (hb : m + n < 4611686018427387904) : ∀ (d : Nat) (acc : List Int) (i : Nat), acc.length = n → i + d = n → acc.take i = (c_mkByte m n).take i → Ev (fun k => laws_markByteS_w.l0 k acc (m + i) (i : Int)) (m + n, c_mkByte m n)
  | 0, acc, i, hl, hi, ht => by
    have e : acc = c_mkByte m n := by
      rw [List.take_of_length_le (by omega), List.take_of_length_le (by rw [c_mkByte_len]; omega)] at ht
      exact ht
    have ei : i = n := by omega
    subst ei
    refine Ev.step (f := fun _ => some (m + i, c_mkByte m i)) (fun k => ?_) (Ev.now _)
    simp only [laws_markByteS_w.l0]
    rw [if_neg (by omega), e]
  | d + 1, acc, i, hl, hi, ht => by
    refine Ev.step (f := fun k => laws_markByteS_w.l0 k (acc.set i ((m + i) % 256)) (m + ((i + 1 : Nat) : Int)) ((i + 1 : Nat) : Int)) (fun k => ?_) (c_laws_markByteS_w_l m n hm hb d _ (i + 1) (by rw [List.length_set]; exact hl) (by omega) (c_take_set (c_mkByte m n) acc _ i (c_mkByte_at m n i (by omega)) (by rw [hl, c_mkByte_len]) ht))
    simp only [laws_markByteS_w.l0]
    rw [if_pos (by omega), if_pos (by omega), c_succ i (by omega), Int.toNat_natCast, c_w64 (x := m + i + 1) (by omega) (by omega), show m + (i : Int) + 1 = m + ((i + 1 : Nat) : Int) from by omega]
theorem c_laws_markByteS_w_ev (l : List Int) (m : Int) (hm : 0 ≤ m) (hb : m + l.length < 4611686018427387904) : Ev (fun k => laws_markByteS_w.f k l m) (m + l.length, c_mkByte m l.length) := by
  have := c_laws_markByteS_w_l m l.length hm hb l.length l 0 rfl (by omega) (by simp)
  rw [show m + ((0 : Nat) : Int) = m from by omega] at this
  exact this

/-- Both come to one answer, which has P. -/
def Both {α : Type} (P : α → Prop) (g h : Nat → Option α) : Prop := ∃ r, P r ∧ Ev g r ∧ Ev h r
theorem b_now {α : Type} {P : α → Prop} (a : α) (h : P a) : Both P (fun _ => some a) (fun _ => some a) := ⟨a, h, Ev.now a, Ev.now a⟩
theorem b_nextL {α : Type} {P : α → Prop} {g h : Nat → Option α} (k : Both P (fun n => g (n + 1)) h) : Both P g h := by
  obtain ⟨r, hp, h1, h2⟩ := k
  exact ⟨r, hp, c_next h1, h2⟩
theorem b_nextR {α : Type} {P : α → Prop} {g h : Nat → Option α} (k : Both P g (fun n => h (n + 1))) : Both P g h := by
  obtain ⟨r, hp, h1, h2⟩ := k
  exact ⟨r, hp, h1, c_next h2⟩
theorem b_next {α : Type} {P : α → Prop} {g h : Nat → Option α} (k : Both P (fun n => g (n + 1)) (fun n => h (n + 1))) : Both P g h := b_nextL (b_nextR k)
theorem b_posL {α : Type} {P : α → Prop} {c : Prop} [Decidable c] {g f h : Nat → Option α} (hc : c) (k : Both P g h) : Both P (fun n => if c then g n else f n) h := by
  obtain ⟨r, hp, h1, h2⟩ := k
  exact ⟨r, hp, c_if_pos hc h1, h2⟩
theorem b_negL {α : Type} {P : α → Prop} {c : Prop} [Decidable c] {g f h : Nat → Option α} (hc : ¬ c) (k : Both P f h) : Both P (fun n => if c then g n else f n) h := by
  obtain ⟨r, hp, h1, h2⟩ := k
  exact ⟨r, hp, c_if_neg hc h1, h2⟩
theorem b_posR {α : Type} {P : α → Prop} {c : Prop} [Decidable c] {g f h : Nat → Option α} (hc : c) (k : Both P h g) : Both P h (fun n => if c then g n else f n) := by
  obtain ⟨r, hp, h1, h2⟩ := k
  exact ⟨r, hp, h1, c_if_pos hc h2⟩
theorem b_negR {α : Type} {P : α → Prop} {c : Prop} [Decidable c] {g f h : Nat → Option α} (hc : ¬ c) (k : Both P h f) : Both P h (fun n => if c then g n else f n) := by
  obtain ⟨r, hp, h1, h2⟩ := k
  exact ⟨r, hp, h1, c_if_neg hc h2⟩
theorem b_if {α : Type} {P : α → Prop} {c : Prop} [Decidable c] {g f g' f' : Nat → Option α} (hp : c → Both P g g') (hn : ¬ c → Both P f f') : Both P (fun n => if c then g n else f n) (fun n => if c then g' n else f' n) := by
  by_cases hc : c
  · exact b_posL hc (b_posR hc (hp hc))
  · exact b_negL hc (b_negR hc (hn hc))
theorem b_iff {α : Type} {P : α → Prop} {c d : Prop} [Decidable c] [Decidable d] {g f g' f' : Nat → Option α} (e : c ↔ d) (hp : c → Both P g g') (hn : ¬ c → Both P f f') : Both P (fun n => if c then g n else f n) (fun n => if d then g' n else f' n) := by
  by_cases hc : c
  · exact b_posL hc (b_posR (e.1 hc) (hp hc))
  · exact b_negL hc (b_negR (fun h => hc (e.2 h)) (hn hc))
theorem b_bind {α β : Type} {Q : α → Prop} {P : β → Prop} {g h : Nat → Option α} {f f' : Nat → α → Option β} (k : Both Q g h) (l : ∀ a, Q a → Both P (fun n => f n a) (fun n => f' n a)) : Both P (fun n => (g n).bind (f n)) (fun n => (h n).bind (f' n)) := by
  obtain ⟨a, ha, h1, h2⟩ := k
  obtain ⟨r, hp, h3, h4⟩ := l a ha
  exact ⟨r, hp, c_bind a h1 h3, c_bind a h2 h4⟩
theorem b_bindL {α β : Type} {P : β → Prop} {g : Nat → Option α} {f : Nat → α → Option β} {h : Nat → Option β} (a : α) (e : Ev g a) (k : Both P (fun n => f n a) h) : Both P (fun n => (g n).bind (f n)) h := by
  obtain ⟨r, hp, h1, h2⟩ := k
  exact ⟨r, hp, c_bind a e h1, h2⟩
theorem b_bindR {α β : Type} {P : β → Prop} {g : Nat → Option α} {f : Nat → α → Option β} {h : Nat → Option β} (a : α) (e : Ev g a) (k : Both P h (fun n => f n a)) : Both P h (fun n => (g n).bind (f n)) := by
  obtain ⟨r, hp, h1, h2⟩ := k
  exact ⟨r, hp, h1, c_bind a e h2⟩
theorem b_bindL1 {α β : Type} {P : β → Prop} {g : Option α} {f : Nat → α → Option β} {h : Nat → Option β} (a : α) (e : g = some a) (k : Both P (fun n => f n a) h) : Both P (fun n => g.bind (f n)) h := by
  obtain ⟨r, hp, h1, h2⟩ := k
  exact ⟨r, hp, c_bind1 a e h1, h2⟩
theorem b_bindR1 {α β : Type} {P : β → Prop} {g : Option α} {f : Nat → α → Option β} {h : Nat → Option β} (a : α) (e : g = some a) (k : Both P h (fun n => f n a)) : Both P h (fun n => g.bind (f n)) := by
  obtain ⟨r, hp, h1, h2⟩ := k
  exact ⟨r, hp, h1, c_bind1 a e h2⟩
theorem b_mono {α : Type} {P Q : α → Prop} {g h : Nat → Option α} (k : Both P g h) (i : ∀ a, P a → Q a) : Both Q g h := by
  obtain ⟨r, hp, h1, h2⟩ := k
  exact ⟨r, i r hp, h1, h2⟩
theorem fv_same (a b : Int) (l : List Int) : impl_FrameValid.f a b l = spec_FrameValid.f a b l := rfl
theorem fv_some (a b : Int) (l : List Int) : ∃ r, spec_FrameValid.f a b l = some r := by
  unfold spec_FrameValid.f spec_l1In.f
  by_cases c0 : a ≥ 0 <;> by_cases c1 : b ≥ 1 <;> by_cases c2 : a ≤ 31 <;> by_cases c3 : b ≤ 3 <;> simp [c0, c1, c2, c3]
theorem fv_le (a b : Int) (l : List Int) (h : spec_FrameValid.f a b l = some true) : l.length ≤ 16 := by
  unfold spec_FrameValid.f at h
  obtain ⟨t, _, h⟩ := Option.bind_eq_some_iff.mp h
  split at h
  · obtain ⟨u, _, h⟩ := Option.bind_eq_some_iff.mp h
    split at h
    · have := of_decide_eq_true (Option.some.inj h)
      omega
    · exact absurd h (by simp)
  · exact absurd h (by simp)
theorem cr_same (l : List Int) : ∀ k, (∀ v i, impl_Crc8.l0 k v l (l.length : Int) i = spec_Crc8.l0 k l v i) ∧ (∀ v i j, impl_Crc8.l1 k v l (l.length : Int) i j = spec_Crc8.l1 k l v i j)
  | 0 => ⟨fun _ _ => rfl, fun _ _ _ => rfl⟩
  | k + 1 => by
    obtain ⟨h0, h1⟩ := cr_same l k
    refine ⟨fun v i => ?_, fun v i j => ?_⟩
    · by_cases c : i < (l.length : Int)
      · by_cases c0 : 0 ≤ i
        · simp only [impl_Crc8.l0, spec_Crc8.l0, if_pos c, if_pos c0, h1]
        · simp only [impl_Crc8.l0, spec_Crc8.l0, if_pos c, if_neg c0]
      · simp only [impl_Crc8.l0, spec_Crc8.l0, if_neg c]
    · simp only [impl_Crc8.l1, spec_Crc8.l1]
      rw [h1, h1, h0, Int.mul_comm v 2]
theorem cr_in (l : List Int) (i : Nat) (P : ∀ v, ∃ r, Ev (fun k => spec_Crc8.l0 k l v (wrap64 (i + 1))) r) : ∀ (d : Nat) (v : Int) (j : Nat), j + d = 8 → ∃ r, Ev (fun k => spec_Crc8.l1 k l v (i : Int) (j : Int)) r
  | 0, v, j, h => by
    obtain ⟨r, hr⟩ := P v
    exact ⟨r, Ev.step (fun k => by simp only [spec_Crc8.l1]; rw [if_neg (by omega)]) hr⟩
  | d + 1, v, j, h => by
    by_cases c : v ≥ 128
    · obtain ⟨r, hr⟩ := cr_in l i P d (Go.bits .xor .i64 (wrap64 ((wrap64 (2 * v)) - 256)) 7) (j + 1) (by omega)
      exact ⟨r, Ev.step (fun k => by simp only [spec_Crc8.l1]; rw [if_pos (by omega), if_pos c, c_succ j (by omega)]) hr⟩
    · obtain ⟨r, hr⟩ := cr_in l i P d (wrap64 (2 * v)) (j + 1) (by omega)
      exact ⟨r, Ev.step (fun k => by simp only [spec_Crc8.l1]; rw [if_pos (by omega), if_neg c, c_succ j (by omega)]) hr⟩
theorem cr_out (l : List Int) (hn : l.length < 4611686018427387904) : ∀ (d : Nat) (v : Int) (i : Nat), i + d = l.length → ∃ r, Ev (fun k => spec_Crc8.l0 k l v (i : Int)) r
  | 0, v, i, h => ⟨v, Ev.step (fun k => by simp only [spec_Crc8.l0]; rw [if_neg (by omega)]) (Ev.now v)⟩
  | d + 1, v, i, h => by
    obtain ⟨r, hr⟩ := cr_in l i (fun v => by rw [c_succ i (by omega)]; exact cr_out l hn d v (i + 1) (by omega)) 8 (Go.bits .xor .i64 v (wrap64 (rd l i))) 0 (by omega)
    exact ⟨r, Ev.step (fun k => by simp only [spec_Crc8.l0]; rw [if_pos (by omega), if_pos (by omega)]; rfl) hr⟩
theorem rf_xor (a b : Nat) (ha : a < 256) (hb : b < 256) : ∃ c : Nat, c < 256 ∧ Go.bits .xor .i64 (a : Int) (b : Int) = (c : Int) := by
  have hx : a ^^^ b < 256 := Nat.xor_lt_two_pow (n := 8) ha hb
  refine ⟨a ^^^ b, hx, ?_⟩
  have ha' : a % 2 ^ IntKind.i64.bits = a := Nat.mod_eq_of_lt (Nat.lt_of_lt_of_le ha (by decide))
  have hb' : b % 2 ^ IntKind.i64.bits = b := Nat.mod_eq_of_lt (Nat.lt_of_lt_of_le hb (by decide))
  simp only [Go.bits, BitVec.ofInt_natCast, BitVec.toNat_xor, BitVec.toNat_ofNat, ha', hb']
  rw [IntKind.wrap_i64]
  omega
theorem cr_inR (l : List Int) (i : Nat) (P : ∀ v : Nat, v < 256 → ∃ r : Nat, r < 256 ∧ Ev (fun k => spec_Crc8.l0 k l v (wrap64 (i + 1))) (r : Int)) : ∀ (d v j : Nat), v < 256 → j + d = 8 → ∃ r : Nat, r < 256 ∧ Ev (fun k => spec_Crc8.l1 k l v (i : Int) (j : Int)) (r : Int)
  | 0, v, j, hv, h => by
    obtain ⟨r, hr, he⟩ := P v hv
    exact ⟨r, hr, Ev.step (fun k => by simp only [spec_Crc8.l1]; rw [if_neg (by omega)]) he⟩
  | d + 1, v, j, hv, h => by
    have w2 : wrap64 (2 * (v : Int)) = ((2 * v : Nat) : Int) := by rw [c_w64 (by omega) (by omega)]; omega
    by_cases c : v ≥ 128
    · obtain ⟨u, hu, e⟩ := rf_xor (2 * v - 256) 7 (by omega) (by omega)
      have w3 : wrap64 (((2 * v : Nat) : Int) - 256) = ((2 * v - 256 : Nat) : Int) := by rw [c_w64 (by omega) (by omega)]; omega
      obtain ⟨r, hr, he⟩ := cr_inR l i P d u (j + 1) hu (by omega)
      refine ⟨r, hr, Ev.step (fun k => ?_) he⟩
      simp only [spec_Crc8.l1]
      rw [if_pos (by omega), if_pos (by omega), c_succ j (by omega), w2, w3, show (7 : Int) = ((7 : Nat) : Int) from rfl, e]
    · obtain ⟨r, hr, he⟩ := cr_inR l i P d (2 * v) (j + 1) (by omega) (by omega)
      refine ⟨r, hr, Ev.step (fun k => ?_) he⟩
      simp only [spec_Crc8.l1]
      rw [if_pos (by omega), if_neg (by omega), c_succ j (by omega), w2]
theorem cr_outR (l : List Int) (hn : l.length < 4611686018427387904) (hb : ∀ i, i < l.length → 0 ≤ rd l (i : Int) ∧ rd l (i : Int) ≤ 255) : ∀ (d v i : Nat), v < 256 → i + d = l.length → ∃ r : Nat, r < 256 ∧ Ev (fun k => spec_Crc8.l0 k l v (i : Int)) (r : Int)
  | 0, v, i, hv, h => ⟨v, hv, Ev.step (fun k => by simp only [spec_Crc8.l0]; rw [if_neg (by omega)]) (Ev.now _)⟩
  | d + 1, v, i, hv, h => by
    have hi := hb i (by omega)
    obtain ⟨m, hm⟩ : ∃ m : Nat, rd l (i : Int) = (m : Int) := ⟨(rd l (i : Int)).toNat, by omega⟩
    obtain ⟨u, hu, e⟩ := rf_xor v m hv (by omega)
    obtain ⟨r, hr, he⟩ := cr_inR l i (fun v hv => by rw [c_succ i (by omega)]; exact cr_outR l hn hb d v (i + 1) hv (by omega)) 8 u 0 hu (by omega)
    refine ⟨r, hr, Ev.step (fun k => ?_) he⟩
    simp only [spec_Crc8.l0]
    rw [if_pos (by omega), if_pos (by omega), hm, c_w64 (x := (m : Int)) (by omega) (by omega), e]
    rfl
theorem rf_ext (y l : List Int) (h : y.length = l.length) (e : ∀ j, j < l.length → rd y (j : Int) = rd l (j : Int)) : y = l := by
  apply List.ext_getElem h
  intro i h1 h2
  have := e i h2
  simpa [rd, List.getD_eq_getElem?_getD, List.getElem?_eq_getElem h1, List.getElem?_eq_getElem h2] using this
theorem rf_eql (y l : List Int) (h : y.length = l.length) (hl : l.length ≤ 1048576) : ∀ (d i : Nat), i + d = l.length → (∀ j, j < i → rd y (j : Int) = rd l (j : Int)) → Ev (fun k => slices_Equal_byte_byte.l0 k y l (l.length : Int) (i : Int)) (decide (y = l))
  | 0, i, hi, e => by
    refine c_next ?_
    simp only [slices_Equal_byte_byte.l0]
    rw [decide_eq_true (rf_ext y l h (fun j hj => e j (by omega)))]
    exact c_if_neg (by omega) (Ev.now _)
  | d + 1, i, hi, e => by
    refine c_next ?_
    simp only [slices_Equal_byte_byte.l0]
    rw [c_succ i (by omega)]
    refine c_if_pos (by omega) (c_if_pos (by omega) (c_if_pos (by omega) (c_if_pos (by omega) ?_)))
    by_cases c : rd y (i : Int) = rd l (i : Int)
    · exact c_if_pos c (rf_eql y l h hl d (i + 1) (by omega) (fun j hj => if g : j = i then g ▸ c else e j (by omega)))
    · rw [decide_eq_false (fun g => c (by rw [g]))]
      exact c_if_neg c (Ev.now _)
theorem rf_equal (y l : List Int) (h : y.length = l.length) (hl : l.length ≤ 1048576) : Ev (fun k => slices_Equal_byte_byte.f k y l) (decide (y = l)) := by
  unfold slices_Equal_byte_byte.f
  rw [h]
  exact c_if_pos rfl (rf_eql y l h hl l.length 0 (by omega) (fun j hj => absurd hj (Nat.not_lt_zero _)))
theorem rf_split : ∀ (l : List Int), 4 ≤ l.length → ∃ (a b c d : Int) (t : List Int), l = a :: b :: c :: (t ++ [d])
  | [], h => absurd h (by simp)
  | [_], h => absurd h (by simp)
  | [_, _], h => absurd h (by simp)
  | [_, _, _], h => absurd h (by simp)
  | a :: b :: c :: e :: t, _ => ⟨a, b, c, (e :: t).getLast (by simp), (e :: t).dropLast, by rw [List.dropLast_concat_getLast]⟩
theorem rf_both (l : List Int) (hl : l.length ≤ 1048576) (hb : ∀ y ∈ l, 0 ≤ y ∧ y ≤ 255) : Both (fun r : Int × Int × List Int × Bool => r.2.2.1.length ≤ 1048576) (fun k => spec_ReadFrame.f k l) (fun k => impl_ReadFrame.f k l) := by
  have hbad : ∀ (m : Int), Ev (fun k => spec_ReadFrame.j0 k l m true) (0, 0, [], false) := by
    intro m
    refine c_next ?_
    simp only [spec_ReadFrame.j0]
    exact c_if_pos trivial (Ev.now _)
  unfold spec_ReadFrame.f impl_ReadFrame.f
  by_cases h4 : l.length < 4
  · have hw : wrap64 ((l.length : Int) - 1) = (l.length : Int) - 1 := c_w64 (by omega) (by omega)
    rw [hw]
    exact b_posL (by omega) (b_posR (by omega) ⟨_, by simp, hbad _, Ev.now _⟩)
  obtain ⟨a, b, c, d, t, e⟩ := rf_split l (by omega)
  have hlen : l.length = t.length + 4 := by rw [e]; simp
  have hw : wrap64 ((l.length : Int) - 1) = ((t.length + 3 : Nat) : Int) := by rw [c_w64 (by omega) (by omega)]; omega
  have hw3 : wrap64 (((t.length + 3 : Nat) : Int) - 3) = (t.length : Int) := by rw [c_w64 (by omega) (by omega)]; omega
  have r0 : rd l 0 = a := by rw [e]; rfl
  have r1 : rd l 1 = b := by rw [e]; rfl
  have r2 : rd l 2 = c := by rw [e]; rfl
  have r3 : rd l ((t.length + 3 : Nat) : Int) = d := by
    rw [e]
    simp only [rd, Int.toNat_natCast, List.getD_eq_getElem?_getD, List.getElem?_cons_succ]
    simp
  have ht : l.take (t.length + 3) = a :: b :: c :: t := by rw [e]; simp
  have ba := hb a (by rw [e]; simp)
  have bb := hb b (by rw [e]; simp)
  have bc := hb c (by rw [e]; simp)
  have bd := hb d (by rw [e]; simp)
  have bt : ∀ y ∈ t, 0 ≤ y ∧ y ≤ 255 := fun y hy => hb y (by rw [e]; simp [hy])
  have wa : wrap64 a = a := c_w64 (by omega) (by omega)
  have wb : wrap64 b = b := c_w64 (by omega) (by omega)
  have wc : wrap64 c = c := c_w64 (by omega) (by omega)
  have wd : wrap64 d = d := c_w64 (by omega) (by omega)
  simp only [hw, hw3, r0, r1, r2, r3, wa, wb, wc, wd, Int.toNat_natCast, ht, List.drop_succ_cons, List.drop_zero]
  have hcl : impl_clone_byte.f t = some t := by unfold impl_clone_byte.f; rw [if_pos (by omega)]
  obtain ⟨v, hv⟩ := fv_some a b t
  have hvi : impl_FrameValid.f a b t = some v := (fv_same a b t).trans hv
  have hcr : ∀ x : Int, 0 ≤ x → x ≤ 255 → ∃ r : Nat, r < 256 ∧ Ev (fun k => spec_Crc8.f k (a :: b :: x :: t)) (r : Int) := by
    intro x hx0 hx1
    refine cr_outR (a :: b :: x :: t) (by simp only [List.length_cons]; omega) (fun i hi => ?_) _ 0 0 (by omega) (Nat.zero_add _)
    have hm : rd (a :: b :: x :: t) (i : Int) ∈ a :: b :: x :: t := by
      simp only [rd, Int.toNat_natCast, List.getD_eq_getElem?_getD, List.getElem?_eq_getElem hi, Option.getD_some]
      exact List.getElem_mem hi
    rcases List.mem_cons.1 hm with g | g
    · rw [g]; exact ba
    rcases List.mem_cons.1 g with g | g
    · rw [g]; exact bb
    rcases List.mem_cons.1 g with g | g
    · rw [g]; exact ⟨hx0, hx1⟩
    exact bt _ g
  have hgood : Ev (fun k => spec_ReadFrame.j0 k l ((t.length + 3 : Nat) : Int) false) (if v = true then (a, b, t, true) else (0, 0, [], false)) := by
    refine c_next ?_
    simp only [spec_ReadFrame.j0, r0, r1, wa, wb, Int.toNat_natCast, ht, List.drop_succ_cons, List.drop_zero, List.nil_append]
    refine c_if_neg (by simp) (c_if_pos (by omega) (c_if_pos (by omega) (c_bind1 _ rfl (c_if_pos (by omega) (c_if_pos (by omega) (c_if_pos (by simp only [List.length_nil]; omega) (c_bind1 _ rfl (c_bind1 v hv ?_))))))))
    cases v with
    | true => exact c_if_pos rfl (Ev.now _)
    | false => exact c_if_neg (by simp) (Ev.now _)
  refine b_negL (by omega) (b_posL (by omega) (b_negR (by omega) (b_posR (by omega) (b_posR (by omega) (b_posR (by omega) (b_posR (by omega) (b_bindR1 t hcl (b_bindR1 v hvi ?_))))))))
  cases v with
  | false =>
    refine b_negR (by simp) ?_
    by_cases cN : c = (t.length : Int)
    · obtain ⟨r, hr, hc⟩ := hcr c bc.1 bc.2
      refine b_posL cN (b_posL (by omega) (b_posL (by omega) (b_bindL _ hc (b_posL (by omega) ?_))))
      by_cases g : (r : Int) = d
      · rw [show ((r : Int) != d) = false from bne_eq_false_iff_eq.mpr g]
        exact ⟨_, by simp, hgood, Ev.now _⟩
      · rw [show ((r : Int) != d) = true from bne_iff_ne.mpr g]
        exact ⟨_, by simp, hbad _, Ev.now _⟩
    · exact b_negL cN ⟨_, by simp, hbad _, Ev.now _⟩
  | true =>
    have h16 := fv_le a b t hv
    refine b_posR rfl ?_
    have hhd : impl_FrameBytes.head a b t = [a, b, (t.length : Int)] := by
      unfold impl_FrameBytes.head
      rw [Int.emod_eq_of_lt (by omega) (by omega), Int.emod_eq_of_lt (by omega) (by omega), Int.emod_eq_of_lt (by omega) (by omega)]
    obtain ⟨r, hr, hc⟩ := hcr (t.length : Int) (by omega) (by omega)
    have hci : Ev (fun k => impl_Crc8.f k (a :: b :: (t.length : Int) :: t)) (r : Int) := Ev.congr (fun k => (cr_same _ k).1 0 0) hc
    have hfb : Ev (fun k => impl_FrameBytes.f k a b t) (a :: b :: (t.length : Int) :: (t ++ [(r : Int)])) := by
      unfold impl_FrameBytes.f
      rw [hhd]
      refine c_bind1 true hvi (c_if_pos rfl (c_bind (r : Int) hci (c_if_pos (by omega) ?_)))
      rw [show (r : Int) % 256 = r from Int.emod_eq_of_lt (by omega) (by omega)]
      exact Ev.now _
    refine b_bindR _ hfb ?_
    have heq := rf_equal (a :: b :: (t.length : Int) :: (t ++ [(r : Int)])) l (by rw [hlen]; simp) hl
    by_cases cN : c = (t.length : Int)
    · refine b_posL cN (b_posL (by omega) (b_posL (by omega) (b_bindL (r : Int) (by rw [cN]; exact hc) (b_posL (by omega) ?_))))
      by_cases g : (r : Int) = d
      · rw [decide_eq_true (show a :: b :: (t.length : Int) :: (t ++ [(r : Int)]) = l by rw [e, cN, g])] at heq
        rw [show ((r : Int) != d) = false from bne_eq_false_iff_eq.mpr g]
        exact b_bindR true heq (b_posR rfl ⟨_, by simp only [if_pos]; omega, hgood, Ev.now _⟩)
      · rw [decide_eq_false (show ¬ (a :: b :: (t.length : Int) :: (t ++ [(r : Int)]) = l) by rw [e]; simp [g])] at heq
        rw [show ((r : Int) != d) = true from bne_iff_ne.mpr g]
        exact b_bindR false heq (b_negR (by simp) ⟨_, by simp, hbad _, Ev.now _⟩)
    · rw [decide_eq_false (show ¬ (a :: b :: (t.length : Int) :: (t ++ [(r : Int)]) = l) by rw [e]; simp; intro g; exact absurd g.symm cN)] at heq
      exact b_negL cN (b_bindR false heq (b_negR (by simp) ⟨_, by simp, hbad _, Ev.now _⟩))
theorem FnExactReadFrame : ∀ (l0 : List Int), (l0.length ≤ maxLen ∧ ∀ y2 ∈ l0, (Lit.int .u8 y2).wf = true) → ∃ k, laws_FnExactReadFrame.f k l0 = some true := by
  intro l hl
  refine Ev.rounds (r := true) ?_
  unfold laws_FnExactReadFrame.f
  by_cases cl : (l.length : Int) > 1048576
  · exact c_if_pos cl (Ev.now true)
  refine c_if_neg cl ?_
  have hb : ∀ y ∈ l, 0 ≤ y ∧ y ≤ 255 := by
    intro y hy
    have := hl.2 y hy
    simp [Lit.wf, IntKind.max, IntKind.min, IntKind.bits, IntKind.signed] at this
    omega
  have ht := c_toByteS_ev l (by omega)
  obtain ⟨⟨a, b, t, v⟩, hy, hs, hi⟩ := rf_both l (by omega) hb
  simp only at hy
  have hef : Ev (fun k => laws_eqFrame.f k a b t a b t) true := by
    unfold laws_eqFrame.f
    exact c_if_pos rfl (c_if_pos rfl (c_bind true (c_eqByteS_ev t (by omega)) (c_if_pos rfl (Ev.now true))))
  have hm := c_laws_markByteS_ev l 1 (by omega) (by omega)
  have hmf : Ev (fun k => laws_markFrame_w.f k a b t 1) (1 + (t.length : Int), c_mkByte 1 t.length) := by
    unfold laws_markFrame_w.f
    exact c_bind _ (c_laws_markByteS_w_ev t 1 (by omega) (by omega)) (Ev.now _)
  have hhf : Ev (fun k => laws_heldFrame.f k a b (c_mkByte 1 t.length) 1) (1 + (t.length : Int)) := by
    unfold laws_heldFrame.f
    exact c_bind _ (c_heldByte_ev 1 t.length (by omega) (by omega)) (c_if_neg (by omega) (Ev.now _))
  refine c_bind _ ht (c_bind _ hs (c_bind _ ht (c_bind _ hi (c_bind _ hef (c_if_pos rfl (c_next ?_))))))
  simp only [laws_FnExactReadFrame.j0]
  refine c_if_neg (by simp) (c_bind _ ht (c_bind true (c_eqByteS_ev l (by omega)) (c_if_pos rfl (c_bind _ hm (c_if_neg (by simp only; omega) (c_bind _ hef (c_if_pos rfl (c_next ?_))))))))
  simp only [laws_FnExactReadFrame.j1]
  refine c_if_neg (by simp) (c_bind _ hmf (c_bind _ hhf (c_if_neg (by omega) (c_if_pos rfl (c_bind _ ht (c_bind _ hi (c_bind _ hef (c_if_pos rfl (c_next ?_)))))))))
  simp only [laws_FnExactReadFrame.j2]
  exact c_if_neg (by simp) (c_bind _ hhf (c_if_neg (by omega) (c_if_pos rfl (Ev.now true))))

end Go.Proofs.Ytdbbdikkboppnaa.Pure
