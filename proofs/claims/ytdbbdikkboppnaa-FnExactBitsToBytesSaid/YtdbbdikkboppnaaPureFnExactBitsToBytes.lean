/- For every list of bools the law of BitsToBytes answers true (no condition beyond the reach of the argument). -/
import Derived.Test.YtdbbdikkboppnaaQFnExactBitsToBytesx3
namespace Go.Proofs.Ytdbbdikkboppnaa.Pure
open Go.RowKit Go.Proofs.Ytdbbdikkboppnaa.QFnExactBitsToBytes Go.Proofs.YtdbbdikkboppnaaW.PrintWords Go.Proofs.YtdbbdikkboppnaaW.PrintLast Go.Proofs.YtdbbdikkboppnaaW.PrintMore
set_option linter.unusedVariables false
set_option linter.unusedSimpArgs false

theorem c_ev_det {α : Type} {g : Nat → Option α} {r r' : α} (h : Ev g r) (h' : Ev g r') : r = r' := by
  obtain ⟨K, h⟩ := h
  obtain ⟨K', h'⟩ := h'
  have h1 := h (max K K') (by omega)
  have h2 := h' (max K K') (by omega)
  rw [h1] at h2
  exact Option.some.inj h2
theorem c_w64 {x : Int} (h0 : -9223372036854775808 ≤ x) (h1 : x ≤ 9223372036854775807) : wrap64 x = x := by
  unfold wrap64
  omega
theorem c_succ (i : Nat) (h : i < 9223372036854775807) : wrap64 ((i : Int) + 1) = ((i + 1 : Nat) : Int) := by
  unfold wrap64
  omega
theorem c_take_set {α : Type} (x acc : List α) (v : α) (i : Nat) (hv : x[i]? = some v) (hl : acc.length = x.length) (ht : acc.take i = x.take i) : (acc.set i v).take (i + 1) = x.take (i + 1) := by
  have hi : i < x.length := (List.getElem?_eq_some_iff.1 hv).1
  apply List.ext_getElem?
  intro j
  have hj := congrArg (fun l => l[j]?) ht
  simp only [List.getElem?_take] at hj
  rw [List.getElem?_take, List.getElem?_take]
  by_cases h1 : j < i + 1
  · rw [if_pos h1, if_pos h1]
    by_cases h2 : j < i
    · rw [if_pos h2, if_pos h2] at hj
      rw [List.getElem?_set_ne (by omega)]
      exact hj
    · have : j = i := by omega
      subst this
      rw [List.getElem?_set_self (by omega), hv]
  · rw [if_neg h1, if_neg h1]
theorem c_getD {α : Type} (x : List α) (d : α) (i : Nat) (h : i < x.length) : x[i]? = some (x.getD i d) := by
  rw [List.getD_eq_getElem?_getD, List.getElem?_eq_getElem h]
  rfl
theorem c_if_pos {α : Type} {c : Prop} [Decidable c] {g f : Nat → Option α} {r : α} (h : c) (k : Ev g r) : Ev (fun n => if c then g n else f n) r := Ev.congr (fun _ => if_pos h) k
theorem c_if_neg {α : Type} {c : Prop} [Decidable c] {g f : Nat → Option α} {r : α} (h : ¬ c) (k : Ev f r) : Ev (fun n => if c then g n else f n) r := Ev.congr (fun _ => if_neg h) k
theorem c_bind {α β : Type} {g : Nat → Option α} {f : Nat → α → Option β} (a : α) {r : β} (h : Ev g a) (k : Ev (fun n => f n a) r) : Ev (fun n => (g n).bind (f n)) r := Ev.bind h k
theorem c_bind1 {α β : Type} {g : Option α} {f : Nat → α → Option β} (a : α) {r : β} (h : g = some a) (k : Ev (fun n => f n a) r) : Ev (fun n => g.bind (f n)) r := Ev.congr (fun n => by rw [h]; rfl) k

theorem c_next {α : Type} {g : Nat → Option α} {r : α} (h : Ev (fun k => g (k + 1)) r) : Ev g r := Ev.step (fun _ => rfl) h


theorem c_and8 (a b : Nat) (ha : a < 256) (hb : b < 256) : Go.bits .and .u8 a b = ((a &&& b : Nat) : Int) := (Go.bits_nat .u8 8 (by decide) Go.wraps_u8 a b ha hb).1
theorem c_or8 (a b : Nat) (ha : a < 256) (hb : b < 256) : Go.bits .or .u8 a b = ((a ||| b : Nat) : Int) := (Go.bits_nat .u8 8 (by decide) Go.wraps_u8 a b ha hb).2
theorem c_wraps_i64 (n : Int) (h0 : 0 ≤ n) (h1 : n < 2 ^ 62) : IntKind.i64.wrap n = n := by
  rw [IntKind.wrap_i64]
  omega
theorem c_and64 (a b : Nat) (ha : a < 4611686018427387904) (hb : b < 4611686018427387904) : Go.bits .and .i64 a b = ((a &&& b : Nat) : Int) := (Go.bits_nat .i64 62 (by decide) c_wraps_i64 a b ha hb).1
theorem c_or64 (a b : Nat) (ha : a < 4611686018427387904) (hb : b < 4611686018427387904) : Go.bits .or .i64 a b = ((a ||| b : Nat) : Int) := (Go.bits_nat .i64 62 (by decide) c_wraps_i64 a b ha hb).2
theorem c_tdiv (a b : Nat) : Int.tdiv (a : Int) (b : Int) = ((a / b : Nat) : Int) := by
  rw [Int.tdiv_eq_ediv_of_nonneg (by omega)]
  rfl
theorem c_tmod (a b : Nat) : Int.tmod (a : Int) (b : Int) = ((a % b : Nat) : Int) := by
  rw [Int.tmod_eq_emod_of_nonneg (by omega)]
  rfl
theorem c_tdiv8 (a : Nat) : Int.tdiv (a : Int) 8 = ((a / 8 : Nat) : Int) := c_tdiv a 8
theorem c_tmod8 (a : Nat) : Int.tmod (a : Int) 8 = ((a % 8 : Nat) : Int) := c_tmod a 8
theorem c_tmod2 (a : Nat) : Int.tmod (a : Int) 2 = ((a % 2 : Nat) : Int) := c_tmod a 2


theorem c_toBoolS_l (x : List Bool) (hn : x.length < 4611686018427387904) : ∀ (d : Nat) (acc : List Bool) (i : Nat), acc.length = x.length → i + d = x.length → acc.take i = x.take i → Ev (fun k => laws_toBoolS.l0 k x acc (i : Int)) x
  | 0, acc, i, hl, hi, ht => by
    have e : acc = x := by
      rw [List.take_of_length_le (by omega), List.take_of_length_le (by omega)] at ht
      exact ht
    subst e
    exact Ev.step (f := fun _ => some acc) (fun k => by simp only [laws_toBoolS.l0]; rw [if_neg (by omega)]) (Ev.now _)
  | d + 1, acc, i, hl, hi, ht => by
    refine Ev.step (f := fun k => laws_toBoolS.l0 k x (acc.set i (x.getD i false)) ((i + 1 : Nat) : Int)) (fun k => ?_) (c_toBoolS_l x hn d _ (i + 1) (by rw [List.length_set]; exact hl) (by omega) (c_take_set x acc _ i (c_getD x false i (by omega)) hl ht))
    simp only [laws_toBoolS.l0]
    rw [if_pos (by omega), if_pos (by omega), if_pos (by omega), c_succ i (by omega)]
    simp only [rdOf, Int.toNat_natCast]
theorem c_toBoolS_ev (x : List Bool) (hn : x.length ≤ 1048576) : Ev (fun k => laws_toBoolS.f k x) x := by
  unfold laws_toBoolS.f
  refine c_if_pos (by omega) (c_if_pos (by omega) ?_)
  refine c_toBoolS_l x (by omega) x.length _ 0 (by simp) (by omega) (by simp)


theorem c_eqBoolS_l (x : List Bool) (hn : x.length < 4611686018427387904) : ∀ (d : Nat) (i : Nat), i + d = x.length → Ev (fun k => laws_eqBoolS.l0 k x x (i : Int)) true
  | 0, i, hi => Ev.step (f := fun _ => some true) (fun k => by simp only [laws_eqBoolS.l0]; rw [if_neg (by omega)]) (Ev.now _)
  | d + 1, i, hi => by
    refine Ev.step (f := fun k => laws_eqBoolS.l0 k x x ((i + 1 : Nat) : Int)) (fun k => ?_) (c_eqBoolS_l x hn d (i + 1) (by omega))
    simp only [laws_eqBoolS.l0]
    rw [if_pos (by omega), if_pos (by omega), if_pos (by omega), if_neg (by simp), c_succ i (by omega)]
theorem c_eqBoolS_ev (x : List Bool) (hn : x.length < 4611686018427387904) : Ev (fun k => laws_eqBoolS.f k x x) true := by
  unfold laws_eqBoolS.f
  exact c_if_pos rfl (c_eqBoolS_l x hn x.length 0 (by omega))


theorem c_eqByteS_l (x : List Int) (hn : x.length < 4611686018427387904) : ∀ (d : Nat) (i : Nat), i + d = x.length → Ev (fun k => laws_eqByteS.l0 k x x (i : Int)) true
  | 0, i, hi => Ev.step (f := fun _ => some true) (fun k => by simp only [laws_eqByteS.l0]; rw [if_neg (by omega)]) (Ev.now _)
  | d + 1, i, hi => by
    refine Ev.step (f := fun k => laws_eqByteS.l0 k x x ((i + 1 : Nat) : Int)) (fun k => ?_) (c_eqByteS_l x hn d (i + 1) (by omega))
    simp only [laws_eqByteS.l0]
    rw [if_pos (by omega), if_pos (by omega), if_pos (by omega), if_pos trivial, c_succ i (by omega)]
theorem c_eqByteS_ev (x : List Int) (hn : x.length < 4611686018427387904) : Ev (fun k => laws_eqByteS.f k x x) true := by
  unfold laws_eqByteS.f
  exact c_if_pos rfl (c_eqByteS_l x hn x.length 0 (by omega))


def c_mkByte (m : Int) (n : Nat) : List Int := (List.range n).map fun (j : Nat) => ((m + (j : Int)) % 256)
theorem c_mkByte_len (m : Int) (n : Nat) : (c_mkByte m n).length = n := by simp [c_mkByte]
theorem c_mkByte_at (m : Int) (n i : Nat) (h : i < n) : (c_mkByte m n)[i]? = some ((m + (i : Int)) % 256) := by simp [c_mkByte, h]
theorem c_heldByte_l (m : Int) (n : Nat) (hm : 0 ≤ m) (hb : m + n < 4611686018427387904) : ∀ (d i : Nat), i + d = n → Ev (fun k => laws_heldByteS.l0 k (c_mkByte m n) (m + i) (i : Int)) (m + n)
  | 0, i, hi => by
    have ei : i = n := by omega
    subst ei
    refine Ev.step (f := fun _ => some (m + i)) (fun k => ?_) (Ev.now _)
    simp only [laws_heldByteS.l0, c_mkByte_len]
    rw [if_neg (by omega)]
  | d + 1, i, hi => by
    refine Ev.step (f := fun k => laws_heldByteS.l0 k (c_mkByte m n) (m + ((i + 1 : Nat) : Int)) ((i + 1 : Nat) : Int)) (fun k => ?_) (c_heldByte_l m n hm hb d (i + 1) (by omega))
    have hrd : rd (c_mkByte m n) (i : Int) = ((m + (i : Int)) % 256) := by
      simp only [rd, Int.toNat_natCast]
      rw [List.getD_eq_getElem?_getD, c_mkByte_at m n i (by omega)]
      rfl
    simp only [laws_heldByteS.l0, c_mkByte_len]
    rw [if_pos (by omega), if_pos (by omega), if_pos hrd, c_succ i (by omega), c_w64 (x := m + i + 1) (by omega) (by omega), show m + (i : Int) + 1 = m + ((i + 1 : Nat) : Int) from by omega]
theorem c_heldByte_ev (m : Int) (n : Nat) (hm : 0 ≤ m) (hb : m + n < 4611686018427387904) : Ev (fun k => laws_heldByteS.f k (c_mkByte m n) m) (m + n) := by
  have := c_heldByte_l m n hm hb n 0 (by omega)
  rw [show m + ((0 : Nat) : Int) = m from by omega] at this
  exact this


theorem c_laws_markByteS_l (m : Int) (n : Nat) (hm : 0 ≤ m) (hb : m + n < 4611686018427387904) : ∀ (d : Nat) (acc : List Int) (i : Nat), acc.length = n → i + d = n → acc.take i = (c_mkByte m n).take i → Ev (fun k => laws_markByteS.l0 k acc (m + i) (i : Int)) (m + n, c_mkByte m n)
  | 0, acc, i, hl, hi, ht => by
    have e : acc = c_mkByte m n := by
      rw [List.take_of_length_le (by omega), List.take_of_length_le (by rw [c_mkByte_len]; omega)] at ht
      exact ht
    have ei : i = n := by omega
    subst ei
    refine Ev.step (f := fun _ => some (m + i, c_mkByte m i)) (fun k => ?_) (Ev.now _)
    simp only [laws_markByteS.l0]
    rw [if_neg (by omega), e]
  | d + 1, acc, i, hl, hi, ht => by
    refine Ev.step (f := fun k => laws_markByteS.l0 k (acc.set i ((m + i) % 256)) (m + ((i + 1 : Nat) : Int)) ((i + 1 : Nat) : Int)) (fun k => ?_) (c_laws_markByteS_l m n hm hb d _ (i + 1) (by rw [List.length_set]; exact hl) (by omega) (c_take_set (c_mkByte m n) acc _ i (c_mkByte_at m n i (by omega)) (by rw [hl, c_mkByte_len]) ht))
    simp only [laws_markByteS.l0]
    rw [if_pos (by omega), if_pos (by omega), c_succ i (by omega), Int.toNat_natCast, c_w64 (x := m + i + 1) (by omega) (by omega), show m + (i : Int) + 1 = m + ((i + 1 : Nat) : Int) from by omega]
theorem c_laws_markByteS_ev (l : List Int) (m : Int) (hm : 0 ≤ m) (hb : m + l.length < 4611686018427387904) : Ev (fun k => laws_markByteS.f k l m) (m + l.length, c_mkByte m l.length) := by
  have := c_laws_markByteS_l m l.length hm hb l.length l 0 rfl (by omega) (by simp)
  rw [show m + ((0 : Nat) : Int) = m from by omega] at this
  exact this


def c_mkBool (m : Int) (n : Nat) : List Bool := (List.range n).map fun (j : Nat) => (Int.tmod (m + (j : Int)) 3 == 0)
theorem c_mkBool_len (m : Int) (n : Nat) : (c_mkBool m n).length = n := by simp [c_mkBool]
theorem c_mkBool_at (m : Int) (n i : Nat) (h : i < n) : (c_mkBool m n)[i]? = some (Int.tmod (m + (i : Int)) 3 == 0) := by simp [c_mkBool, h]


theorem c_laws_markBoolS_l (m : Int) (n : Nat) (hm : 0 ≤ m) (hb : m + n < 4611686018427387904) : ∀ (d : Nat) (acc : List Bool) (i : Nat), acc.length = n → i + d = n → acc.take i = (c_mkBool m n).take i → Ev (fun k => laws_markBoolS.l0 k acc (m + i) (i : Int)) (m + n, c_mkBool m n)
  | 0, acc, i, hl, hi, ht => by
    have e : acc = c_mkBool m n := by
      rw [List.take_of_length_le (by omega), List.take_of_length_le (by rw [c_mkBool_len]; omega)] at ht
      exact ht
    have ei : i = n := by omega
    subst ei
    refine Ev.step (f := fun _ => some (m + i, c_mkBool m i)) (fun k => ?_) (Ev.now _)
    simp only [laws_markBoolS.l0]
    rw [if_neg (by omega), e]
  | d + 1, acc, i, hl, hi, ht => by
    refine Ev.step (f := fun k => laws_markBoolS.l0 k (acc.set i (Int.tmod (m + i) 3 == 0)) (m + ((i + 1 : Nat) : Int)) ((i + 1 : Nat) : Int)) (fun k => ?_) (c_laws_markBoolS_l m n hm hb d _ (i + 1) (by rw [List.length_set]; exact hl) (by omega) (c_take_set (c_mkBool m n) acc _ i (c_mkBool_at m n i (by omega)) (by rw [hl, c_mkBool_len]) ht))
    simp only [laws_markBoolS.l0]
    rw [if_pos (by omega), if_pos (by omega), c_succ i (by omega), Int.toNat_natCast, c_w64 (x := m + i + 1) (by omega) (by omega), show m + (i : Int) + 1 = m + ((i + 1 : Nat) : Int) from by omega]
theorem c_laws_markBoolS_ev (l : List Bool) (m : Int) (hm : 0 ≤ m) (hb : m + l.length < 4611686018427387904) : Ev (fun k => laws_markBoolS.f k l m) (m + l.length, c_mkBool m l.length) := by
  have := c_laws_markBoolS_l m l.length hm hb l.length l 0 rfl (by omega) (by simp)
  rw [show m + ((0 : Nat) : Int) = m from by omega] at this
  exact this

theorem bt_shl (m : Nat) (h : m < 8) : shl .u8 1 (m : Int) = ((2 ^ m : Nat) : Int) := by
  have e : m = 0 ∨ m = 1 ∨ m = 2 ∨ m = 3 ∨ m = 4 ∨ m = 5 ∨ m = 6 ∨ m = 7 := by omega
  rcases e with rfl | rfl | rfl | rfl | rfl | rfl | rfl | rfl <;> decide
theorem bt_pow (m : Nat) (h : m < 8) : 2 ^ m ≤ 128 := by
  have e : m = 0 ∨ m = 1 ∨ m = 2 ∨ m = 3 ∨ m = 4 ∨ m = 5 ∨ m = 6 ∨ m = 7 := by omega
  rcases e with rfl | rfl | rfl | rfl | rfl | rfl | rfl | rfl <;> decide
theorem bt_or (v m : Nat) (h : m < 8) (hv : v < 2 ^ m) : Go.bits .or .u8 (v : Int) ((2 ^ m : Nat) : Int) = ((v : Int) + ((2 ^ m : Nat) : Int)) % 256 := by
  have hp := bt_pow m h
  rw [c_or8 v (2 ^ m) (by omega) (by omega)]
  have : v ||| 2 ^ m = 2 ^ m + v := by
    have := Nat.two_pow_add_eq_or_of_lt hv 1
    rw [Nat.mul_one] at this
    rw [Nat.or_comm, this]
  rw [this]
  omega
theorem bt_rd_left (o z : List Int) (i : Nat) (h : i < o.length) : rd (o ++ z) (i : Int) = rd o (i : Int) := by
  simp only [rd, Int.toNat_natCast, List.getD_eq_getElem?_getD]
  rw [List.getElem?_append_left h]
theorem bt_both (x : List Bool) (h2 : x.length ≤ 128) : ∀ (d i : Nat) (o : List Int), i + d = x.length → o.length = (i + 7) / 8 → (i % 8 ≠ 0 → ∃ v : Nat, rd o ((i / 8 : Nat) : Int) = v ∧ v < 2 ^ (i % 8)) →
    ∃ y : List Int, y.length ≤ 1000 ∧ Ev (fun k => spec_BitsToBytes.l0 k x o (i : Int)) y ∧ Ev (fun k => impl_BitsToBytes.l0 k (o ++ List.replicate ((x.length + 7) / 8 - o.length) 0) x (x.length : Int) (i : Int)) y
  | 0, i, o, h, ho, hv => by
    refine ⟨o, by omega, ?_, ?_⟩
    · refine c_next ?_
      simp only [spec_BitsToBytes.l0]
      exact c_if_neg (by omega) (Ev.now _)
    · refine c_next ?_
      simp only [impl_BitsToBytes.l0]
      rw [show (x.length + 7) / 8 - o.length = 0 from by omega, List.replicate_zero, List.append_nil]
      exact c_if_neg (by omega) (Ev.now _)
  | d + 1, i, o, h, ho, hv => by
    have ew : wrap64 (((i / 8 : Nat) : Int)) = ((i / 8 : Nat) : Int) := c_w64 (by omega) (by omega)
    -- the row with its last byte, as it stands before bit i
    obtain ⟨o2, v, hl2, hr2, hv2, hz, hsp⟩ : ∃ (o2 : List Int) (v : Nat), o2.length = i / 8 + 1 ∧ rd o2 ((i / 8 : Nat) : Int) = v ∧ v < 2 ^ (i % 8) ∧ o ++ List.replicate ((x.length + 7) / 8 - o.length) 0 = o2 ++ List.replicate ((x.length + 7) / 8 - o2.length) 0 ∧
        (∀ y, (if rdOf false x (i : Int) = true then Ev (fun k => spec_BitsToBytes.l0 k x (o2.set (i / 8) (((v : Int) + ((2 ^ (i % 8) : Nat) : Int)) % 256)) ((i + 1 : Nat) : Int)) y else Ev (fun k => spec_BitsToBytes.l0 k x o2 ((i + 1 : Nat) : Int)) y) → Ev (fun k => spec_BitsToBytes.l0 k x o (i : Int)) y) := by
      by_cases m : i % 8 = 0
      · refine ⟨o ++ [0], 0, by simp; omega, ?_, Nat.two_pow_pos _, ?_, fun y hy => ?_⟩
        · rw [show i / 8 = o.length from by omega]
          simp [rd]
        · rw [show (x.length + 7) / 8 - o.length = ((x.length + 7) / 8 - (o ++ [0]).length) + 1 from by simp; omega, List.replicate_succ, List.append_assoc]
          rfl
        · refine c_next ?_
          simp only [spec_BitsToBytes.l0, c_tdiv8, c_tmod8, ew, bt_shl (i % 8) (by omega), Int.toNat_natCast]
          rw [c_succ i (by omega)]
          refine c_if_pos (by omega) (c_if_pos (by omega) (c_if_pos (by omega) (c_bind1 (o ++ [0]) rfl (c_if_pos (by omega) ?_))))
          by_cases b : rdOf false x (i : Int) = true
          · rw [if_pos b] at hy
            have e : rd (o ++ [0]) ((i / 8 : Nat) : Int) = ((0 : Nat) : Int) := by
              rw [show i / 8 = o.length from by omega]
              simp [rd]
            rw [e]
            exact c_if_pos b (c_if_pos (by omega) (c_if_pos (by simp only [List.length_append, List.length_singleton]; omega) (c_if_pos (by omega) hy)))
          · rw [if_neg b] at hy
            exact c_if_neg b hy
      · obtain ⟨v, hr, hlt⟩ := hv m
        refine ⟨o, v, by omega, hr, hlt, rfl, fun y hy => ?_⟩
        refine c_next ?_
        simp only [spec_BitsToBytes.l0, c_tdiv8, c_tmod8, ew, bt_shl (i % 8) (by omega), Int.toNat_natCast]
        rw [c_succ i (by omega), hr]
        refine c_if_pos (by omega) (c_if_neg (by omega) (c_if_pos (by omega) ?_))
        by_cases b : rdOf false x (i : Int) = true
        · rw [if_pos b] at hy
          exact c_if_pos b (c_if_pos (by omega) (c_if_pos (by omega) (c_if_pos (by omega) hy)))
        · rw [if_neg b] at hy
          exact c_if_neg b hy
    rw [hz]
    have hp := bt_pow (i % 8) (by omega)
    have hstep : ∀ (o3 : List Int) (v3 : Nat), o3.length = i / 8 + 1 → rd o3 ((i / 8 : Nat) : Int) = v3 → v3 < 2 ^ (i % 8 + 1) → o3.length = (i + 1 + 7) / 8 ∧ ((i + 1) % 8 ≠ 0 → ∃ v : Nat, rd o3 (((i + 1) / 8 : Nat) : Int) = v ∧ v < 2 ^ ((i + 1) % 8)) := by
      intro o3 v3 h3 hr3 hlt3
      refine ⟨by omega, fun hm => ⟨v3, ?_, ?_⟩⟩
      · rw [show (i + 1) / 8 = i / 8 from by omega]
        exact hr3
      · rw [show (i + 1) % 8 = i % 8 + 1 from by omega]
        exact hlt3
    by_cases b : rdOf false x (i : Int) = true
    · have e8 : ((v : Int) + ((2 ^ (i % 8) : Nat) : Int)) % 256 = ((v + 2 ^ (i % 8) : Nat) : Int) := by omega
      have hr3 : rd (o2.set (i / 8) (((v : Int) + ((2 ^ (i % 8) : Nat) : Int)) % 256)) ((i / 8 : Nat) : Int) = ((v + 2 ^ (i % 8) : Nat) : Int) := by
        simp only [rd, Int.toNat_natCast, List.getD_eq_getElem?_getD]
        rw [List.getElem?_set_self (by omega), e8]
        rfl
      obtain ⟨g1, g2⟩ := hstep (o2.set (i / 8) (((v : Int) + ((2 ^ (i % 8) : Nat) : Int)) % 256)) (v + 2 ^ (i % 8)) (by rw [List.length_set]; exact hl2) hr3 (by rw [Nat.pow_succ]; omega)
      obtain ⟨y, hy, hs, hi⟩ := bt_both x h2 d (i + 1) _ (by omega) g1 g2
      refine ⟨y, hy, hsp y (by rw [if_pos b]; exact hs), ?_⟩
      refine c_next ?_
      simp only [impl_BitsToBytes.l0, c_tdiv8, c_tmod8, ew, bt_shl (i % 8) (by omega), Int.toNat_natCast]
      rw [c_succ i (by omega), bt_rd_left _ _ _ (by omega), hr2, bt_or v (i % 8) (by omega) hv2, List.set_append_left _ _ (by omega)]
      rw [List.length_set] at hi
      exact c_if_pos (by omega) (c_if_pos (by omega) (c_if_pos (by omega) (c_if_pos b (c_if_pos (by omega) (c_if_pos (by simp only [List.length_append]; omega) (c_if_pos (by omega) hi))))))
    · obtain ⟨g1, g2⟩ := hstep o2 v hl2 hr2 (by rw [Nat.pow_succ]; omega)
      obtain ⟨y, hy, hs, hi⟩ := bt_both x h2 d (i + 1) o2 (by omega) g1 g2
      refine ⟨y, hy, hsp y (by rw [if_neg b]; exact hs), ?_⟩
      refine c_next ?_
      simp only [impl_BitsToBytes.l0]
      rw [c_succ i (by omega)]
      exact c_if_pos (by omega) (c_if_pos (by omega) (c_if_pos (by omega) (c_if_neg b hi)))
theorem bt_all (x : List Bool) (hl : x.length ≤ 1048576) : ∃ y : List Int, y.length ≤ 1000 ∧ Ev (fun k => spec_BitsToBytes.f k x) y ∧ Ev (fun k => impl_BitsToBytes.f k x) y := by
  unfold spec_BitsToBytes.f impl_BitsToBytes.f
  by_cases c : (x.length : Int) > 128
  · exact ⟨[], by simp, c_bind1 [] rfl (c_if_pos c (Ev.now [])), c_if_pos c (Ev.now [])⟩
  · obtain ⟨y, hy, hs, hi⟩ := bt_both x (by omega) x.length 0 [] (by omega) (by simp) (by simp)
    refine ⟨y, hy, c_bind1 [] rfl (c_if_neg c hs), c_if_neg c ?_⟩
    have ew : wrap64 (Int.tdiv (wrap64 ((x.length : Int) + 7)) 8) = (((x.length + 7) / 8 : Nat) : Int) := by
      rw [c_w64 (x := (x.length : Int) + 7) (by omega) (by omega), show (x.length : Int) + 7 = ((x.length + 7 : Nat) : Int) from by omega, c_tdiv8]
      exact c_w64 (by omega) (by omega)
    rw [ew, Int.toNat_natCast]
    exact c_if_pos (by omega) (c_if_pos (by omega) hi)
theorem FnExactBitsToBytes : ∀ (l0 : List Bool), (l0.length ≤ maxLen ∧ ∀ y2 ∈ l0, True) → ∃ k, laws_FnExactBitsToBytes.f k l0 = some true := by
  intro x hx
  refine Ev.rounds (r := true) ?_
  unfold laws_FnExactBitsToBytes.f
  by_cases cx : (x.length : Int) > 1048576
  · exact c_if_pos cx (Ev.now true)
  obtain ⟨y, hy, hs, hi⟩ := bt_all x (by omega)
  refine c_if_neg (by omega) ?_
  refine c_bind _ (c_toBoolS_ev x (by omega)) ?_
  refine c_bind _ (hs) ?_
  refine c_bind _ (c_toBoolS_ev x (by omega)) ?_
  refine c_bind _ (hi) ?_
  refine c_bind _ (c_eqByteS_ev y (by omega)) ?_
  refine c_if_pos rfl ?_
  refine c_bind _ (c_toBoolS_ev x (by omega)) ?_
  refine c_bind _ (c_eqBoolS_ev x (by omega)) ?_
  refine c_if_pos rfl ?_
  refine c_bind _ (c_laws_markBoolS_ev x (1) (by omega) (by omega)) ?_
  refine c_if_neg (by simp only; omega) ?_
  refine c_bind _ (c_eqByteS_ev y (by omega)) ?_
  refine c_next ?_
  simp only [laws_FnExactBitsToBytes.j0]
  refine c_if_neg (by simp) ?_
  refine c_bind _ (c_laws_markByteS_ev y (1) (by omega) (by omega)) ?_
  refine c_bind _ (c_heldByte_ev (1) (y.length) (by omega) (by omega)) ?_
  refine c_if_neg (by omega) ?_
  refine c_if_pos rfl ?_
  refine c_bind _ (c_toBoolS_ev x (by omega)) ?_
  refine c_bind _ (hi) ?_
  refine c_bind _ (c_eqByteS_ev y (by omega)) ?_
  refine c_if_pos rfl ?_
  refine c_bind _ (c_heldByte_ev (1) (y.length) (by omega) (by omega)) ?_
  refine c_if_neg (by omega) ?_
  refine c_if_pos rfl ?_
  exact Ev.now true

end Go.Proofs.Ytdbbdikkboppnaa.Pure
