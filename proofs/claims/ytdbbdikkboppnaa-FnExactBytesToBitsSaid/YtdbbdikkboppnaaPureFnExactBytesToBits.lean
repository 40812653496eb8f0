/- For every list of bytes and every number the law of BytesToBits answers true (no condition beyond the kinds and the reach of the arguments). -/
import Derived.Test.YtdbbdikkboppnaaQFnExactBytesToBitsx2
namespace Go.Proofs.Ytdbbdikkboppnaa.Pure
open Go.RowKit Go.Proofs.Ytdbbdikkboppnaa.QFnExactBytesToBits Go.Proofs.YtdbbdikkboppnaaW.PrintWords Go.Proofs.YtdbbdikkboppnaaW.PrintLast Go.Proofs.YtdbbdikkboppnaaW.PrintMore
set_option linter.unusedVariables false
set_option linter.unusedSimpArgs false

theorem c_ev_det {α : Type} {g : Nat → Option α} {r r' : α} (h : Ev g r) (h' : Ev g r') : r = r' := by
  obtain ⟨K, h⟩ := h
  obtain ⟨K', h'⟩ := h'
  have h1 := h (max K K') (by omega)
  have h2 := h' (max K K') (by omega)
  rw [h1] at h2
  exact Option.some.inj h2
theorem c_w64 {x : Int} (h0 : -9223372036854775808 ≤ x) (h1 : x ≤ 9223372036854775807) : wrap64 x = x := by
  unfold wrap64
  omega
theorem c_succ (i : Nat) (h : i < 9223372036854775807) : wrap64 ((i : Int) + 1) = ((i + 1 : Nat) : Int) := by
  unfold wrap64
  omega
theorem c_take_set {α : Type} (x acc : List α) (v : α) (i : Nat) (hv : x[i]? = some v) (hl : acc.length = x.length) (ht : acc.take i = x.take i) : (acc.set i v).take (i + 1) = x.take (i + 1) := by
  have hi : i < x.length := (List.getElem?_eq_some_iff.1 hv).1
  apply List.ext_getElem?
  intro j
  have hj := congrArg (fun l => l[j]?) ht
  simp only [List.getElem?_take] at hj
  rw [List.getElem?_take, List.getElem?_take]
  by_cases h1 : j < i + 1
  · rw [if_pos h1, if_pos h1]
    by_cases h2 : j < i
    · rw [if_pos h2, if_pos h2] at hj
      rw [List.getElem?_set_ne (by omega)]
      exact hj
    · have : j = i := by omega
      subst this
      rw [List.getElem?_set_self (by omega), hv]
  · rw [if_neg h1, if_neg h1]
theorem c_getD {α : Type} (x : List α) (d : α) (i : Nat) (h : i < x.length) : x[i]? = some (x.getD i d) := by
  rw [List.getD_eq_getElem?_getD, List.getElem?_eq_getElem h]
  rfl
theorem c_if_pos {α : Type} {c : Prop} [Decidable c] {g f : Nat → Option α} {r : α} (h : c) (k : Ev g r) : Ev (fun n => if c then g n else f n) r := Ev.congr (fun _ => if_pos h) k
theorem c_if_neg {α : Type} {c : Prop} [Decidable c] {g f : Nat → Option α} {r : α} (h : ¬ c) (k : Ev f r) : Ev (fun n => if c then g n else f n) r := Ev.congr (fun _ => if_neg h) k
theorem c_bind {α β : Type} {g : Nat → Option α} {f : Nat → α → Option β} (a : α) {r : β} (h : Ev g a) (k : Ev (fun n => f n a) r) : Ev (fun n => (g n).bind (f n)) r := Ev.bind h k
theorem c_bind1 {α β : Type} {g : Option α} {f : Nat → α → Option β} (a : α) {r : β} (h : g = some a) (k : Ev (fun n => f n a) r) : Ev (fun n => g.bind (f n)) r := Ev.congr (fun n => by rw [h]; rfl) k

theorem c_next {α : Type} {g : Nat → Option α} {r : α} (h : Ev (fun k => g (k + 1)) r) : Ev g r := Ev.step (fun _ => rfl) h


theorem c_and8 (a b : Nat) (ha : a < 256) (hb : b < 256) : Go.bits .and .u8 a b = ((a &&& b : Nat) : Int) := (Go.bits_nat .u8 8 (by decide) Go.wraps_u8 a b ha hb).1
theorem c_or8 (a b : Nat) (ha : a < 256) (hb : b < 256) : Go.bits .or .u8 a b = ((a ||| b : Nat) : Int) := (Go.bits_nat .u8 8 (by decide) Go.wraps_u8 a b ha hb).2
theorem c_wraps_i64 (n : Int) (h0 : 0 ≤ n) (h1 : n < 2 ^ 62) : IntKind.i64.wrap n = n := by
  rw [IntKind.wrap_i64]
  omega
theorem c_and64 (a b : Nat) (ha : a < 4611686018427387904) (hb : b < 4611686018427387904) : Go.bits .and .i64 a b = ((a &&& b : Nat) : Int) := (Go.bits_nat .i64 62 (by decide) c_wraps_i64 a b ha hb).1
theorem c_or64 (a b : Nat) (ha : a < 4611686018427387904) (hb : b < 4611686018427387904) : Go.bits .or .i64 a b = ((a ||| b : Nat) : Int) := (Go.bits_nat .i64 62 (by decide) c_wraps_i64 a b ha hb).2
theorem c_tdiv (a b : Nat) : Int.tdiv (a : Int) (b : Int) = ((a / b : Nat) : Int) := by
  rw [Int.tdiv_eq_ediv_of_nonneg (by omega)]
  rfl
theorem c_tmod (a b : Nat) : Int.tmod (a : Int) (b : Int) = ((a % b : Nat) : Int) := by
  rw [Int.tmod_eq_emod_of_nonneg (by omega)]
  rfl
theorem c_tdiv8 (a : Nat) : Int.tdiv (a : Int) 8 = ((a / 8 : Nat) : Int) := c_tdiv a 8
theorem c_tmod8 (a : Nat) : Int.tmod (a : Int) 8 = ((a % 8 : Nat) : Int) := c_tmod a 8
theorem c_tmod2 (a : Nat) : Int.tmod (a : Int) 2 = ((a % 2 : Nat) : Int) := c_tmod a 2


theorem c_toByteS_l (x : List Int) (hn : x.length < 4611686018427387904) : ∀ (d : Nat) (acc : List Int) (i : Nat), acc.length = x.length → i + d = x.length → acc.take i = x.take i → Ev (fun k => laws_toByteS.l0 k x acc (i : Int)) x
  | 0, acc, i, hl, hi, ht => by
    have e : acc = x := by
      rw [List.take_of_length_le (by omega), List.take_of_length_le (by omega)] at ht
      exact ht
    subst e
    exact Ev.step (f := fun _ => some acc) (fun k => by simp only [laws_toByteS.l0]; rw [if_neg (by omega)]) (Ev.now _)
  | d + 1, acc, i, hl, hi, ht => by
    refine Ev.step (f := fun k => laws_toByteS.l0 k x (acc.set i (x.getD i 0)) ((i + 1 : Nat) : Int)) (fun k => ?_) (c_toByteS_l x hn d _ (i + 1) (by rw [List.length_set]; exact hl) (by omega) (c_take_set x acc _ i (c_getD x 0 i (by omega)) hl ht))
    simp only [laws_toByteS.l0]
    rw [if_pos (by omega), if_pos (by omega), if_pos (by omega), c_succ i (by omega)]
    simp only [rd, Int.toNat_natCast]
theorem c_toByteS_ev (x : List Int) (hn : x.length ≤ 1048576) : Ev (fun k => laws_toByteS.f k x) x := by
  unfold laws_toByteS.f
  refine c_if_pos (by omega) (c_if_pos (by omega) ?_)
  refine c_toByteS_l x (by omega) x.length _ 0 (by simp) (by omega) (by simp)


theorem c_eqByteS_l (x : List Int) (hn : x.length < 4611686018427387904) : ∀ (d : Nat) (i : Nat), i + d = x.length → Ev (fun k => laws_eqByteS.l0 k x x (i : Int)) true
  | 0, i, hi => Ev.step (f := fun _ => some true) (fun k => by simp only [laws_eqByteS.l0]; rw [if_neg (by omega)]) (Ev.now _)
  | d + 1, i, hi => by
    refine Ev.step (f := fun k => laws_eqByteS.l0 k x x ((i + 1 : Nat) : Int)) (fun k => ?_) (c_eqByteS_l x hn d (i + 1) (by omega))
    simp only [laws_eqByteS.l0]
    rw [if_pos (by omega), if_pos (by omega), if_pos (by omega), if_pos trivial, c_succ i (by omega)]
theorem c_eqByteS_ev (x : List Int) (hn : x.length < 4611686018427387904) : Ev (fun k => laws_eqByteS.f k x x) true := by
  unfold laws_eqByteS.f
  exact c_if_pos rfl (c_eqByteS_l x hn x.length 0 (by omega))


theorem c_eqBoolS_l (x : List Bool) (hn : x.length < 4611686018427387904) : ∀ (d : Nat) (i : Nat), i + d = x.length → Ev (fun k => laws_eqBoolS.l0 k x x (i : Int)) true
  | 0, i, hi => Ev.step (f := fun _ => some true) (fun k => by simp only [laws_eqBoolS.l0]; rw [if_neg (by omega)]) (Ev.now _)
  | d + 1, i, hi => by
    refine Ev.step (f := fun k => laws_eqBoolS.l0 k x x ((i + 1 : Nat) : Int)) (fun k => ?_) (c_eqBoolS_l x hn d (i + 1) (by omega))
    simp only [laws_eqBoolS.l0]
    rw [if_pos (by omega), if_pos (by omega), if_pos (by omega), if_neg (by simp), c_succ i (by omega)]
theorem c_eqBoolS_ev (x : List Bool) (hn : x.length < 4611686018427387904) : Ev (fun k => laws_eqBoolS.f k x x) true := by
  unfold laws_eqBoolS.f
  exact c_if_pos rfl (c_eqBoolS_l x hn x.length 0 (by omega))


def c_mkBool (m : Int) (n : Nat) : List Bool := (List.range n).map fun (j : Nat) => (Int.tmod (m + (j : Int)) 3 == 0)
theorem c_mkBool_len (m : Int) (n : Nat) : (c_mkBool m n).length = n := by simp [c_mkBool]
theorem c_mkBool_at (m : Int) (n i : Nat) (h : i < n) : (c_mkBool m n)[i]? = some (Int.tmod (m + (i : Int)) 3 == 0) := by simp [c_mkBool, h]
theorem c_heldBool_l (m : Int) (n : Nat) (hm : 0 ≤ m) (hb : m + n < 4611686018427387904) : ∀ (d i : Nat), i + d = n → Ev (fun k => laws_heldBoolS.l0 k (c_mkBool m n) (m + i) (i : Int)) (m + n)
  | 0, i, hi => by
    have ei : i = n := by omega
    subst ei
    refine Ev.step (f := fun _ => some (m + i)) (fun k => ?_) (Ev.now _)
    simp only [laws_heldBoolS.l0, c_mkBool_len]
    rw [if_neg (by omega)]
  | d + 1, i, hi => by
    refine Ev.step (f := fun k => laws_heldBoolS.l0 k (c_mkBool m n) (m + ((i + 1 : Nat) : Int)) ((i + 1 : Nat) : Int)) (fun k => ?_) (c_heldBool_l m n hm hb d (i + 1) (by omega))
    have hrd : rdOf false (c_mkBool m n) (i : Int) = (Int.tmod (m + (i : Int)) 3 == 0) := by
      simp only [rdOf, Int.toNat_natCast]
      rw [List.getD_eq_getElem?_getD, c_mkBool_at m n i (by omega)]
      rfl
    simp only [laws_heldBoolS.l0, c_mkBool_len]
    rw [if_pos (by omega), if_pos (by omega), if_neg (by rw [hrd]; simp), c_succ i (by omega), c_w64 (x := m + i + 1) (by omega) (by omega), show m + (i : Int) + 1 = m + ((i + 1 : Nat) : Int) from by omega]
theorem c_heldBool_ev (m : Int) (n : Nat) (hm : 0 ≤ m) (hb : m + n < 4611686018427387904) : Ev (fun k => laws_heldBoolS.f k (c_mkBool m n) m) (m + n) := by
  have := c_heldBool_l m n hm hb n 0 (by omega)
  rw [show m + ((0 : Nat) : Int) = m from by omega] at this
  exact this


theorem c_laws_markBoolS_l (m : Int) (n : Nat) (hm : 0 ≤ m) (hb : m + n < 4611686018427387904) : ∀ (d : Nat) (acc : List Bool) (i : Nat), acc.length = n → i + d = n → acc.take i = (c_mkBool m n).take i → Ev (fun k => laws_markBoolS.l0 k acc (m + i) (i : Int)) (m + n, c_mkBool m n)
  | 0, acc, i, hl, hi, ht => by
    have e : acc = c_mkBool m n := by
      rw [List.take_of_length_le (by omega), List.take_of_length_le (by rw [c_mkBool_len]; omega)] at ht
      exact ht
    have ei : i = n := by omega
    subst ei
    refine Ev.step (f := fun _ => some (m + i, c_mkBool m i)) (fun k => ?_) (Ev.now _)
    simp only [laws_markBoolS.l0]
    rw [if_neg (by omega), e]
  | d + 1, acc, i, hl, hi, ht => by
    refine Ev.step (f := fun k => laws_markBoolS.l0 k (acc.set i (Int.tmod (m + i) 3 == 0)) (m + ((i + 1 : Nat) : Int)) ((i + 1 : Nat) : Int)) (fun k => ?_) (c_laws_markBoolS_l m n hm hb d _ (i + 1) (by rw [List.length_set]; exact hl) (by omega) (c_take_set (c_mkBool m n) acc _ i (c_mkBool_at m n i (by omega)) (by rw [hl, c_mkBool_len]) ht))
    simp only [laws_markBoolS.l0]
    rw [if_pos (by omega), if_pos (by omega), c_succ i (by omega), Int.toNat_natCast, c_w64 (x := m + i + 1) (by omega) (by omega), show m + (i : Int) + 1 = m + ((i + 1 : Nat) : Int) from by omega]
theorem c_laws_markBoolS_ev (l : List Bool) (m : Int) (hm : 0 ≤ m) (hb : m + l.length < 4611686018427387904) : Ev (fun k => laws_markBoolS.f k l m) (m + l.length, c_mkBool m l.length) := by
  have := c_laws_markBoolS_l m l.length hm hb l.length l 0 rfl (by omega) (by simp)
  rw [show m + ((0 : Nat) : Int) = m from by omega] at this
  exact this


def c_mkByte (m : Int) (n : Nat) : List Int := (List.range n).map fun (j : Nat) => ((m + (j : Int)) % 256)
theorem c_mkByte_len (m : Int) (n : Nat) : (c_mkByte m n).length = n := by simp [c_mkByte]
theorem c_mkByte_at (m : Int) (n i : Nat) (h : i < n) : (c_mkByte m n)[i]? = some ((m + (i : Int)) % 256) := by simp [c_mkByte, h]


theorem c_laws_markByteS_l (m : Int) (n : Nat) (hm : 0 ≤ m) (hb : m + n < 4611686018427387904) : ∀ (d : Nat) (acc : List Int) (i : Nat), acc.length = n → i + d = n → acc.take i = (c_mkByte m n).take i → Ev (fun k => laws_markByteS.l0 k acc (m + i) (i : Int)) (m + n, c_mkByte m n)
  | 0, acc, i, hl, hi, ht => by
    have e : acc = c_mkByte m n := by
      rw [List.take_of_length_le (by omega), List.take_of_length_le (by rw [c_mkByte_len]; omega)] at ht
      exact ht
    have ei : i = n := by omega
    subst ei
    refine Ev.step (f := fun _ => some (m + i, c_mkByte m i)) (fun k => ?_) (Ev.now _)
    simp only [laws_markByteS.l0]
    rw [if_neg (by omega), e]
  | d + 1, acc, i, hl, hi, ht => by
    refine Ev.step (f := fun k => laws_markByteS.l0 k (acc.set i ((m + i) % 256)) (m + ((i + 1 : Nat) : Int)) ((i + 1 : Nat) : Int)) (fun k => ?_) (c_laws_markByteS_l m n hm hb d _ (i + 1) (by rw [List.length_set]; exact hl) (by omega) (c_take_set (c_mkByte m n) acc _ i (c_mkByte_at m n i (by omega)) (by rw [hl, c_mkByte_len]) ht))
    simp only [laws_markByteS.l0]
    rw [if_pos (by omega), if_pos (by omega), c_succ i (by omega), Int.toNat_natCast, c_w64 (x := m + i + 1) (by omega) (by omega), show m + (i : Int) + 1 = m + ((i + 1 : Nat) : Int) from by omega]
theorem c_laws_markByteS_ev (l : List Int) (m : Int) (hm : 0 ≤ m) (hb : m + l.length < 4611686018427387904) : Ev (fun k => laws_markByteS.f k l m) (m + l.length, c_mkByte m l.length) := by
  have := c_laws_markByteS_l m l.length hm hb l.length l 0 rfl (by omega) (by simp)
  rw [show m + ((0 : Nat) : Int) = m from by omega] at this
  exact this

theorem bb_l1 (a b c : Int) : spec_l1In.f a b c = some (decide (b ≤ a ∧ a ≤ c)) := by
  unfold spec_l1In.f
  by_cases h : a ≥ b
  · rw [if_pos h]
    simp [h]
  · rw [if_neg h]
    simp [h]
theorem bb_in (a b c : Int) : impl_in.f a b c = some (decide (b ≤ a ∧ a ≤ c)) := bb_l1 a b c
def bb_sh (x : List Int) (i : Nat) : Int := shr .u8 (rd x ((i / 8 : Nat) : Int)) ((i % 8 : Nat) : Int)
def bb_bit (x : List Int) (i : Nat) : Bool := (Int.tmod (bb_sh x i) 2) == 1
def bb_all (x : List Int) (n : Nat) : List Bool := (List.range n).map (bb_bit x)
theorem bb_len (x : List Int) (n : Nat) : (bb_all x n).length = n := by simp [bb_all]
theorem bb_at (x : List Int) (n i : Nat) (h : i < n) : (bb_all x n)[i]? = some (bb_bit x i) := by simp [bb_all, h]
theorem bb_snoc (x : List Int) (n i : Nat) (h : i < n) : (bb_all x n).take (i + 1) = (bb_all x n).take i ++ [bb_bit x i] := by
  rw [List.take_add_one, bb_at x n i h]
  rfl
theorem bb_byte (x : List Int) (hx : ∀ y ∈ x, (Lit.int .u8 y).wf = true) (i : Nat) (h : i < x.length) : 0 ≤ rd x (i : Int) ∧ rd x (i : Int) ≤ 255 := by
  have := hx (x[i]) (List.getElem_mem h)
  simp [Lit.wf, IntKind.max, IntKind.min, IntKind.bits, IntKind.signed] at this
  simp only [rd, Int.toNat_natCast, List.getD_eq_getElem?_getD, List.getElem?_eq_getElem h, Option.getD_some]
  omega
theorem bb_sh_range (x : List Int) (hx : ∀ y ∈ x, (Lit.int .u8 y).wf = true) (i : Nat) (h : i / 8 < x.length) : ∃ m : Nat, bb_sh x i = m ∧ m < 256 := by
  obtain ⟨h0, h1⟩ := bb_byte x hx (i / 8) h
  obtain ⟨v, hv⟩ := Int.eq_ofNat_of_zero_le h0
  refine ⟨v / 2 ^ min (i % 8) 8, ?_, ?_⟩
  · unfold bb_sh shr
    rw [hv, Int.toNat_natCast]
    rw [Int.natCast_ediv, Int.natCast_pow]
    rfl
  · have := Nat.div_le_self v (2 ^ min (i % 8) 8)
    omega
theorem bb_and (x : List Int) (hx : ∀ y ∈ x, (Lit.int .u8 y).wf = true) (i : Nat) (h : i / 8 < x.length) : ((Go.bits .and .u8 (bb_sh x i) 1) == 1) = bb_bit x i := by
  obtain ⟨m, hm, hlt⟩ := bb_sh_range x hx i h
  unfold bb_bit
  rw [hm, show (1 : Int) = ((1 : Nat) : Int) from rfl, c_and8 m 1 hlt (by decide), c_tmod2, Nat.and_one_is_mod]
theorem bb_spec (x : List Int) (hl : x.length ≤ 1048576) (n : Nat) (hn : n ≤ 8 * x.length) : ∀ (d i : Nat), i + d = n → Ev (fun k => spec_BytesToBits.l0 k x (n : Int) ((bb_all x n).take i) (i : Int)) (bb_all x n)
  | 0, i, h => by
    refine c_next ?_
    simp only [spec_BytesToBits.l0]
    rw [List.take_of_length_le (by rw [bb_len]; omega)]
    exact c_if_neg (by omega) (Ev.now _)
  | d + 1, i, h => by
    refine c_next ?_
    simp only [spec_BytesToBits.l0, c_tdiv8, c_tmod8]
    rw [c_w64 (x := ((i / 8 : Nat) : Int)) (by omega) (by omega), c_succ i (by omega)]
    refine c_if_pos (by omega) (c_if_pos (by omega) (c_if_pos (by omega) (c_if_pos (by omega) (c_if_pos ?_ ?_))))
    · have := List.length_take_le i (bb_all x n)
      omega
    · have := bb_spec x hl n hn d (i + 1) (by omega)
      rw [bb_snoc x n i (by omega)] at this
      exact this
theorem bb_impl (x : List Int) (hx : ∀ y ∈ x, (Lit.int .u8 y).wf = true) (hl : x.length ≤ 1048576) (n : Nat) (hn : n ≤ 8 * x.length) : ∀ (d i : Nat) (out : List Bool), i + d = n → out.length = n → out.take i = (bb_all x n).take i → Ev (fun k => impl_BytesToBits.l0 k x out (n : Int) (i : Int)) (bb_all x n)
  | 0, i, out, h, ho, ht => by
    refine c_next ?_
    simp only [impl_BytesToBits.l0]
    rw [List.take_of_length_le (by omega), List.take_of_length_le (by rw [bb_len]; omega)] at ht
    rw [ht]
    exact c_if_neg (by omega) (Ev.now _)
  | d + 1, i, out, h, ho, ht => by
    refine c_next ?_
    simp only [impl_BytesToBits.l0, c_tdiv8, c_tmod8]
    rw [c_w64 (x := ((i / 8 : Nat) : Int)) (by omega) (by omega), c_succ i (by omega), Int.toNat_natCast]
    have e := bb_and x hx i (by omega)
    unfold bb_sh at e
    rw [e]
    refine c_if_pos (by omega) (c_if_pos (by omega) (c_if_pos (by omega) (c_if_pos (by omega) (c_if_pos (by omega) (c_if_pos (by omega) ?_)))))
    exact bb_impl x hx hl n hn d (i + 1) _ (by omega) (by rw [List.length_set]; exact ho) (c_take_set (bb_all x n) out _ i (bb_at x n i (by omega)) (by rw [ho, bb_len]) ht)
theorem bb_both (x : List Int) (hx : ∀ y ∈ x, (Lit.int .u8 y).wf = true) (hl : x.length ≤ 1048576) (a : Int) : ∃ y : List Bool, y.length ≤ 8388608 ∧ Ev (fun k => spec_BytesToBits.f k x a) y ∧ Ev (fun k => impl_BytesToBits.f k x a) y := by
  have ew : wrap64 (8 * (x.length : Int)) = 8 * (x.length : Int) := c_w64 (by omega) (by omega)
  unfold spec_BytesToBits.f impl_BytesToBits.f
  simp only [ew]
  by_cases c : 0 ≤ a ∧ a ≤ 8 * (x.length : Int)
  · obtain ⟨n, rfl⟩ := Int.eq_ofNat_of_zero_le c.1
    refine ⟨bb_all x n, by rw [bb_len]; omega, ?_, ?_⟩
    · exact c_bind1 [] rfl (c_bind1 true (by rw [bb_l1]; simp; omega) (c_if_pos rfl (bb_spec x hl n (by omega) n 0 (by omega))))
    · refine c_bind1 true (by rw [bb_in]; simp; omega) (c_if_pos rfl (c_if_pos (by omega) (c_if_pos (by omega) (c_bind1 (List.replicate n false) rfl ?_))))
      rw [List.length_replicate]
      exact bb_impl x hx hl n (by omega) n 0 _ (by omega) (by simp) (by simp)
  · refine ⟨[], by simp, ?_, ?_⟩
    · exact c_bind1 [] rfl (c_bind1 false (by rw [bb_l1, decide_eq_false c]) (c_if_neg (by simp) (Ev.now [])))
    · exact c_bind1 false (by rw [bb_in, decide_eq_false c]) (c_if_neg (by simp) (Ev.now []))
theorem FnExactBytesToBits : ∀ (l0 : List Int) (a1 : Int), (l0.length ≤ maxLen ∧ ∀ y2 ∈ l0, (Lit.int .u8 y2).wf = true) → (Lit.int .i64 a1).wf = true → ∃ k, laws_FnExactBytesToBits.f k l0 a1 = some true := by
  intro x a hx ha
  refine Ev.rounds (r := true) ?_
  unfold laws_FnExactBytesToBits.f
  by_cases cx : (x.length : Int) > 1048576
  · exact c_if_pos cx (Ev.now true)
  obtain ⟨y, hy, hs, hi⟩ := bb_both x hx.2 (by omega) a
  refine c_if_neg (by omega) ?_
  refine c_bind _ (c_toByteS_ev x (by omega)) ?_
  refine c_bind _ (hs) ?_
  refine c_bind _ (c_toByteS_ev x (by omega)) ?_
  refine c_bind _ (hi) ?_
  refine c_bind _ (c_eqBoolS_ev y (by omega)) ?_
  refine c_if_pos rfl ?_
  refine c_bind _ (c_toByteS_ev x (by omega)) ?_
  refine c_bind _ (c_eqByteS_ev x (by omega)) ?_
  refine c_if_pos rfl ?_
  refine c_bind _ (c_laws_markByteS_ev x (1) (by omega) (by omega)) ?_
  refine c_if_neg (by simp only; omega) ?_
  refine c_bind _ (c_eqBoolS_ev y (by omega)) ?_
  refine c_next ?_
  simp only [laws_FnExactBytesToBits.j0]
  refine c_if_neg (by simp) ?_
  refine c_bind _ (c_laws_markBoolS_ev y (1) (by omega) (by omega)) ?_
  refine c_bind _ (c_heldBool_ev (1) (y.length) (by omega) (by omega)) ?_
  refine c_if_neg (by omega) ?_
  refine c_if_pos rfl ?_
  refine c_bind _ (c_toByteS_ev x (by omega)) ?_
  refine c_bind _ (hi) ?_
  refine c_bind _ (c_eqBoolS_ev y (by omega)) ?_
  refine c_if_pos rfl ?_
  refine c_bind _ (c_heldBool_ev (1) (y.length) (by omega) (by omega)) ?_
  refine c_if_neg (by omega) ?_
  refine c_if_pos rfl ?_
  exact Ev.now true

end Go.Proofs.Ytdbbdikkboppnaa.Pure
