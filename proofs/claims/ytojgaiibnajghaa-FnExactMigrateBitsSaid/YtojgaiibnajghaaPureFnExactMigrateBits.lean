/- For every image and every list of numbers the law of MigrateBits answers true (no condition beyond the kinds and the reach of the arguments). -/
import Derived.Test.YtojgaiibnajghaaQFnExactMigrateBitsx3
namespace Go.Proofs.Ytojgaiibnajghaa.Pure
open Go.RowKit Go.Proofs.Ytojgaiibnajghaa.QFnExactMigrateBits Go.Proofs.YtojgaiibnajghaaW.PrintWords Go.Proofs.YtojgaiibnajghaaW.PrintLast Go.Proofs.YtojgaiibnajghaaW.PrintMore
set_option linter.unusedVariables false
set_option linter.unusedSimpArgs false

theorem c_ev_det {α : Type} {g : Nat → Option α} {r r' : α} (h : Ev g r) (h' : Ev g r') : r = r' := by
  obtain ⟨K, h⟩ := h
  obtain ⟨K', h'⟩ := h'
  have h1 := h (max K K') (by omega)
  have h2 := h' (max K K') (by omega)
  rw [h1] at h2
  exact Option.some.inj h2
theorem c_w64 {x : Int} (h0 : -9223372036854775808 ≤ x) (h1 : x ≤ 9223372036854775807) : wrap64 x = x := by
  unfold wrap64
  omega
theorem c_succ (i : Nat) (h : i < 9223372036854775807) : wrap64 ((i : Int) + 1) = ((i + 1 : Nat) : Int) := by
  unfold wrap64
  omega
theorem c_take_set {α : Type} (x acc : List α) (v : α) (i : Nat) (hv : x[i]? = some v) (hl : acc.length = x.length) (ht : acc.take i = x.take i) : (acc.set i v).take (i + 1) = x.take (i + 1) := by
  have hi : i < x.length := (List.getElem?_eq_some_iff.1 hv).1
  apply List.ext_getElem?
  intro j
  have hj := congrArg (fun l => l[j]?) ht
  simp only [List.getElem?_take] at hj
  rw [List.getElem?_take, List.getElem?_take]
  by_cases h1 : j < i + 1
  · rw [if_pos h1, if_pos h1]
    by_cases h2 : j < i
    · rw [if_pos h2, if_pos h2] at hj
      rw [List.getElem?_set_ne (by omega)]
      exact hj
    · have : j = i := by omega
      subst this
      rw [List.getElem?_set_self (by omega), hv]
  · rw [if_neg h1, if_neg h1]
theorem c_getD {α : Type} (x : List α) (d : α) (i : Nat) (h : i < x.length) : x[i]? = some (x.getD i d) := by
  rw [List.getD_eq_getElem?_getD, List.getElem?_eq_getElem h]
  rfl
theorem c_if_pos {α : Type} {c : Prop} [Decidable c] {g f : Nat → Option α} {r : α} (h : c) (k : Ev g r) : Ev (fun n => if c then g n else f n) r := Ev.congr (fun _ => if_pos h) k
theorem c_if_neg {α : Type} {c : Prop} [Decidable c] {g f : Nat → Option α} {r : α} (h : ¬ c) (k : Ev f r) : Ev (fun n => if c then g n else f n) r := Ev.congr (fun _ => if_neg h) k
theorem c_bind {α β : Type} {g : Nat → Option α} {f : Nat → α → Option β} (a : α) {r : β} (h : Ev g a) (k : Ev (fun n => f n a) r) : Ev (fun n => (g n).bind (f n)) r := Ev.bind h k
theorem c_bind1 {α β : Type} {g : Option α} {f : Nat → α → Option β} (a : α) {r : β} (h : g = some a) (k : Ev (fun n => f n a) r) : Ev (fun n => g.bind (f n)) r := Ev.congr (fun n => by rw [h]; rfl) k

theorem c_next {α : Type} {g : Nat → Option α} {r : α} (h : Ev (fun k => g (k + 1)) r) : Ev g r := Ev.step (fun _ => rfl) h


theorem c_toIntS_l (x : List Int) (hn : x.length < 4611686018427387904) : ∀ (d : Nat) (acc : List Int) (i : Nat), acc.length = x.length → i + d = x.length → acc.take i = x.take i → Ev (fun k => laws_toIntS.l0 k x acc (i : Int)) x
  | 0, acc, i, hl, hi, ht => by
    have e : acc = x := by
      rw [List.take_of_length_le (by omega), List.take_of_length_le (by omega)] at ht
      exact ht
    subst e
    exact Ev.step (f := fun _ => some acc) (fun k => by simp only [laws_toIntS.l0]; rw [if_neg (by omega)]) (Ev.now _)
  | d + 1, acc, i, hl, hi, ht => by
    refine Ev.step (f := fun k => laws_toIntS.l0 k x (acc.set i (x.getD i 0)) ((i + 1 : Nat) : Int)) (fun k => ?_) (c_toIntS_l x hn d _ (i + 1) (by rw [List.length_set]; exact hl) (by omega) (c_take_set x acc _ i (c_getD x 0 i (by omega)) hl ht))
    simp only [laws_toIntS.l0]
    rw [if_pos (by omega), if_pos (by omega), if_pos (by omega), c_succ i (by omega)]
    simp only [rd, Int.toNat_natCast]
theorem c_toIntS_ev (x : List Int) (hn : x.length ≤ 1048576) : Ev (fun k => laws_toIntS.f k x) x := by
  unfold laws_toIntS.f
  refine c_if_pos (by omega) (c_if_pos (by omega) ?_)
  refine c_toIntS_l x (by omega) x.length _ 0 (by simp) (by omega) (by simp)


theorem c_toBoolS_l (x : List Bool) (hn : x.length < 4611686018427387904) : ∀ (d : Nat) (acc : List Bool) (i : Nat), acc.length = x.length → i + d = x.length → acc.take i = x.take i → Ev (fun k => laws_toBoolS.l0 k x acc (i : Int)) x
  | 0, acc, i, hl, hi, ht => by
    have e : acc = x := by
      rw [List.take_of_length_le (by omega), List.take_of_length_le (by omega)] at ht
      exact ht
    subst e
    exact Ev.step (f := fun _ => some acc) (fun k => by simp only [laws_toBoolS.l0]; rw [if_neg (by omega)]) (Ev.now _)
  | d + 1, acc, i, hl, hi, ht => by
    refine Ev.step (f := fun k => laws_toBoolS.l0 k x (acc.set i (x.getD i false)) ((i + 1 : Nat) : Int)) (fun k => ?_) (c_toBoolS_l x hn d _ (i + 1) (by rw [List.length_set]; exact hl) (by omega) (c_take_set x acc _ i (c_getD x false i (by omega)) hl ht))
    simp only [laws_toBoolS.l0]
    rw [if_pos (by omega), if_pos (by omega), if_pos (by omega), c_succ i (by omega)]
    simp only [rdOf, Int.toNat_natCast]
theorem c_toBoolS_ev (x : List Bool) (hn : x.length ≤ 1048576) : Ev (fun k => laws_toBoolS.f k x) x := by
  unfold laws_toBoolS.f
  refine c_if_pos (by omega) (c_if_pos (by omega) ?_)
  refine c_toBoolS_l x (by omega) x.length _ 0 (by simp) (by omega) (by simp)


theorem c_eqIntS_l (x : List Int) (hn : x.length < 4611686018427387904) : ∀ (d : Nat) (i : Nat), i + d = x.length → Ev (fun k => laws_eqIntS.l0 k x x (i : Int)) true
  | 0, i, hi => Ev.step (f := fun _ => some true) (fun k => by simp only [laws_eqIntS.l0]; rw [if_neg (by omega)]) (Ev.now _)
  | d + 1, i, hi => by
    refine Ev.step (f := fun k => laws_eqIntS.l0 k x x ((i + 1 : Nat) : Int)) (fun k => ?_) (c_eqIntS_l x hn d (i + 1) (by omega))
    simp only [laws_eqIntS.l0]
    rw [if_pos (by omega), if_pos (by omega), if_pos (by omega), if_pos trivial, c_succ i (by omega)]
theorem c_eqIntS_ev (x : List Int) (hn : x.length < 4611686018427387904) : Ev (fun k => laws_eqIntS.f k x x) true := by
  unfold laws_eqIntS.f
  exact c_if_pos rfl (c_eqIntS_l x hn x.length 0 (by omega))


theorem c_eqBoolS_l (x : List Bool) (hn : x.length < 4611686018427387904) : ∀ (d : Nat) (i : Nat), i + d = x.length → Ev (fun k => laws_eqBoolS.l0 k x x (i : Int)) true
  | 0, i, hi => Ev.step (f := fun _ => some true) (fun k => by simp only [laws_eqBoolS.l0]; rw [if_neg (by omega)]) (Ev.now _)
  | d + 1, i, hi => by
    refine Ev.step (f := fun k => laws_eqBoolS.l0 k x x ((i + 1 : Nat) : Int)) (fun k => ?_) (c_eqBoolS_l x hn d (i + 1) (by omega))
    simp only [laws_eqBoolS.l0]
    rw [if_pos (by omega), if_pos (by omega), if_pos (by omega), if_neg (by simp), c_succ i (by omega)]
theorem c_eqBoolS_ev (x : List Bool) (hn : x.length < 4611686018427387904) : Ev (fun k => laws_eqBoolS.f k x x) true := by
  unfold laws_eqBoolS.f
  exact c_if_pos rfl (c_eqBoolS_l x hn x.length 0 (by omega))


def c_mkInt (m : Int) (n : Nat) : List Int := (List.range n).map fun (j : Nat) => ((m + (j : Int)))
theorem c_mkInt_len (m : Int) (n : Nat) : (c_mkInt m n).length = n := by simp [c_mkInt]
theorem c_mkInt_at (m : Int) (n i : Nat) (h : i < n) : (c_mkInt m n)[i]? = some ((m + (i : Int))) := by simp [c_mkInt, h]
theorem c_heldInt_l (m : Int) (n : Nat) (hm : 0 ≤ m) (hb : m + n < 4611686018427387904) : ∀ (d i : Nat), i + d = n → Ev (fun k => laws_heldIntS.l0 k (c_mkInt m n) (m + i) (i : Int)) (m + n)
  | 0, i, hi => by
    have ei : i = n := by omega
    subst ei
    refine Ev.step (f := fun _ => some (m + i)) (fun k => ?_) (Ev.now _)
    simp only [laws_heldIntS.l0, c_mkInt_len]
    rw [if_neg (by omega)]
  | d + 1, i, hi => by
    refine Ev.step (f := fun k => laws_heldIntS.l0 k (c_mkInt m n) (m + ((i + 1 : Nat) : Int)) ((i + 1 : Nat) : Int)) (fun k => ?_) (c_heldInt_l m n hm hb d (i + 1) (by omega))
    have hrd : rd (c_mkInt m n) (i : Int) = ((m + (i : Int))) := by
      simp only [rd, Int.toNat_natCast]
      rw [List.getD_eq_getElem?_getD, c_mkInt_at m n i (by omega)]
      rfl
    simp only [laws_heldIntS.l0, c_mkInt_len]
    rw [if_pos (by omega), if_pos (by omega), if_pos hrd, c_succ i (by omega), c_w64 (x := m + i + 1) (by omega) (by omega), show m + (i : Int) + 1 = m + ((i + 1 : Nat) : Int) from by omega]
theorem c_heldInt_ev (m : Int) (n : Nat) (hm : 0 ≤ m) (hb : m + n < 4611686018427387904) : Ev (fun k => laws_heldIntS.f k (c_mkInt m n) m) (m + n) := by
  have := c_heldInt_l m n hm hb n 0 (by omega)
  rw [show m + ((0 : Nat) : Int) = m from by omega] at this
  exact this


def c_mkBool (m : Int) (n : Nat) : List Bool := (List.range n).map fun (j : Nat) => (Int.tmod (m + (j : Int)) 3 == 0)
theorem c_mkBool_len (m : Int) (n : Nat) : (c_mkBool m n).length = n := by simp [c_mkBool]
theorem c_mkBool_at (m : Int) (n i : Nat) (h : i < n) : (c_mkBool m n)[i]? = some (Int.tmod (m + (i : Int)) 3 == 0) := by simp [c_mkBool, h]
theorem c_heldBool_l (m : Int) (n : Nat) (hm : 0 ≤ m) (hb : m + n < 4611686018427387904) : ∀ (d i : Nat), i + d = n → Ev (fun k => laws_heldBoolS.l0 k (c_mkBool m n) (m + i) (i : Int)) (m + n)
  | 0, i, hi => by
    have ei : i = n := by omega
    subst ei
    refine Ev.step (f := fun _ => some (m + i)) (fun k => ?_) (Ev.now _)
    simp only [laws_heldBoolS.l0, c_mkBool_len]
    rw [if_neg (by omega)]
  | d + 1, i, hi => by
    refine Ev.step (f := fun k => laws_heldBoolS.l0 k (c_mkBool m n) (m + ((i + 1 : Nat) : Int)) ((i + 1 : Nat) : Int)) (fun k => ?_) (c_heldBool_l m n hm hb d (i + 1) (by omega))
    have hrd : rdOf false (c_mkBool m n) (i : Int) = (Int.tmod (m + (i : Int)) 3 == 0) := by
      simp only [rdOf, Int.toNat_natCast]
      rw [List.getD_eq_getElem?_getD, c_mkBool_at m n i (by omega)]
      rfl
    simp only [laws_heldBoolS.l0, c_mkBool_len]
    rw [if_pos (by omega), if_pos (by omega), if_neg (by rw [hrd]; simp), c_succ i (by omega), c_w64 (x := m + i + 1) (by omega) (by omega), show m + (i : Int) + 1 = m + ((i + 1 : Nat) : Int) from by omega]
theorem c_heldBool_ev (m : Int) (n : Nat) (hm : 0 ≤ m) (hb : m + n < 4611686018427387904) : Ev (fun k => laws_heldBoolS.f k (c_mkBool m n) m) (m + n) := by
  have := c_heldBool_l m n hm hb n 0 (by omega)
  rw [show m + ((0 : Nat) : Int) = m from by omega] at this
  exact this


theorem c_laws_markIntS_l (m : Int) (n : Nat) (hm : 0 ≤ m) (hb : m + n < 4611686018427387904) : ∀ (d : Nat) (acc : List Int) (i : Nat), acc.length = n → i + d = n → acc.take i = (c_mkInt m n).take i → Ev (fun k => laws_markIntS.l0 k acc (m + i) (i : Int)) (m + n, c_mkInt m n)
  | 0, acc, i, hl, hi, ht => by
    have e : acc = c_mkInt m n := by
      rw [List.take_of_length_le (by omega), List.take_of_length_le (by rw [c_mkInt_len]; omega)] at ht
      exact ht
    have ei : i = n := by omega
    subst ei
    refine Ev.step (f := fun _ => some (m + i, c_mkInt m i)) (fun k => ?_) (Ev.now _)
    simp only [laws_markIntS.l0]
    rw [if_neg (by omega), e]
  | d + 1, acc, i, hl, hi, ht => by
    refine Ev.step (f := fun k => laws_markIntS.l0 k (acc.set i ((m + i))) (m + ((i + 1 : Nat) : Int)) ((i + 1 : Nat) : Int)) (fun k => ?_) (c_laws_markIntS_l m n hm hb d _ (i + 1) (by rw [List.length_set]; exact hl) (by omega) (c_take_set (c_mkInt m n) acc _ i (c_mkInt_at m n i (by omega)) (by rw [hl, c_mkInt_len]) ht))
    simp only [laws_markIntS.l0]
    rw [if_pos (by omega), if_pos (by omega), c_succ i (by omega), Int.toNat_natCast, c_w64 (x := m + i + 1) (by omega) (by omega), show m + (i : Int) + 1 = m + ((i + 1 : Nat) : Int) from by omega]
theorem c_laws_markIntS_ev (l : List Int) (m : Int) (hm : 0 ≤ m) (hb : m + l.length < 4611686018427387904) : Ev (fun k => laws_markIntS.f k l m) (m + l.length, c_mkInt m l.length) := by
  have := c_laws_markIntS_l m l.length hm hb l.length l 0 rfl (by omega) (by simp)
  rw [show m + ((0 : Nat) : Int) = m from by omega] at this
  exact this


theorem c_laws_markIntS_w_l (m : Int) (n : Nat) (hm : 0 ≤ m) (hb : m + n < 4611686018427387904) : ∀ (d : Nat) (acc : List Int) (i : Nat), acc.length = n → i + d = n → acc.take i = (c_mkInt m n).take i → Ev (fun k => laws_markIntS_w.l0 k acc (m + i) (i : Int)) (m + n, c_mkInt m n)
  | 0, acc, i, hl, hi, ht => by
    have e : acc = c_mkInt m n := by
      rw [List.take_of_length_le (by omega), List.take_of_length_le (by rw [c_mkInt_len]; omega)] at ht
      exact ht
    have ei : i = n := by omega
    subst ei
    refine Ev.step (f := fun _ => some (m + i, c_mkInt m i)) (fun k => ?_) (Ev.now _)
    simp only [laws_markIntS_w.l0]
    rw [if_neg (by omega), e]
  | d + 1, acc, i, hl, hi, ht => by
    refine Ev.step (f := fun k => laws_markIntS_w.l0 k (acc.set i ((m + i))) (m + ((i + 1 : Nat) : Int)) ((i + 1 : Nat) : Int)) (fun k => ?_) (c_laws_markIntS_w_l m n hm hb d _ (i + 1) (by rw [List.length_set]; exact hl) (by omega) (c_take_set (c_mkInt m n) acc _ i (c_mkInt_at m n i (by omega)) (by rw [hl, c_mkInt_len]) ht))
    simp only [laws_markIntS_w.l0]
    rw [if_pos (by omega), if_pos (by omega), c_succ i (by omega), Int.toNat_natCast, c_w64 (x := m + i + 1) (by omega) (by omega), show m + (i : Int) + 1 = m + ((i + 1 : Nat) : Int) from by omega]
theorem c_laws_markIntS_w_ev (l : List Int) (m : Int) (hm : 0 ≤ m) (hb : m + l.length < 4611686018427387904) : Ev (fun k => laws_markIntS_w.f k l m) (m + l.length, c_mkInt m l.length) := by
  have := c_laws_markIntS_w_l m l.length hm hb l.length l 0 rfl (by omega) (by simp)
  rw [show m + ((0 : Nat) : Int) = m from by omega] at this
  exact this


theorem c_laws_markBoolS_l (m : Int) (n : Nat) (hm : 0 ≤ m) (hb : m + n < 4611686018427387904) : ∀ (d : Nat) (acc : List Bool) (i : Nat), acc.length = n → i + d = n → acc.take i = (c_mkBool m n).take i → Ev (fun k => laws_markBoolS.l0 k acc (m + i) (i : Int)) (m + n, c_mkBool m n)
  | 0, acc, i, hl, hi, ht => by
    have e : acc = c_mkBool m n := by
      rw [List.take_of_length_le (by omega), List.take_of_length_le (by rw [c_mkBool_len]; omega)] at ht
      exact ht
    have ei : i = n := by omega
    subst ei
    refine Ev.step (f := fun _ => some (m + i, c_mkBool m i)) (fun k => ?_) (Ev.now _)
    simp only [laws_markBoolS.l0]
    rw [if_neg (by omega), e]
  | d + 1, acc, i, hl, hi, ht => by
    refine Ev.step (f := fun k => laws_markBoolS.l0 k (acc.set i (Int.tmod (m + i) 3 == 0)) (m + ((i + 1 : Nat) : Int)) ((i + 1 : Nat) : Int)) (fun k => ?_) (c_laws_markBoolS_l m n hm hb d _ (i + 1) (by rw [List.length_set]; exact hl) (by omega) (c_take_set (c_mkBool m n) acc _ i (c_mkBool_at m n i (by omega)) (by rw [hl, c_mkBool_len]) ht))
    simp only [laws_markBoolS.l0]
    rw [if_pos (by omega), if_pos (by omega), c_succ i (by omega), Int.toNat_natCast, c_w64 (x := m + i + 1) (by omega) (by omega), show m + (i : Int) + 1 = m + ((i + 1 : Nat) : Int) from by omega]
theorem c_laws_markBoolS_ev (l : List Bool) (m : Int) (hm : 0 ≤ m) (hb : m + l.length < 4611686018427387904) : Ev (fun k => laws_markBoolS.f k l m) (m + l.length, c_mkBool m l.length) := by
  have := c_laws_markBoolS_l m l.length hm hb l.length l 0 rfl (by omega) (by simp)
  rw [show m + ((0 : Nat) : Int) = m from by omega] at this
  exact this


theorem c_laws_markBoolS_w_l (m : Int) (n : Nat) (hm : 0 ≤ m) (hb : m + n < 4611686018427387904) : ∀ (d : Nat) (acc : List Bool) (i : Nat), acc.length = n → i + d = n → acc.take i = (c_mkBool m n).take i → Ev (fun k => laws_markBoolS_w.l0 k acc (m + i) (i : Int)) (m + n, c_mkBool m n)
  | 0, acc, i, hl, hi, ht => by
    have e : acc = c_mkBool m n := by
      rw [List.take_of_length_le (by omega), List.take_of_length_le (by rw [c_mkBool_len]; omega)] at ht
      exact ht
    have ei : i = n := by omega
    subst ei
    refine Ev.step (f := fun _ => some (m + i, c_mkBool m i)) (fun k => ?_) (Ev.now _)
    simp only [laws_markBoolS_w.l0]
    rw [if_neg (by omega), e]
  | d + 1, acc, i, hl, hi, ht => by
    refine Ev.step (f := fun k => laws_markBoolS_w.l0 k (acc.set i (Int.tmod (m + i) 3 == 0)) (m + ((i + 1 : Nat) : Int)) ((i + 1 : Nat) : Int)) (fun k => ?_) (c_laws_markBoolS_w_l m n hm hb d _ (i + 1) (by rw [List.length_set]; exact hl) (by omega) (c_take_set (c_mkBool m n) acc _ i (c_mkBool_at m n i (by omega)) (by rw [hl, c_mkBool_len]) ht))
    simp only [laws_markBoolS_w.l0]
    rw [if_pos (by omega), if_pos (by omega), c_succ i (by omega), Int.toNat_natCast, c_w64 (x := m + i + 1) (by omega) (by omega), show m + (i : Int) + 1 = m + ((i + 1 : Nat) : Int) from by omega]
theorem c_laws_markBoolS_w_ev (l : List Bool) (m : Int) (hm : 0 ≤ m) (hb : m + l.length < 4611686018427387904) : Ev (fun k => laws_markBoolS_w.f k l m) (m + l.length, c_mkBool m l.length) := by
  have := c_laws_markBoolS_w_l m l.length hm hb l.length l 0 rfl (by omega) (by simp)
  rw [show m + ((0 : Nat) : Int) = m from by omega] at this
  exact this

/-- Both come to one answer, which has P. -/
def Both {α : Type} (P : α → Prop) (g h : Nat → Option α) : Prop := ∃ r, P r ∧ Ev g r ∧ Ev h r
theorem b_now {α : Type} {P : α → Prop} (a : α) (h : P a) : Both P (fun _ => some a) (fun _ => some a) := ⟨a, h, Ev.now a, Ev.now a⟩
theorem b_nextL {α : Type} {P : α → Prop} {g h : Nat → Option α} (k : Both P (fun n => g (n + 1)) h) : Both P g h := by
  obtain ⟨r, hp, h1, h2⟩ := k
  exact ⟨r, hp, c_next h1, h2⟩
theorem b_nextR {α : Type} {P : α → Prop} {g h : Nat → Option α} (k : Both P g (fun n => h (n + 1))) : Both P g h := by
  obtain ⟨r, hp, h1, h2⟩ := k
  exact ⟨r, hp, h1, c_next h2⟩
theorem b_next {α : Type} {P : α → Prop} {g h : Nat → Option α} (k : Both P (fun n => g (n + 1)) (fun n => h (n + 1))) : Both P g h := b_nextL (b_nextR k)
theorem b_posL {α : Type} {P : α → Prop} {c : Prop} [Decidable c] {g f h : Nat → Option α} (hc : c) (k : Both P g h) : Both P (fun n => if c then g n else f n) h := by
  obtain ⟨r, hp, h1, h2⟩ := k
  exact ⟨r, hp, c_if_pos hc h1, h2⟩
theorem b_negL {α : Type} {P : α → Prop} {c : Prop} [Decidable c] {g f h : Nat → Option α} (hc : ¬ c) (k : Both P f h) : Both P (fun n => if c then g n else f n) h := by
  obtain ⟨r, hp, h1, h2⟩ := k
  exact ⟨r, hp, c_if_neg hc h1, h2⟩
theorem b_posR {α : Type} {P : α → Prop} {c : Prop} [Decidable c] {g f h : Nat → Option α} (hc : c) (k : Both P h g) : Both P h (fun n => if c then g n else f n) := by
  obtain ⟨r, hp, h1, h2⟩ := k
  exact ⟨r, hp, h1, c_if_pos hc h2⟩
theorem b_negR {α : Type} {P : α → Prop} {c : Prop} [Decidable c] {g f h : Nat → Option α} (hc : ¬ c) (k : Both P h f) : Both P h (fun n => if c then g n else f n) := by
  obtain ⟨r, hp, h1, h2⟩ := k
  exact ⟨r, hp, h1, c_if_neg hc h2⟩
theorem b_if {α : Type} {P : α → Prop} {c : Prop} [Decidable c] {g f g' f' : Nat → Option α} (hp : c → Both P g g') (hn : ¬ c → Both P f f') : Both P (fun n => if c then g n else f n) (fun n => if c then g' n else f' n) := by
  by_cases hc : c
  · exact b_posL hc (b_posR hc (hp hc))
  · exact b_negL hc (b_negR hc (hn hc))
theorem b_iff {α : Type} {P : α → Prop} {c d : Prop} [Decidable c] [Decidable d] {g f g' f' : Nat → Option α} (e : c ↔ d) (hp : c → Both P g g') (hn : ¬ c → Both P f f') : Both P (fun n => if c then g n else f n) (fun n => if d then g' n else f' n) := by
  by_cases hc : c
  · exact b_posL hc (b_posR (e.1 hc) (hp hc))
  · exact b_negL hc (b_negR (fun h => hc (e.2 h)) (hn hc))
theorem b_bind {α β : Type} {Q : α → Prop} {P : β → Prop} {g h : Nat → Option α} {f f' : Nat → α → Option β} (k : Both Q g h) (l : ∀ a, Q a → Both P (fun n => f n a) (fun n => f' n a)) : Both P (fun n => (g n).bind (f n)) (fun n => (h n).bind (f' n)) := by
  obtain ⟨a, ha, h1, h2⟩ := k
  obtain ⟨r, hp, h3, h4⟩ := l a ha
  exact ⟨r, hp, c_bind a h1 h3, c_bind a h2 h4⟩
theorem b_bindL {α β : Type} {P : β → Prop} {g : Nat → Option α} {f : Nat → α → Option β} {h : Nat → Option β} (a : α) (e : Ev g a) (k : Both P (fun n => f n a) h) : Both P (fun n => (g n).bind (f n)) h := by
  obtain ⟨r, hp, h1, h2⟩ := k
  exact ⟨r, hp, c_bind a e h1, h2⟩
theorem b_bindR {α β : Type} {P : β → Prop} {g : Nat → Option α} {f : Nat → α → Option β} {h : Nat → Option β} (a : α) (e : Ev g a) (k : Both P h (fun n => f n a)) : Both P h (fun n => (g n).bind (f n)) := by
  obtain ⟨r, hp, h1, h2⟩ := k
  exact ⟨r, hp, h1, c_bind a e h2⟩
theorem b_bindL1 {α β : Type} {P : β → Prop} {g : Option α} {f : Nat → α → Option β} {h : Nat → Option β} (a : α) (e : g = some a) (k : Both P (fun n => f n a) h) : Both P (fun n => g.bind (f n)) h := by
  obtain ⟨r, hp, h1, h2⟩ := k
  exact ⟨r, hp, c_bind1 a e h1, h2⟩
theorem b_bindR1 {α β : Type} {P : β → Prop} {g : Option α} {f : Nat → α → Option β} {h : Nat → Option β} (a : α) (e : g = some a) (k : Both P h (fun n => f n a)) : Both P h (fun n => g.bind (f n)) := by
  obtain ⟨r, hp, h1, h2⟩ := k
  exact ⟨r, hp, h1, c_bind1 a e h2⟩
theorem b_mono {α : Type} {P Q : α → Prop} {g h : Nat → Option α} (k : Both P g h) (i : ∀ a, P a → Q a) : Both Q g h := by
  obtain ⟨r, hp, h1, h2⟩ := k
  exact ⟨r, i r hp, h1, h2⟩
theorem im_szt (x : List Bool) (y : List Int) (t0 : Int) (h0 : 0 ≤ t0) (h1 : t0 ≤ 1048576) (hx : x.length ≤ 9223372036854775807) (hy : y.length ≤ 9223372036854775807) : (∃ t : Int, t < 0 ∧ laws_szImage.f x y t0 = some t) ∨ ((x.length : Int) + y.length ≤ t0 ∧ ∃ t : Int, ¬ t < 0 ∧ laws_szImage.f x y t0 = some t) := by
  unfold laws_szImage.f laws_szBoolS.f laws_szIntS.f
  rw [c_w64 (x := t0 - (x.length : Int)) (by omega) (by omega)]
  by_cases c : t0 - (x.length : Int) < 0
  · exact Or.inl ⟨-1, by omega, by rw [if_pos c]; rfl⟩
  · rw [if_neg c]
    simp only [Option.bind_some]
    rw [if_neg c, c_w64 (x := t0 - (x.length : Int) - (y.length : Int)) (by omega) (by omega)]
    by_cases c2 : t0 - (x.length : Int) - (y.length : Int) < 0
    · exact Or.inl ⟨-1, by omega, by rw [if_pos c2]; rfl⟩
    · refine Or.inr ⟨by omega, t0 - (x.length : Int) - (y.length : Int), c2, ?_⟩
      rw [if_neg c2]
      simp only [Option.bind_some]
      rw [if_neg c2]
theorem c_toImage_ev (x : List Bool) (y : List Int) (hx : x.length ≤ 1048576) (hy : y.length ≤ 1048576) : Ev (fun k => laws_toImage.f k x y) (x, y) := by
  unfold laws_toImage.f
  exact c_bind x (c_toBoolS_ev x hx) (c_bind y (c_toIntS_ev y hy) (Ev.now (x, y)))
theorem c_eqImage_ev (x : List Bool) (y : List Int) (hx : x.length ≤ 1048576) (hy : y.length ≤ 1048576) : Ev (fun k => laws_eqImage.f k x y x y) true := by
  unfold laws_eqImage.f
  exact c_bind true (c_eqBoolS_ev x (by omega)) (c_if_pos rfl (c_bind true (c_eqIntS_ev y (by omega)) (c_if_pos rfl (Ev.now true))))
theorem im_l1in (a b c : Int) : spec_l1In.f a b c = some (decide (b ≤ a ∧ a ≤ c)) := by
  unfold spec_l1In.f
  by_cases h : a ≥ b
  · rw [if_pos h]
    simp [h]
  · rw [if_neg h]
    simp [h]
def im_ok (x : List Bool) (y : List Int) : Bool := decide ((x.length : Int) ≤ 16) && (decide ((y.length : Int) ≤ 8) && !(iv_bad y))
theorem im_at (y : List Int) (i : Nat) (hi : i < y.length) : y.drop i = rd y (i : Int) :: y.drop (i + 1) := by
  rw [List.drop_eq_getElem_cons hi]
  simp only [rd, Int.toNat_natCast]
  rw [List.getD_eq_getElem?_getD, List.getElem?_eq_getElem hi]
  rfl
theorem im_l0 (x : List Bool) (y : List Int) (hy : y.length ≤ 1048576) : ∀ (d i : Nat), i + d = y.length → Ev (fun k => spec_ImageValid.l0 k (i : Int) x y) (decide ((x.length : Int) ≤ 16) && (decide ((y.length : Int) ≤ 8) && !(iv_bad (y.drop i))))
  | 0, i, h => by
    refine c_next ?_
    simp only [spec_ImageValid.l0]
    rw [List.drop_of_length_le (by omega)]
    refine c_if_neg (by omega) ?_
    by_cases c : (x.length : Int) ≤ 16
    · refine c_if_pos c ?_
      have e : (decide ((x.length : Int) ≤ 16) && (decide ((y.length : Int) ≤ 8) && !(iv_bad ([] : List Int)))) = decide ((y.length : Int) ≤ 8) := by simp [c, iv_bad]
      rw [e]
      exact Ev.now _
    · refine c_if_neg c ?_
      rw [decide_eq_false c, Bool.false_and]
      exact Ev.now _
  | d + 1, i, h => by
    have ih := im_l0 x y hy d (i + 1) (by omega)
    refine c_next ?_
    simp only [spec_ImageValid.l0]
    rw [c_succ i (by omega), im_l1in, im_at y i (by omega)]
    refine c_if_pos (by omega) (c_if_pos (by omega) ?_)
    by_cases c : -32768 ≤ rd y (i : Int) ∧ rd y (i : Int) ≤ 32767
    · refine c_bind1 true (congrArg some (decide_eq_true c)) (c_if_pos rfl ?_)
      have e : iv_bad (rd y (i : Int) :: y.drop (i + 1)) = iv_bad (y.drop (i + 1)) := by simp [iv_bad, c]
      rw [e]
      exact ih
    · refine c_bind1 false (congrArg some (decide_eq_false c)) (c_if_neg (by simp) ?_)
      have e : iv_bad (rd y (i : Int) :: y.drop (i + 1)) = true := by unfold iv_bad; rw [List.any_cons, decide_eq_false c]; rfl
      rw [e, Bool.not_true, Bool.and_false, Bool.and_false]
      exact Ev.now _
theorem im_valid (x : List Bool) (y : List Int) (hy : y.length ≤ 1048576) : Ev (fun k => spec_ImageValid.f k x y) (im_ok x y) := im_l0 x y hy y.length 0 (by omega)
theorem im_valid' (x : List Bool) (y : List Int) : impl_ImageValid.f x y = some (im_ok x y) := rfl
theorem im_small {x : List Bool} {y : List Int} (h : im_ok x y = true) : x.length ≤ 16 ∧ y.length ≤ 8 ∧ iv_bad y = false := by
  simp only [im_ok, Bool.and_eq_true, decide_eq_true_eq, Bool.not_eq_true'] at h
  exact ⟨by omega, by omega, h.2.2⟩
theorem im_sz (x : List Bool) (y : List Int) (hx : x.length ≤ 9223372036854775807) (hy : y.length ≤ 9223372036854775807) : (∃ t : Int, t < 0 ∧ laws_szImage.f x y 1048576 = some t) ∨ (x.length + y.length ≤ 1048576 ∧ ∃ t : Int, ¬ t < 0 ∧ laws_szImage.f x y 1048576 = some t) := by
  unfold laws_szImage.f laws_szBoolS.f laws_szIntS.f
  rw [c_w64 (x := 1048576 - (x.length : Int)) (by omega) (by omega)]
  by_cases c : 1048576 - (x.length : Int) < 0
  · exact Or.inl ⟨-1, by omega, by rw [if_pos c]; rfl⟩
  · rw [if_neg c]
    simp only [Option.bind_some]
    rw [if_neg c, c_w64 (x := 1048576 - (x.length : Int) - (y.length : Int)) (by omega) (by omega)]
    by_cases c2 : 1048576 - (x.length : Int) - (y.length : Int) < 0
    · exact Or.inl ⟨-1, by omega, by rw [if_pos c2]; rfl⟩
    · refine Or.inr ⟨by omega, 1048576 - (x.length : Int) - (y.length : Int), c2, ?_⟩
      rw [if_neg c2]
      simp only [Option.bind_some]
      rw [if_neg c2]
theorem c_markImage_ev (x : List Bool) (y : List Int) (hx : x.length ≤ 1048576) (hy : y.length ≤ 1048576) : Ev (fun k => laws_markImage.f k x y 1) (1 + (x.length : Int) + (y.length : Int), c_mkBool 1 x.length, c_mkInt (1 + x.length) y.length) := by
  unfold laws_markImage.f
  exact c_bind _ (c_laws_markBoolS_ev x 1 (by omega) (by omega)) (c_bind _ (c_laws_markIntS_ev y (1 + x.length) (by omega) (by omega)) (Ev.now _))
theorem c_heldImage_ev (n m : Nat) (hn : n ≤ 1048576) (hm : m ≤ 1048576) : Ev (fun k => laws_heldImage.f k (c_mkBool 1 n) (c_mkInt (1 + n) m) 1) (1 + (n : Int) + (m : Int)) := by
  unfold laws_heldImage.f
  exact c_bind _ (c_heldBool_ev 1 n (by omega) (by omega)) (c_if_neg (by omega) (c_bind _ (c_heldInt_ev (1 + n) m (by omega) (by omega)) (c_if_neg (by omega) (Ev.now _))))
theorem c_markImage_w_ev (x : List Bool) (y : List Int) (hx : x.length ≤ 1048576) (hy : y.length ≤ 1048576) : Ev (fun k => laws_markImage_w.f k x y 1) (1 + (x.length : Int) + (y.length : Int), c_mkBool 1 x.length, c_mkInt (1 + x.length) y.length) := by
  unfold laws_markImage_w.f
  exact c_bind _ (c_laws_markBoolS_w_ev x 1 (by omega) (by omega)) (c_bind _ (c_laws_markIntS_w_ev y (1 + x.length) (by omega) (by omega)) (Ev.now _))
theorem mb_own (x : List Bool) (y : List Int) (hx : x.length ≤ 1048576) (hy : y.length ≤ 1048576) : spec_l1OwnImage.f x y = some (x, y) := by
  unfold spec_l1OwnImage.f
  simp only [Option.bind_some, List.nil_append, List.length_nil, Nat.zero_add]
  rw [if_pos (by omega), if_pos (by omega)]
def mb_get (x : List Bool) (n : Int) : Bool := if 0 ≤ n ∧ n ≤ (x.length : Int) - 1 then rdOf false x n else false
theorem mb_spec (x : List Bool) (y : List Int) (n : Int) (hx : x.length ≤ 1048576) : spec_GetBit.f x y n = some (mb_get x n) := by
  unfold spec_GetBit.f mb_get
  rw [im_l1in, c_w64 (by omega) (by omega)]
  simp only [Option.bind_some]
  by_cases c : 0 ≤ n ∧ n ≤ (x.length : Int) - 1
  · rw [decide_eq_true c, if_pos rfl, if_pos c.1, if_pos (by omega), if_pos c]
  · rw [decide_eq_false c, if_neg (by simp), if_neg c]
theorem mb_impl (x : List Bool) (y : List Int) (n : Int) (hx : x.length ≤ 1048576) : impl_GetBit.f x y n = some (mb_get x n) := mb_spec x y n hx
theorem mb_take {α : Type} (x : List α) (i : Nat) (v : α) (R : List α) (h : i < R.length) (e : R.take i = x) : (R.set i v).take (i + 1) = x ++ [v] := by
  rw [List.take_add_one, List.getElem?_set_self h, List.take_set_of_le (Nat.le_refl i), e]
  rfl
theorem mb_l0 (x : List Bool) (y : List Int) (z : List Int) (hx : x.length ≤ 1048576) (hy : y.length ≤ 1048576) (hz : z.length ≤ 16) : ∀ (d i : Nat) (S R : List Bool), i + d = z.length → S.length = i → R.length = z.length → R.take i = S →
    Both (fun p => p.1.length ≤ 1048576 ∧ p.2.length ≤ 1048576) (fun k => spec_MigrateBits.l0 k z (i : Int) x y S y) (fun k => impl_MigrateBits.l0 k z (z.length : Int) (i : Int) x y R y)
  | 0, i, S, R, h, hS, hR, hT => by
    have e : R = S := by rw [← hT, List.take_of_length_le (by omega)]
    subst e
    refine b_next ?_
    simp only [spec_MigrateBits.l0, impl_MigrateBits.l0]
    exact b_negL (by omega) (b_negR (by omega) (b_now _ ⟨by simp only; omega, hy⟩))
  | d + 1, i, S, R, h, hS, hR, hT => by
    have ih := mb_l0 x y z hx hy hz d (i + 1) (S ++ [mb_get x (rd z (i : Int))]) (R.set i (mb_get x (rd z (i : Int)))) (by omega) (by rw [List.length_append, hS]; rfl) (by rw [List.length_set]; exact hR) (mb_take S i _ R (by omega) hT)
    refine b_next ?_
    simp only [spec_MigrateBits.l0, impl_MigrateBits.l0]
    rw [c_succ i (by omega), Int.toNat_natCast]
    exact b_posL (by omega) (b_posL (by omega) (b_bindL1 _ (mb_spec x y _ hx) (b_posL (by omega) (b_posR (by omega) (b_posR (by omega) (b_posR (by omega) (b_bindR1 _ (mb_impl x y _ hx) (b_posR (by omega) ih))))))))
theorem mb_both (x : List Bool) (y z : List Int) (hx : x.length ≤ 1048576) (hy : y.length ≤ 1048576) (hz : z.length ≤ 1048576) : Both (fun p => p.1.length ≤ 1048576 ∧ p.2.length ≤ 1048576) (fun k => spec_MigrateBits.f k x y z) (fun k => impl_MigrateBits.f k x y z) := by
  have no : Both (fun p : List Bool × List Int => p.1.length ≤ 1048576 ∧ p.2.length ≤ 1048576) (fun k => spec_MigrateBits.j0 k z true x y) (fun k => impl_MigrateBits.j0 k z true x y) := by
    refine b_next ?_
    simp only [spec_MigrateBits.j0, impl_MigrateBits.j0]
    exact b_posL trivial (b_posR trivial (b_now _ ⟨by simp, by simp⟩))
  unfold spec_MigrateBits.f impl_MigrateBits.f
  refine b_bindL1 _ (mb_own x y hx hy) (b_bindL _ (im_valid x y hy) (b_bindR1 _ (im_valid' x y) ?_))
  cases h : im_ok x y with
  | false => exact b_negL (by simp) (b_negR (by simp) no)
  | true =>
    obtain ⟨h1, h2, _⟩ := im_small h
    refine b_posL rfl (b_posR rfl ?_)
    by_cases c : (z.length : Int) > 16
    · rw [decide_eq_true c]
      exact no
    · rw [decide_eq_false c]
      refine b_next ?_
      simp only [spec_MigrateBits.j0, impl_MigrateBits.j0]
      refine b_negL (by simp) (b_negR (by simp) (b_bindL1 [] rfl (b_posL (by simp only [List.length_nil]; omega) (b_posR (by omega) (b_posR (by omega) ?_)))))
      refine b_bindR1 y (by unfold impl_clone_int.f; rw [if_pos (by omega)]) ?_
      exact mb_l0 x y z hx hy (by omega) z.length 0 [] _ (by omega) rfl (by simp) (by simp)
theorem FnExactMigrateBits : ∀ (l0_0 : List Bool) (l0_1 : List Int) (l1 : List Int), (l0_0.length ≤ maxLen ∧ ∀ y4 ∈ l0_0, True) → (l0_1.length ≤ maxLen ∧ ∀ y4 ∈ l0_1, (Lit.int .i64 y4).wf = true) → (l1.length ≤ maxLen ∧ ∀ y2 ∈ l1, (Lit.int .i64 y2).wf = true) → ∃ k, laws_FnExactMigrateBits.f k l0_0 l0_1 l1 = some true := by
  intro x y z hx hy hz
  refine Ev.rounds (r := true) ?_
  unfold laws_FnExactMigrateBits.f
  have hmx := hx.1
  have hmy := hy.1
  simp only [maxLen] at hmx hmy
  by_cases cz : (z.length : Int) > 1048576
  · exact c_if_pos cz (Ev.now true)
  refine c_if_neg cz ?_
  rcases im_sz x y (by omega) (by omega) with ⟨t, ht, hs⟩ | ⟨hl, t, ht, hs⟩
  · exact c_bind1 _ hs (c_if_pos ht (Ev.now true))
  refine c_bind1 _ hs (c_if_neg ht ?_)
  clear hs ht
  obtain ⟨⟨y0, y1⟩, ⟨hy0, hy1⟩, hs, hi⟩ := mb_both x y z (by omega) (by omega) (by omega)
  simp only at hy0 hy1
  refine c_bind _ (c_toImage_ev x y (by omega) (by omega)) ?_
  refine c_bind _ (c_toIntS_ev z (by omega)) ?_
  refine c_bind _ (hs) ?_
  refine c_bind _ (c_toImage_ev x y (by omega) (by omega)) ?_
  refine c_bind _ (c_toIntS_ev z (by omega)) ?_
  refine c_bind _ (hi) ?_
  refine c_bind _ (c_eqImage_ev y0 y1 (by omega) (by omega)) ?_
  refine c_if_pos rfl ?_
  refine c_bind _ (c_toImage_ev x y (by omega) (by omega)) ?_
  refine c_bind _ (c_eqImage_ev x y (by omega) (by omega)) ?_
  refine c_if_pos rfl ?_
  refine c_bind _ (c_toIntS_ev z (by omega)) ?_
  refine c_bind _ (c_eqIntS_ev z (by first | omega | (rw [List.length_map]; omega))) ?_
  refine c_if_pos rfl ?_
  refine c_bind _ (c_markImage_ev x y (by omega) (by omega)) ?_
  refine c_bind _ (c_laws_markIntS_ev z (1 + (x.length : Int) + (y.length : Int)) (by omega) (by omega)) ?_
  refine c_if_neg (by first | omega | (simp only; omega)) ?_
  refine c_bind _ (c_eqImage_ev y0 y1 (by omega) (by omega)) ?_
  refine c_next ?_
  simp only [laws_FnExactMigrateBits.j0]
  refine c_if_neg (by simp) ?_
  refine c_bind _ (c_markImage_w_ev y0 y1 (by omega) (by omega)) ?_
  refine c_bind _ (c_heldImage_ev y0.length y1.length (by omega) (by omega)) ?_
  refine c_if_neg (by omega) ?_
  refine c_if_pos rfl ?_
  refine c_bind _ (c_toImage_ev x y (by omega) (by omega)) ?_
  refine c_bind _ (c_toIntS_ev z (by omega)) ?_
  refine c_bind _ (hi) ?_
  refine c_bind _ (c_eqImage_ev y0 y1 (by omega) (by omega)) ?_
  refine c_if_pos rfl ?_
  refine c_bind _ (c_heldImage_ev y0.length y1.length (by omega) (by omega)) ?_
  refine c_if_neg (by omega) ?_
  refine c_if_pos rfl ?_
  exact Ev.now true

end Go.Proofs.Ytojgaiibnajghaa.Pure
