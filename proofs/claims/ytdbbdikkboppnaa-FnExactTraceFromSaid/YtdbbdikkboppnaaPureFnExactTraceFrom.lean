/- For every list of numbers the law of TraceFrom answers true (no condition beyond the kinds and the reach of the argument). -/
import Derived.Test.YtdbbdikkboppnaaQFnExactTraceFromx4
namespace Go.Proofs.Ytdbbdikkboppnaa.Pure
open Go.RowKit Go.Proofs.Ytdbbdikkboppnaa.QFnExactTraceFrom Go.Proofs.YtdbbdikkboppnaaW.PrintWords Go.Proofs.YtdbbdikkboppnaaW.PrintLast Go.Proofs.YtdbbdikkboppnaaW.PrintMore
set_option linter.unusedVariables false
set_option linter.unusedSimpArgs false

theorem c_ev_det {α : Type} {g : Nat → Option α} {r r' : α} (h : Ev g r) (h' : Ev g r') : r = r' := by
  obtain ⟨K, h⟩ := h
  obtain ⟨K', h'⟩ := h'
  have h1 := h (max K K') (by omega)
  have h2 := h' (max K K') (by omega)
  rw [h1] at h2
  exact Option.some.inj h2
theorem c_w64 {x : Int} (h0 : -9223372036854775808 ≤ x) (h1 : x ≤ 9223372036854775807) : wrap64 x = x := by
  unfold wrap64
  omega
theorem c_succ (i : Nat) (h : i < 9223372036854775807) : wrap64 ((i : Int) + 1) = ((i + 1 : Nat) : Int) := by
  unfold wrap64
  omega
theorem c_take_set {α : Type} (x acc : List α) (v : α) (i : Nat) (hv : x[i]? = some v) (hl : acc.length = x.length) (ht : acc.take i = x.take i) : (acc.set i v).take (i + 1) = x.take (i + 1) := by
  have hi : i < x.length := (List.getElem?_eq_some_iff.1 hv).1
  apply List.ext_getElem?
  intro j
  have hj := congrArg (fun l => l[j]?) ht
  simp only [List.getElem?_take] at hj
  rw [List.getElem?_take, List.getElem?_take]
  by_cases h1 : j < i + 1
  · rw [if_pos h1, if_pos h1]
    by_cases h2 : j < i
    · rw [if_pos h2, if_pos h2] at hj
      rw [List.getElem?_set_ne (by omega)]
      exact hj
    · have : j = i := by omega
      subst this
      rw [List.getElem?_set_self (by omega), hv]
  · rw [if_neg h1, if_neg h1]
theorem c_getD {α : Type} (x : List α) (d : α) (i : Nat) (h : i < x.length) : x[i]? = some (x.getD i d) := by
  rw [List.getD_eq_getElem?_getD, List.getElem?_eq_getElem h]
  rfl
theorem c_if_pos {α : Type} {c : Prop} [Decidable c] {g f : Nat → Option α} {r : α} (h : c) (k : Ev g r) : Ev (fun n => if c then g n else f n) r := Ev.congr (fun _ => if_pos h) k
theorem c_if_neg {α : Type} {c : Prop} [Decidable c] {g f : Nat → Option α} {r : α} (h : ¬ c) (k : Ev f r) : Ev (fun n => if c then g n else f n) r := Ev.congr (fun _ => if_neg h) k
theorem c_bind {α β : Type} {g : Nat → Option α} {f : Nat → α → Option β} (a : α) {r : β} (h : Ev g a) (k : Ev (fun n => f n a) r) : Ev (fun n => (g n).bind (f n)) r := Ev.bind h k
theorem c_bind1 {α β : Type} {g : Option α} {f : Nat → α → Option β} (a : α) {r : β} (h : g = some a) (k : Ev (fun n => f n a) r) : Ev (fun n => g.bind (f n)) r := Ev.congr (fun n => by rw [h]; rfl) k

theorem c_next {α : Type} {g : Nat → Option α} {r : α} (h : Ev (fun k => g (k + 1)) r) : Ev g r := Ev.step (fun _ => rfl) h


theorem c_toIntS_l (x : List Int) (hn : x.length < 4611686018427387904) : ∀ (d : Nat) (acc : List Int) (i : Nat), acc.length = x.length → i + d = x.length → acc.take i = x.take i → Ev (fun k => laws_toIntS.l0 k x acc (i : Int)) x
  | 0, acc, i, hl, hi, ht => by
    have e : acc = x := by
      rw [List.take_of_length_le (by omega), List.take_of_length_le (by omega)] at ht
      exact ht
    subst e
    exact Ev.step (f := fun _ => some acc) (fun k => by simp only [laws_toIntS.l0]; rw [if_neg (by omega)]) (Ev.now _)
  | d + 1, acc, i, hl, hi, ht => by
    refine Ev.step (f := fun k => laws_toIntS.l0 k x (acc.set i (x.getD i 0)) ((i + 1 : Nat) : Int)) (fun k => ?_) (c_toIntS_l x hn d _ (i + 1) (by rw [List.length_set]; exact hl) (by omega) (c_take_set x acc _ i (c_getD x 0 i (by omega)) hl ht))
    simp only [laws_toIntS.l0]
    rw [if_pos (by omega), if_pos (by omega), if_pos (by omega), c_succ i (by omega)]
    simp only [rd, Int.toNat_natCast]
theorem c_toIntS_ev (x : List Int) (hn : x.length ≤ 1048576) : Ev (fun k => laws_toIntS.f k x) x := by
  unfold laws_toIntS.f
  refine c_if_pos (by omega) (c_if_pos (by omega) ?_)
  refine c_toIntS_l x (by omega) x.length _ 0 (by simp) (by omega) (by simp)


theorem c_eqIntS_l (x : List Int) (hn : x.length < 4611686018427387904) : ∀ (d : Nat) (i : Nat), i + d = x.length → Ev (fun k => laws_eqIntS.l0 k x x (i : Int)) true
  | 0, i, hi => Ev.step (f := fun _ => some true) (fun k => by simp only [laws_eqIntS.l0]; rw [if_neg (by omega)]) (Ev.now _)
  | d + 1, i, hi => by
    refine Ev.step (f := fun k => laws_eqIntS.l0 k x x ((i + 1 : Nat) : Int)) (fun k => ?_) (c_eqIntS_l x hn d (i + 1) (by omega))
    simp only [laws_eqIntS.l0]
    rw [if_pos (by omega), if_pos (by omega), if_pos (by omega), if_pos trivial, c_succ i (by omega)]
theorem c_eqIntS_ev (x : List Int) (hn : x.length < 4611686018427387904) : Ev (fun k => laws_eqIntS.f k x x) true := by
  unfold laws_eqIntS.f
  exact c_if_pos rfl (c_eqIntS_l x hn x.length 0 (by omega))


theorem c_eqBoolS_l (x : List Bool) (hn : x.length < 4611686018427387904) : ∀ (d : Nat) (i : Nat), i + d = x.length → Ev (fun k => laws_eqBoolS.l0 k x x (i : Int)) true
  | 0, i, hi => Ev.step (f := fun _ => some true) (fun k => by simp only [laws_eqBoolS.l0]; rw [if_neg (by omega)]) (Ev.now _)
  | d + 1, i, hi => by
    refine Ev.step (f := fun k => laws_eqBoolS.l0 k x x ((i + 1 : Nat) : Int)) (fun k => ?_) (c_eqBoolS_l x hn d (i + 1) (by omega))
    simp only [laws_eqBoolS.l0]
    rw [if_pos (by omega), if_pos (by omega), if_pos (by omega), if_neg (by simp), c_succ i (by omega)]
theorem c_eqBoolS_ev (x : List Bool) (hn : x.length < 4611686018427387904) : Ev (fun k => laws_eqBoolS.f k x x) true := by
  unfold laws_eqBoolS.f
  exact c_if_pos rfl (c_eqBoolS_l x hn x.length 0 (by omega))


def c_mkBool (m : Int) (n : Nat) : List Bool := (List.range n).map fun (j : Nat) => (Int.tmod (m + (j : Int)) 3 == 0)
theorem c_mkBool_len (m : Int) (n : Nat) : (c_mkBool m n).length = n := by simp [c_mkBool]
theorem c_mkBool_at (m : Int) (n i : Nat) (h : i < n) : (c_mkBool m n)[i]? = some (Int.tmod (m + (i : Int)) 3 == 0) := by simp [c_mkBool, h]
theorem c_heldBool_l (m : Int) (n : Nat) (hm : 0 ≤ m) (hb : m + n < 4611686018427387904) : ∀ (d i : Nat), i + d = n → Ev (fun k => laws_heldBoolS.l0 k (c_mkBool m n) (m + i) (i : Int)) (m + n)
  | 0, i, hi => by
    have ei : i = n := by omega
    subst ei
    refine Ev.step (f := fun _ => some (m + i)) (fun k => ?_) (Ev.now _)
    simp only [laws_heldBoolS.l0, c_mkBool_len]
    rw [if_neg (by omega)]
  | d + 1, i, hi => by
    refine Ev.step (f := fun k => laws_heldBoolS.l0 k (c_mkBool m n) (m + ((i + 1 : Nat) : Int)) ((i + 1 : Nat) : Int)) (fun k => ?_) (c_heldBool_l m n hm hb d (i + 1) (by omega))
    have hrd : rdOf false (c_mkBool m n) (i : Int) = (Int.tmod (m + (i : Int)) 3 == 0) := by
      simp only [rdOf, Int.toNat_natCast]
      rw [List.getD_eq_getElem?_getD, c_mkBool_at m n i (by omega)]
      rfl
    simp only [laws_heldBoolS.l0, c_mkBool_len]
    rw [if_pos (by omega), if_pos (by omega), if_neg (by rw [hrd]; simp), c_succ i (by omega), c_w64 (x := m + i + 1) (by omega) (by omega), show m + (i : Int) + 1 = m + ((i + 1 : Nat) : Int) from by omega]
theorem c_heldBool_ev (m : Int) (n : Nat) (hm : 0 ≤ m) (hb : m + n < 4611686018427387904) : Ev (fun k => laws_heldBoolS.f k (c_mkBool m n) m) (m + n) := by
  have := c_heldBool_l m n hm hb n 0 (by omega)
  rw [show m + ((0 : Nat) : Int) = m from by omega] at this
  exact this


theorem c_laws_markBoolS_w_l (m : Int) (n : Nat) (hm : 0 ≤ m) (hb : m + n < 4611686018427387904) : ∀ (d : Nat) (acc : List Bool) (i : Nat), acc.length = n → i + d = n → acc.take i = (c_mkBool m n).take i → Ev (fun k => laws_markBoolS_w.l0 k acc (m + i) (i : Int)) (m + n, c_mkBool m n)
  | 0, acc, i, hl, hi, ht => by
    have e : acc = c_mkBool m n := by
      rw [List.take_of_length_le (by omega), List.take_of_length_le (by rw [c_mkBool_len]; omega)] at ht
      exact ht
    have ei : i = n := by omega
    subst ei
    refine Ev.step (f := fun _ => some (m + i, c_mkBool m i)) (fun k => ?_) (Ev.now _)
    simp only [laws_markBoolS_w.l0]
    rw [if_neg (by omega), e]
  | d + 1, acc, i, hl, hi, ht => by
    refine Ev.step (f := fun k => laws_markBoolS_w.l0 k (acc.set i (Int.tmod (m + i) 3 == 0)) (m + ((i + 1 : Nat) : Int)) ((i + 1 : Nat) : Int)) (fun k => ?_) (c_laws_markBoolS_w_l m n hm hb d _ (i + 1) (by rw [List.length_set]; exact hl) (by omega) (c_take_set (c_mkBool m n) acc _ i (c_mkBool_at m n i (by omega)) (by rw [hl, c_mkBool_len]) ht))
    simp only [laws_markBoolS_w.l0]
    rw [if_pos (by omega), if_pos (by omega), c_succ i (by omega), Int.toNat_natCast, c_w64 (x := m + i + 1) (by omega) (by omega), show m + (i : Int) + 1 = m + ((i + 1 : Nat) : Int) from by omega]
theorem c_laws_markBoolS_w_ev (l : List Bool) (m : Int) (hm : 0 ≤ m) (hb : m + l.length < 4611686018427387904) : Ev (fun k => laws_markBoolS_w.f k l m) (m + l.length, c_mkBool m l.length) := by
  have := c_laws_markBoolS_w_l m l.length hm hb l.length l 0 rfl (by omega) (by simp)
  rw [show m + ((0 : Nat) : Int) = m from by omega] at this
  exact this


def c_mkInt (m : Int) (n : Nat) : List Int := (List.range n).map fun (j : Nat) => ((m + (j : Int)))
theorem c_mkInt_len (m : Int) (n : Nat) : (c_mkInt m n).length = n := by simp [c_mkInt]
theorem c_mkInt_at (m : Int) (n i : Nat) (h : i < n) : (c_mkInt m n)[i]? = some ((m + (i : Int))) := by simp [c_mkInt, h]


theorem c_laws_markIntS_l (m : Int) (n : Nat) (hm : 0 ≤ m) (hb : m + n < 4611686018427387904) : ∀ (d : Nat) (acc : List Int) (i : Nat), acc.length = n → i + d = n → acc.take i = (c_mkInt m n).take i → Ev (fun k => laws_markIntS.l0 k acc (m + i) (i : Int)) (m + n, c_mkInt m n)
  | 0, acc, i, hl, hi, ht => by
    have e : acc = c_mkInt m n := by
      rw [List.take_of_length_le (by omega), List.take_of_length_le (by rw [c_mkInt_len]; omega)] at ht
      exact ht
    have ei : i = n := by omega
    subst ei
    refine Ev.step (f := fun _ => some (m + i, c_mkInt m i)) (fun k => ?_) (Ev.now _)
    simp only [laws_markIntS.l0]
    rw [if_neg (by omega), e]
  | d + 1, acc, i, hl, hi, ht => by
    refine Ev.step (f := fun k => laws_markIntS.l0 k (acc.set i ((m + i))) (m + ((i + 1 : Nat) : Int)) ((i + 1 : Nat) : Int)) (fun k => ?_) (c_laws_markIntS_l m n hm hb d _ (i + 1) (by rw [List.length_set]; exact hl) (by omega) (c_take_set (c_mkInt m n) acc _ i (c_mkInt_at m n i (by omega)) (by rw [hl, c_mkInt_len]) ht))
    simp only [laws_markIntS.l0]
    rw [if_pos (by omega), if_pos (by omega), c_succ i (by omega), Int.toNat_natCast, c_w64 (x := m + i + 1) (by omega) (by omega), show m + (i : Int) + 1 = m + ((i + 1 : Nat) : Int) from by omega]
theorem c_laws_markIntS_ev (l : List Int) (m : Int) (hm : 0 ≤ m) (hb : m + l.length < 4611686018427387904) : Ev (fun k => laws_markIntS.f k l m) (m + l.length, c_mkInt m l.length) := by
  have := c_laws_markIntS_l m l.length hm hb l.length l 0 rfl (by omega) (by simp)
  rw [show m + ((0 : Nat) : Int) = m from by omega] at this
  exact this

theorem tf_l1 (a b c : Int) : spec_l1In.f a b c = some (decide (b ≤ a ∧ a ≤ c)) := by
  unfold spec_l1In.f
  by_cases h : a ≥ b
  · rw [if_pos h]
    simp [h]
  · rw [if_neg h]
    simp [h]
theorem tf_in (a b c : Int) : impl_in.f a b c = some (decide (b ≤ a ∧ a ≤ c)) := tf_l1 a b c
theorem tf_spec_in (x : List Int) (hx : x.length ≤ 1048576) (i : Nat) (hi : i < x.length) (b : Bool) (hb : ((Int.tmod (i : Int) 2) == 1) = b) (r : List Bool × Bool) : ∀ (d : Nat) (j : Nat) (out : List Bool), (j : Int) + d = rd x (i : Int) → out.length + d ≤ 200 → j + d ≤ 200 →
    Ev (fun k => spec_TraceFrom.l0 k x (out ++ List.replicate d b) ((i + 1 : Nat) : Int)) r → Ev (fun k => spec_TraceFrom.l1 k x out (i : Int) (j : Int)) r
  | 0, j, out, h, ho, hj, hr => by
    refine c_next ?_
    simp only [spec_TraceFrom.l1]
    rw [c_succ i (by omega)]
    simp only [List.replicate_zero, List.append_nil] at hr
    exact c_if_pos (by omega) (c_if_pos (by omega) (c_if_neg (by omega) hr))
  | d + 1, j, out, h, ho, hj, hr => by
    refine c_next ?_
    simp only [spec_TraceFrom.l1]
    rw [c_succ j (by omega), hb]
    refine c_if_pos (by omega) (c_if_pos (by omega) (c_if_pos (by omega) (c_if_pos (by omega) ?_)))
    refine tf_spec_in x hx i hi b hb r d (j + 1) (out ++ [b]) (by omega) (by simp; omega) (by omega) ?_
    rw [List.append_assoc, List.singleton_append, ← List.replicate_succ]
    exact hr
theorem tf_impl_in (x : List Int) (hx : x.length ≤ 1048576) (i : Nat) (b : Bool) (hb : ((Int.tmod (i : Int) 2) == 1) = b) (n : Int) (r : List Bool × Bool) : ∀ (d : Nat) (j : Nat) (out : List Bool), (j : Int) + d = n → out.length + d ≤ 200 → j + d ≤ 200 → i ≤ 1048576 →
    Ev (fun k => impl_TraceFrom.l0 k x (out ++ List.replicate d b) x (x.length : Int) ((i + 1 : Nat) : Int)) r → Ev (fun k => impl_TraceFrom.l1 k x out (i : Int) x (x.length : Int) (i : Int) n (j : Int)) r
  | 0, j, out, h, ho, hj, hi, hr => by
    refine c_next ?_
    simp only [impl_TraceFrom.l1]
    rw [c_succ i (by omega)]
    simp only [List.replicate_zero, List.append_nil] at hr
    exact c_if_neg (by omega) hr
  | d + 1, j, out, h, ho, hj, hi, hr => by
    refine c_next ?_
    simp only [impl_TraceFrom.l1]
    rw [c_succ j (by omega), hb]
    refine c_if_pos (by omega) (c_if_pos (by omega) ?_)
    refine tf_impl_in x hx i b hb n r d (j + 1) (out ++ [b]) (by omega) (by simp; omega) (by omega) hi ?_
    rw [List.append_assoc, List.singleton_append, ← List.replicate_succ]
    exact hr
theorem tf_both (x : List Int) (hx : x.length ≤ 1048576) : ∀ (d i : Nat) (out : List Bool), i + d = x.length → out.length ≤ 200 →
    ∃ (y : List Bool) (b : Bool), y.length ≤ 200 ∧ Ev (fun k => spec_TraceFrom.l0 k x out (i : Int)) (y, b) ∧ Ev (fun k => impl_TraceFrom.l0 k x out x (x.length : Int) (i : Int)) (y, b)
  | 0, i, out, h, ho => by
    refine ⟨out, true, ho, ?_, ?_⟩
    · refine c_next ?_
      simp only [spec_TraceFrom.l0]
      exact c_if_neg (by omega) (Ev.now _)
    · refine c_next ?_
      simp only [impl_TraceFrom.l0, impl_clone_bool.f]
      exact c_if_neg (by omega) (c_bind1 out (if_pos (by omega)) (Ev.now _))
  | d + 1, i, out, h, ho => by
    have ew : wrap64 (200 - (out.length : Int)) = 200 - (out.length : Int) := c_w64 (by omega) (by omega)
    -- the least number that may stand here
    obtain ⟨m, hm, hmi⟩ : ∃ m : Int, (m = if i = 0 ∧ 1 < x.length then 0 else 1) ∧ ∀ r, Ev (fun k => impl_TraceFrom.j2 k x out (i : Int) (rd x (i : Int)) m x (x.length : Int) (i : Int)) r → Ev (fun k => impl_TraceFrom.l0 k x out x (x.length : Int) (i : Int)) r := by
      by_cases c0 : (i : Int) = 0
      · by_cases c1 : (x.length : Int) > 1
        · refine ⟨0, (if_pos ⟨by omega, by omega⟩).symm, fun r hr => ?_⟩
          refine c_next ?_
          simp only [impl_TraceFrom.l0]
          refine c_if_pos (by omega) (c_if_pos (by omega) (c_if_pos (by omega) (c_if_pos c0 (c_next ?_))))
          simp only [impl_TraceFrom.j1]
          exact c_if_pos (by simp; omega) hr
        · refine ⟨1, (if_neg (by omega)).symm, fun r hr => ?_⟩
          refine c_next ?_
          simp only [impl_TraceFrom.l0]
          refine c_if_pos (by omega) (c_if_pos (by omega) (c_if_pos (by omega) (c_if_pos c0 (c_next ?_))))
          simp only [impl_TraceFrom.j1]
          exact c_if_neg (by simp; omega) hr
      · refine ⟨1, (if_neg (by omega)).symm, fun r hr => ?_⟩
        refine c_next ?_
        simp only [impl_TraceFrom.l0]
        refine c_if_pos (by omega) (c_if_pos (by omega) (c_if_pos (by omega) (c_if_neg c0 (c_next ?_))))
        simp only [impl_TraceFrom.j1]
        exact c_if_neg (by simp) hr
    by_cases g : m ≤ rd x (i : Int) ∧ rd x (i : Int) ≤ 200 - (out.length : Int)
    · have hm0 : 0 ≤ m := by rw [hm]; split <;> omega
      obtain ⟨n, hn⟩ : ∃ n : Nat, (n : Int) = rd x (i : Int) := ⟨(rd x (i : Int)).toNat, by omega⟩
      obtain ⟨y, b, hy, hs, hi⟩ := tf_both x hx d (i + 1) (out ++ List.replicate n ((Int.tmod (i : Int) 2) == 1)) (by omega) (by simp; omega)
      refine ⟨y, b, hy, ?_, hmi _ ?_⟩
      · refine c_next ?_
        simp only [spec_TraceFrom.l0, ew]
        refine c_if_pos (by omega) (c_if_pos (by omega) (c_bind1 true (by rw [tf_l1]; simp; omega) (c_if_pos rfl ?_)))
        have hgo : Ev (fun k => spec_TraceFrom.j1 k x out (i : Int) false) (y, b) := by
          refine c_next ?_
          simp only [spec_TraceFrom.j1]
          exact c_if_neg (by simp) (tf_spec_in x hx i (by omega) _ rfl _ n 0 out (by omega) (by omega) (by omega) hs)
        by_cases z : rd x (i : Int) = 0
        · have hc : i = 0 ∧ 1 < x.length := by
            rcases Classical.em (i = 0 ∧ 1 < x.length) with hc | hc
            · exact hc
            · rw [if_neg hc] at hm
              omega
          refine c_if_pos z (c_if_neg (by omega) ?_)
          rw [show ((x.length : Int) == 1) = false from by simp; omega]
          exact hgo
        · exact c_if_neg z hgo
      · refine c_next ?_
        simp only [impl_TraceFrom.j2, ew]
        refine c_bind1 true (by rw [tf_in]; simp; omega) (c_if_pos rfl ?_)
        exact tf_impl_in x hx i _ rfl _ _ n 0 out (by omega) (by omega) (by omega) (by omega) hi
    · refine ⟨[], false, by simp, ?_, hmi _ ?_⟩
      · refine c_next ?_
        simp only [spec_TraceFrom.l0, ew]
        have hbad : Ev (fun k => spec_TraceFrom.j1 k x out (i : Int) true) (([] : List Bool), false) := by
          refine c_next ?_
          simp only [spec_TraceFrom.j1]
          exact c_if_pos trivial (Ev.now _)
        by_cases z1 : 0 ≤ rd x (i : Int) ∧ rd x (i : Int) ≤ 200 - (out.length : Int)
        · refine c_if_pos (by omega) (c_if_pos (by omega) (c_bind1 true (by rw [tf_l1]; simp; omega) (c_if_pos rfl ?_)))
          have hc : ¬ (i = 0 ∧ 1 < x.length) := by
            intro hc
            rw [if_pos hc] at hm
            omega
          rw [if_neg hc] at hm
          refine c_if_pos (by omega) ?_
          by_cases z2 : (i : Int) > 0
          · exact c_if_pos z2 hbad
          · refine c_if_neg z2 ?_
            rw [show ((x.length : Int) == 1) = true from by simp; omega]
            exact hbad
        · exact c_if_pos (by omega) (c_if_pos (by omega) (c_bind1 false (by rw [tf_l1]; simp; omega) (c_if_neg (by simp) hbad)))
      · refine c_next ?_
        simp only [impl_TraceFrom.j2, ew]
        exact c_bind1 false (by rw [tf_in]; simp; omega) (c_if_neg (by simp) (Ev.now _))
theorem FnExactTraceFrom : ∀ (l0 : List Int), (l0.length ≤ maxLen ∧ ∀ y2 ∈ l0, (Lit.int .i64 y2).wf = true) → ∃ k, laws_FnExactTraceFrom.f k l0 = some true := by
  intro x hx
  refine Ev.rounds (r := true) ?_
  unfold laws_FnExactTraceFrom.f
  by_cases cx : (x.length : Int) > 1048576
  · exact c_if_pos cx (Ev.now true)
  obtain ⟨y, b, hy, hs, hi⟩ := tf_both x (by omega) x.length 0 [] (by omega) (by simp)
  refine c_if_neg (by omega) ?_
  refine c_bind _ (c_toIntS_ev x (by omega)) ?_
  refine c_bind _ (hs) ?_
  refine c_bind _ (c_toIntS_ev x (by omega)) ?_
  refine c_bind _ (hi) ?_
  refine c_bind _ (c_eqBoolS_ev y (by omega)) ?_
  refine c_if_pos rfl ?_
  refine c_next ?_
  simp only [laws_FnExactTraceFrom.j0]
  refine c_if_neg (by simp) ?_
  refine c_bind _ (c_toIntS_ev x (by omega)) ?_
  refine c_bind _ (c_eqIntS_ev x (by omega)) ?_
  refine c_if_pos rfl ?_
  refine c_bind _ (c_laws_markIntS_ev x (1) (by omega) (by omega)) ?_
  refine c_if_neg (by simp only; omega) ?_
  refine c_bind _ (c_eqBoolS_ev y (by omega)) ?_
  refine c_if_pos rfl ?_
  refine c_next ?_
  simp only [laws_FnExactTraceFrom.j1]
  refine c_if_neg (by simp) ?_
  refine c_bind _ (c_laws_markBoolS_w_ev y (1) (by omega) (by omega)) ?_
  refine c_bind _ (c_heldBool_ev (1) (y.length) (by omega) (by omega)) ?_
  refine c_if_neg (by omega) ?_
  refine c_if_pos rfl ?_
  refine c_bind _ (c_toIntS_ev x (by omega)) ?_
  refine c_bind _ (hi) ?_
  refine c_bind _ (c_eqBoolS_ev y (by omega)) ?_
  refine c_if_pos rfl ?_
  refine c_next ?_
  simp only [laws_FnExactTraceFrom.j2]
  refine c_if_neg (by simp) ?_
  refine c_bind _ (c_heldBool_ev (1) (y.length) (by omega) (by omega)) ?_
  refine c_if_neg (by omega) ?_
  refine c_if_pos rfl ?_
  exact Ev.now true

end Go.Proofs.Ytdbbdikkboppnaa.Pure
