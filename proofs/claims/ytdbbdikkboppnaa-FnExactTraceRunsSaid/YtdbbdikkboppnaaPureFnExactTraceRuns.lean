/- For every trace of bools the law of TraceRuns answers true (no condition beyond the reach of the argument). -/
import Derived.Test.YtdbbdikkboppnaaQFnExactTraceRunsx3
namespace Go.Proofs.Ytdbbdikkboppnaa.Pure
open Go.RowKit Go.Proofs.Ytdbbdikkboppnaa.QFnExactTraceRuns Go.Proofs.YtdbbdikkboppnaaW.PrintWords Go.Proofs.YtdbbdikkboppnaaW.PrintLast Go.Proofs.YtdbbdikkboppnaaW.PrintMore
set_option linter.unusedVariables false
set_option linter.unusedSimpArgs false

theorem c_ev_det {α : Type} {g : Nat → Option α} {r r' : α} (h : Ev g r) (h' : Ev g r') : r = r' := by
  obtain ⟨K, h⟩ := h
  obtain ⟨K', h'⟩ := h'
  have h1 := h (max K K') (by omega)
  have h2 := h' (max K K') (by omega)
  rw [h1] at h2
  exact Option.some.inj h2
theorem c_w64 {x : Int} (h0 : -9223372036854775808 ≤ x) (h1 : x ≤ 9223372036854775807) : wrap64 x = x := by
  unfold wrap64
  omega
theorem c_succ (i : Nat) (h : i < 9223372036854775807) : wrap64 ((i : Int) + 1) = ((i + 1 : Nat) : Int) := by
  unfold wrap64
  omega
theorem c_take_set {α : Type} (x acc : List α) (v : α) (i : Nat) (hv : x[i]? = some v) (hl : acc.length = x.length) (ht : acc.take i = x.take i) : (acc.set i v).take (i + 1) = x.take (i + 1) := by
  have hi : i < x.length := (List.getElem?_eq_some_iff.1 hv).1
  apply List.ext_getElem?
  intro j
  have hj := congrArg (fun l => l[j]?) ht
  simp only [List.getElem?_take] at hj
  rw [List.getElem?_take, List.getElem?_take]
  by_cases h1 : j < i + 1
  · rw [if_pos h1, if_pos h1]
    by_cases h2 : j < i
    · rw [if_pos h2, if_pos h2] at hj
      rw [List.getElem?_set_ne (by omega)]
      exact hj
    · have : j = i := by omega
      subst this
      rw [List.getElem?_set_self (by omega), hv]
  · rw [if_neg h1, if_neg h1]
theorem c_getD {α : Type} (x : List α) (d : α) (i : Nat) (h : i < x.length) : x[i]? = some (x.getD i d) := by
  rw [List.getD_eq_getElem?_getD, List.getElem?_eq_getElem h]
  rfl
theorem c_if_pos {α : Type} {c : Prop} [Decidable c] {g f : Nat → Option α} {r : α} (h : c) (k : Ev g r) : Ev (fun n => if c then g n else f n) r := Ev.congr (fun _ => if_pos h) k
theorem c_if_neg {α : Type} {c : Prop} [Decidable c] {g f : Nat → Option α} {r : α} (h : ¬ c) (k : Ev f r) : Ev (fun n => if c then g n else f n) r := Ev.congr (fun _ => if_neg h) k
theorem c_bind {α β : Type} {g : Nat → Option α} {f : Nat → α → Option β} (a : α) {r : β} (h : Ev g a) (k : Ev (fun n => f n a) r) : Ev (fun n => (g n).bind (f n)) r := Ev.bind h k
theorem c_bind1 {α β : Type} {g : Option α} {f : Nat → α → Option β} (a : α) {r : β} (h : g = some a) (k : Ev (fun n => f n a) r) : Ev (fun n => g.bind (f n)) r := Ev.congr (fun n => by rw [h]; rfl) k

theorem c_next {α : Type} {g : Nat → Option α} {r : α} (h : Ev (fun k => g (k + 1)) r) : Ev g r := Ev.step (fun _ => rfl) h


theorem c_toBoolS_l (x : List Bool) (hn : x.length < 4611686018427387904) : ∀ (d : Nat) (acc : List Bool) (i : Nat), acc.length = x.length → i + d = x.length → acc.take i = x.take i → Ev (fun k => laws_toBoolS.l0 k x acc (i : Int)) x
  | 0, acc, i, hl, hi, ht => by
    have e : acc = x := by
      rw [List.take_of_length_le (by omega), List.take_of_length_le (by omega)] at ht
      exact ht
    subst e
    exact Ev.step (f := fun _ => some acc) (fun k => by simp only [laws_toBoolS.l0]; rw [if_neg (by omega)]) (Ev.now _)
  | d + 1, acc, i, hl, hi, ht => by
    refine Ev.step (f := fun k => laws_toBoolS.l0 k x (acc.set i (x.getD i false)) ((i + 1 : Nat) : Int)) (fun k => ?_) (c_toBoolS_l x hn d _ (i + 1) (by rw [List.length_set]; exact hl) (by omega) (c_take_set x acc _ i (c_getD x false i (by omega)) hl ht))
    simp only [laws_toBoolS.l0]
    rw [if_pos (by omega), if_pos (by omega), if_pos (by omega), c_succ i (by omega)]
    simp only [rdOf, Int.toNat_natCast]
theorem c_toBoolS_ev (x : List Bool) (hn : x.length ≤ 1048576) : Ev (fun k => laws_toBoolS.f k x) x := by
  unfold laws_toBoolS.f
  refine c_if_pos (by omega) (c_if_pos (by omega) ?_)
  refine c_toBoolS_l x (by omega) x.length _ 0 (by simp) (by omega) (by simp)


theorem c_eqBoolS_l (x : List Bool) (hn : x.length < 4611686018427387904) : ∀ (d : Nat) (i : Nat), i + d = x.length → Ev (fun k => laws_eqBoolS.l0 k x x (i : Int)) true
  | 0, i, hi => Ev.step (f := fun _ => some true) (fun k => by simp only [laws_eqBoolS.l0]; rw [if_neg (by omega)]) (Ev.now _)
  | d + 1, i, hi => by
    refine Ev.step (f := fun k => laws_eqBoolS.l0 k x x ((i + 1 : Nat) : Int)) (fun k => ?_) (c_eqBoolS_l x hn d (i + 1) (by omega))
    simp only [laws_eqBoolS.l0]
    rw [if_pos (by omega), if_pos (by omega), if_pos (by omega), if_neg (by simp), c_succ i (by omega)]
theorem c_eqBoolS_ev (x : List Bool) (hn : x.length < 4611686018427387904) : Ev (fun k => laws_eqBoolS.f k x x) true := by
  unfold laws_eqBoolS.f
  exact c_if_pos rfl (c_eqBoolS_l x hn x.length 0 (by omega))


theorem c_eqIntS_l (x : List Int) (hn : x.length < 4611686018427387904) : ∀ (d : Nat) (i : Nat), i + d = x.length → Ev (fun k => laws_eqIntS.l0 k x x (i : Int)) true
  | 0, i, hi => Ev.step (f := fun _ => some true) (fun k => by simp only [laws_eqIntS.l0]; rw [if_neg (by omega)]) (Ev.now _)
  | d + 1, i, hi => by
    refine Ev.step (f := fun k => laws_eqIntS.l0 k x x ((i + 1 : Nat) : Int)) (fun k => ?_) (c_eqIntS_l x hn d (i + 1) (by omega))
    simp only [laws_eqIntS.l0]
    rw [if_pos (by omega), if_pos (by omega), if_pos (by omega), if_pos trivial, c_succ i (by omega)]
theorem c_eqIntS_ev (x : List Int) (hn : x.length < 4611686018427387904) : Ev (fun k => laws_eqIntS.f k x x) true := by
  unfold laws_eqIntS.f
  exact c_if_pos rfl (c_eqIntS_l x hn x.length 0 (by omega))


def c_mkInt (m : Int) (n : Nat) : List Int := (List.range n).map fun (j : Nat) => ((m + (j : Int)))
theorem c_mkInt_len (m : Int) (n : Nat) : (c_mkInt m n).length = n := by simp [c_mkInt]
theorem c_mkInt_at (m : Int) (n i : Nat) (h : i < n) : (c_mkInt m n)[i]? = some ((m + (i : Int))) := by simp [c_mkInt, h]
theorem c_heldInt_l (m : Int) (n : Nat) (hm : 0 ≤ m) (hb : m + n < 4611686018427387904) : ∀ (d i : Nat), i + d = n → Ev (fun k => laws_heldIntS.l0 k (c_mkInt m n) (m + i) (i : Int)) (m + n)
  | 0, i, hi => by
    have ei : i = n := by omega
    subst ei
    refine Ev.step (f := fun _ => some (m + i)) (fun k => ?_) (Ev.now _)
    simp only [laws_heldIntS.l0, c_mkInt_len]
    rw [if_neg (by omega)]
  | d + 1, i, hi => by
    refine Ev.step (f := fun k => laws_heldIntS.l0 k (c_mkInt m n) (m + ((i + 1 : Nat) : Int)) ((i + 1 : Nat) : Int)) (fun k => ?_) (c_heldInt_l m n hm hb d (i + 1) (by omega))
    have hrd : rd (c_mkInt m n) (i : Int) = ((m + (i : Int))) := by
      simp only [rd, Int.toNat_natCast]
      rw [List.getD_eq_getElem?_getD, c_mkInt_at m n i (by omega)]
      rfl
    simp only [laws_heldIntS.l0, c_mkInt_len]
    rw [if_pos (by omega), if_pos (by omega), if_pos hrd, c_succ i (by omega), c_w64 (x := m + i + 1) (by omega) (by omega), show m + (i : Int) + 1 = m + ((i + 1 : Nat) : Int) from by omega]
theorem c_heldInt_ev (m : Int) (n : Nat) (hm : 0 ≤ m) (hb : m + n < 4611686018427387904) : Ev (fun k => laws_heldIntS.f k (c_mkInt m n) m) (m + n) := by
  have := c_heldInt_l m n hm hb n 0 (by omega)
  rw [show m + ((0 : Nat) : Int) = m from by omega] at this
  exact this


theorem c_laws_markIntS_w_l (m : Int) (n : Nat) (hm : 0 ≤ m) (hb : m + n < 4611686018427387904) : ∀ (d : Nat) (acc : List Int) (i : Nat), acc.length = n → i + d = n → acc.take i = (c_mkInt m n).take i → Ev (fun k => laws_markIntS_w.l0 k acc (m + i) (i : Int)) (m + n, c_mkInt m n)
  | 0, acc, i, hl, hi, ht => by
    have e : acc = c_mkInt m n := by
      rw [List.take_of_length_le (by omega), List.take_of_length_le (by rw [c_mkInt_len]; omega)] at ht
      exact ht
    have ei : i = n := by omega
    subst ei
    refine Ev.step (f := fun _ => some (m + i, c_mkInt m i)) (fun k => ?_) (Ev.now _)
    simp only [laws_markIntS_w.l0]
    rw [if_neg (by omega), e]
  | d + 1, acc, i, hl, hi, ht => by
    refine Ev.step (f := fun k => laws_markIntS_w.l0 k (acc.set i ((m + i))) (m + ((i + 1 : Nat) : Int)) ((i + 1 : Nat) : Int)) (fun k => ?_) (c_laws_markIntS_w_l m n hm hb d _ (i + 1) (by rw [List.length_set]; exact hl) (by omega) (c_take_set (c_mkInt m n) acc _ i (c_mkInt_at m n i (by omega)) (by rw [hl, c_mkInt_len]) ht))
    simp only [laws_markIntS_w.l0]
    rw [if_pos (by omega), if_pos (by omega), c_succ i (by omega), Int.toNat_natCast, c_w64 (x := m + i + 1) (by omega) (by omega), show m + (i : Int) + 1 = m + ((i + 1 : Nat) : Int) from by omega]
theorem c_laws_markIntS_w_ev (l : List Int) (m : Int) (hm : 0 ≤ m) (hb : m + l.length < 4611686018427387904) : Ev (fun k => laws_markIntS_w.f k l m) (m + l.length, c_mkInt m l.length) := by
  have := c_laws_markIntS_w_l m l.length hm hb l.length l 0 rfl (by omega) (by simp)
  rw [show m + ((0 : Nat) : Int) = m from by omega] at this
  exact this


def c_mkBool (m : Int) (n : Nat) : List Bool := (List.range n).map fun (j : Nat) => (Int.tmod (m + (j : Int)) 3 == 0)
theorem c_mkBool_len (m : Int) (n : Nat) : (c_mkBool m n).length = n := by simp [c_mkBool]
theorem c_mkBool_at (m : Int) (n i : Nat) (h : i < n) : (c_mkBool m n)[i]? = some (Int.tmod (m + (i : Int)) 3 == 0) := by simp [c_mkBool, h]


theorem c_laws_markBoolS_l (m : Int) (n : Nat) (hm : 0 ≤ m) (hb : m + n < 4611686018427387904) : ∀ (d : Nat) (acc : List Bool) (i : Nat), acc.length = n → i + d = n → acc.take i = (c_mkBool m n).take i → Ev (fun k => laws_markBoolS.l0 k acc (m + i) (i : Int)) (m + n, c_mkBool m n)
  | 0, acc, i, hl, hi, ht => by
    have e : acc = c_mkBool m n := by
      rw [List.take_of_length_le (by omega), List.take_of_length_le (by rw [c_mkBool_len]; omega)] at ht
      exact ht
    have ei : i = n := by omega
    subst ei
    refine Ev.step (f := fun _ => some (m + i, c_mkBool m i)) (fun k => ?_) (Ev.now _)
    simp only [laws_markBoolS.l0]
    rw [if_neg (by omega), e]
  | d + 1, acc, i, hl, hi, ht => by
    refine Ev.step (f := fun k => laws_markBoolS.l0 k (acc.set i (Int.tmod (m + i) 3 == 0)) (m + ((i + 1 : Nat) : Int)) ((i + 1 : Nat) : Int)) (fun k => ?_) (c_laws_markBoolS_l m n hm hb d _ (i + 1) (by rw [List.length_set]; exact hl) (by omega) (c_take_set (c_mkBool m n) acc _ i (c_mkBool_at m n i (by omega)) (by rw [hl, c_mkBool_len]) ht))
    simp only [laws_markBoolS.l0]
    rw [if_pos (by omega), if_pos (by omega), c_succ i (by omega), Int.toNat_natCast, c_w64 (x := m + i + 1) (by omega) (by omega), show m + (i : Int) + 1 = m + ((i + 1 : Nat) : Int) from by omega]
theorem c_laws_markBoolS_ev (l : List Bool) (m : Int) (hm : 0 ≤ m) (hb : m + l.length < 4611686018427387904) : Ev (fun k => laws_markBoolS.f k l m) (m + l.length, c_mkBool m l.length) := by
  have := c_laws_markBoolS_l m l.length hm hb l.length l 0 rfl (by omega) (by simp)
  rw [show m + ((0 : Nat) : Int) = m from by omega] at this
  exact this

theorem tr_last (l : List Int) (v : Int) : rd (l ++ [v]) (l.length : Int) = v := by simp [rd]
theorem tr_set (l : List Int) (v w : Int) : (l ++ [v]).set l.length w = l ++ [w] := by simp
theorem tr_len (l : List Int) (v : Int) (h : l.length < 1000000) : wrap64 (((l ++ [v]).length : Int) - 1) = l.length := by
  rw [List.length_append, List.length_singleton]
  unfold wrap64
  omega
theorem tr_both (x : List Bool) (h1 : 1 ≤ x.length) (h2 : x.length ≤ 200) : ∀ (d i : Nat) (out : List Int) (b : Bool) (m : Int), i + d = x.length → out.length ≤ i → 0 ≤ m → m ≤ i →
    ∃ y : List Int, y.length ≤ 1000 ∧ Ev (fun k => spec_TraceRuns.l0 k x out b m (i : Int)) y ∧ Ev (fun k => impl_TraceRuns.l0 k (out ++ [m]) b x (x.length : Int) (i : Int)) y
  | 0, i, out, b, m, h, ho, hm0, hm => by
    refine ⟨out ++ [m], by simp; omega, ?_, ?_⟩
    · refine c_next ?_
      simp only [spec_TraceRuns.l0]
      exact c_if_neg (by omega) (c_if_pos (by omega) (c_if_pos (by omega) (Ev.now _)))
    · refine c_next ?_
      simp only [impl_TraceRuns.l0, impl_clone_int.f]
      refine c_if_neg (by omega) (c_bind1 (out ++ [m]) (if_pos (by simp; omega)) (Ev.now _))
  | d + 1, i, out, b, m, h, ho, hm0, hm => by
    by_cases c : ((rdOf false x (i : Int)) != b) = true
    · obtain ⟨y, hy, hs, hi⟩ := tr_both x h1 h2 d (i + 1) (out ++ [m]) (rdOf false x (i : Int)) 1 (by omega) (by simp; omega) (by omega) (by omega)
      refine ⟨y, hy, ?_, ?_⟩
      · refine c_next ?_
        simp only [spec_TraceRuns.l0]
        rw [c_succ i (by omega)]
        exact c_if_pos (by omega) (c_if_pos (by omega) (c_if_pos c (c_if_pos (by omega) hs)))
      · refine c_next ?_
        simp only [impl_TraceRuns.l0]
        rw [c_succ i (by omega)]
        refine c_if_pos (by omega) (c_if_pos (by omega) (c_if_pos (by omega) (c_if_pos c (c_if_pos (by simp; omega) (c_bind1 (out ++ [m] ++ [0]) rfl ?_)))))
        simp only [tr_len (out ++ [m]) 0 (by simp; omega), tr_last (out ++ [m]) 0, Int.toNat_natCast, tr_set, show wrap64 (0 + 1) = 1 from by unfold wrap64; omega]
        refine c_if_pos (by omega) (c_if_pos (by simp only [List.length_append, List.length_singleton]; omega) ?_)
        exact hi
    · obtain ⟨y, hy, hs, hi⟩ := tr_both x h1 h2 d (i + 1) out b (m + 1) (by omega) (by omega) (by omega) (by omega)
      have ew : wrap64 (m + 1) = m + 1 := c_w64 (by omega) (by omega)
      refine ⟨y, hy, ?_, ?_⟩
      · refine c_next ?_
        simp only [spec_TraceRuns.l0]
        rw [c_succ i (by omega), ew]
        exact c_if_pos (by omega) (c_if_pos (by omega) (c_if_neg c hs))
      · refine c_next ?_
        simp only [impl_TraceRuns.l0]
        rw [c_succ i (by omega)]
        refine c_if_pos (by omega) (c_if_pos (by omega) (c_if_pos (by omega) (c_if_neg c ?_)))
        simp only [tr_len out m (by omega), tr_last out m, Int.toNat_natCast, tr_set, ew]
        refine c_if_pos (by omega) (c_if_pos (by simp only [List.length_append, List.length_singleton]; omega) ?_)
        exact hi
theorem tr_in (a b c : Int) : impl_in.f a b c = some (decide (b ≤ a ∧ a ≤ c)) := by
  unfold impl_in.f
  by_cases h : a ≥ b
  · rw [if_pos h]
    simp [h]
  · rw [if_neg h]
    simp [h]
theorem tr_all (x : List Bool) (hx : x.length ≤ 1048576) : ∃ y : List Int, y.length ≤ 1000 ∧ Ev (fun k => spec_TraceRuns.f k x) y ∧ Ev (fun k => impl_TraceRuns.f k x) y := by
  unfold spec_TraceRuns.f impl_TraceRuns.f
  by_cases c0 : (x.length : Int) > 200
  · refine ⟨[], by simp, c_bind1 [] rfl (c_if_pos c0 (Ev.now [])), c_bind1 false (by rw [tr_in]; simp; omega) (c_if_neg (by simp) (Ev.now []))⟩
  by_cases c1 : x.length = 0
  · refine ⟨[], by simp, c_bind1 [] rfl (c_if_neg c0 ?_), c_bind1 false (by rw [tr_in]; simp; omega) (c_if_neg (by simp) (Ev.now []))⟩
    refine c_next ?_
    simp only [spec_TraceRuns.l0]
    exact c_if_neg (by omega) (c_if_neg (by omega) (Ev.now []))
  obtain ⟨y, hy, hs, hi⟩ := tr_both x (by omega) (by omega) x.length 0 [] false 0 (by omega) (by simp) (by omega) (by omega)
  exact ⟨y, hy, c_bind1 [] rfl (c_if_neg c0 hs), c_bind1 true (by rw [tr_in]; simp; omega) (c_if_pos rfl hi)⟩
theorem FnExactTraceRuns : ∀ (l0 : List Bool), (l0.length ≤ maxLen ∧ ∀ y2 ∈ l0, True) → ∃ k, laws_FnExactTraceRuns.f k l0 = some true := by
  intro x hx
  refine Ev.rounds (r := true) ?_
  unfold laws_FnExactTraceRuns.f
  by_cases cx : (x.length : Int) > 1048576
  · exact c_if_pos cx (Ev.now true)
  obtain ⟨y, hy, hs, hi⟩ := tr_all x (by omega)
  refine c_if_neg (by omega) ?_
  refine c_bind _ (c_toBoolS_ev x (by omega)) ?_
  refine c_bind _ (hs) ?_
  refine c_bind _ (c_toBoolS_ev x (by omega)) ?_
  refine c_bind _ (hi) ?_
  refine c_bind _ (c_eqIntS_ev y (by omega)) ?_
  refine c_if_pos rfl ?_
  refine c_bind _ (c_toBoolS_ev x (by omega)) ?_
  refine c_bind _ (c_eqBoolS_ev x (by omega)) ?_
  refine c_if_pos rfl ?_
  refine c_bind _ (c_laws_markBoolS_ev x (1) (by omega) (by omega)) ?_
  refine c_if_neg (by simp only; omega) ?_
  refine c_bind _ (c_eqIntS_ev y (by omega)) ?_
  refine c_next ?_
  simp only [laws_FnExactTraceRuns.j0]
  refine c_if_neg (by simp) ?_
  refine c_bind _ (c_laws_markIntS_w_ev y (1) (by omega) (by omega)) ?_
  refine c_bind _ (c_heldInt_ev (1) (y.length) (by omega) (by omega)) ?_
  refine c_if_neg (by omega) ?_
  refine c_if_pos rfl ?_
  refine c_bind _ (c_toBoolS_ev x (by omega)) ?_
  refine c_bind _ (hi) ?_
  refine c_bind _ (c_eqIntS_ev y (by omega)) ?_
  refine c_if_pos rfl ?_
  refine c_bind _ (c_heldInt_ev (1) (y.length) (by omega) (by omega)) ?_
  refine c_if_neg (by omega) ?_
  refine c_if_pos rfl ?_
  exact Ev.now true

end Go.Proofs.Ytdbbdikkboppnaa.Pure
