/- For every trace and all three integers the law of TraceWindow answers true (no condition beyond the kinds and the reach of the arguments). -/
import Derived.Test.YtdbbdikkboppnaaQFnExactTraceWindowx2
namespace Go.Proofs.Ytdbbdikkboppnaa.Pure
open Go.RowKit Go.Proofs.Ytdbbdikkboppnaa.QFnExactTraceWindow Go.Proofs.YtdbbdikkboppnaaW.PrintWords Go.Proofs.YtdbbdikkboppnaaW.PrintLast Go.Proofs.YtdbbdikkboppnaaW.PrintMore
set_option linter.unusedVariables false
set_option linter.unusedSimpArgs false

theorem c_ev_det {α : Type} {g : Nat → Option α} {r r' : α} (h : Ev g r) (h' : Ev g r') : r = r' := by
  obtain ⟨K, h⟩ := h
  obtain ⟨K', h'⟩ := h'
  have h1 := h (max K K') (by omega)
  have h2 := h' (max K K') (by omega)
  rw [h1] at h2
  exact Option.some.inj h2
theorem c_w64 {x : Int} (h0 : -9223372036854775808 ≤ x) (h1 : x ≤ 9223372036854775807) : wrap64 x = x := by
  unfold wrap64
  omega
theorem c_succ (i : Nat) (h : i < 9223372036854775807) : wrap64 ((i : Int) + 1) = ((i + 1 : Nat) : Int) := by
  unfold wrap64
  omega
theorem c_take_set {α : Type} (x acc : List α) (v : α) (i : Nat) (hv : x[i]? = some v) (hl : acc.length = x.length) (ht : acc.take i = x.take i) : (acc.set i v).take (i + 1) = x.take (i + 1) := by
  have hi : i < x.length := (List.getElem?_eq_some_iff.1 hv).1
  apply List.ext_getElem?
  intro j
  have hj := congrArg (fun l => l[j]?) ht
  simp only [List.getElem?_take] at hj
  rw [List.getElem?_take, List.getElem?_take]
  by_cases h1 : j < i + 1
  · rw [if_pos h1, if_pos h1]
    by_cases h2 : j < i
    · rw [if_pos h2, if_pos h2] at hj
      rw [List.getElem?_set_ne (by omega)]
      exact hj
    · have : j = i := by omega
      subst this
      rw [List.getElem?_set_self (by omega), hv]
  · rw [if_neg h1, if_neg h1]
theorem c_getD {α : Type} (x : List α) (d : α) (i : Nat) (h : i < x.length) : x[i]? = some (x.getD i d) := by
  rw [List.getD_eq_getElem?_getD, List.getElem?_eq_getElem h]
  rfl
theorem c_if_pos {α : Type} {c : Prop} [Decidable c] {g f : Nat → Option α} {r : α} (h : c) (k : Ev g r) : Ev (fun n => if c then g n else f n) r := Ev.congr (fun _ => if_pos h) k
theorem c_if_neg {α : Type} {c : Prop} [Decidable c] {g f : Nat → Option α} {r : α} (h : ¬ c) (k : Ev f r) : Ev (fun n => if c then g n else f n) r := Ev.congr (fun _ => if_neg h) k
theorem c_bind {α β : Type} {g : Nat → Option α} {f : Nat → α → Option β} (a : α) {r : β} (h : Ev g a) (k : Ev (fun n => f n a) r) : Ev (fun n => (g n).bind (f n)) r := Ev.bind h k
theorem c_bind1 {α β : Type} {g : Option α} {f : Nat → α → Option β} (a : α) {r : β} (h : g = some a) (k : Ev (fun n => f n a) r) : Ev (fun n => g.bind (f n)) r := Ev.congr (fun n => by rw [h]; rfl) k

theorem c_next {α : Type} {g : Nat → Option α} {r : α} (h : Ev (fun k => g (k + 1)) r) : Ev g r := Ev.step (fun _ => rfl) h


theorem c_toBoolS_l (x : List Bool) (hn : x.length < 4611686018427387904) : ∀ (d : Nat) (acc : List Bool) (i : Nat), acc.length = x.length → i + d = x.length → acc.take i = x.take i → Ev (fun k => laws_toBoolS.l0 k x acc (i : Int)) x
  | 0, acc, i, hl, hi, ht => by
    have e : acc = x := by
      rw [List.take_of_length_le (by omega), List.take_of_length_le (by omega)] at ht
      exact ht
    subst e
    exact Ev.step (f := fun _ => some acc) (fun k => by simp only [laws_toBoolS.l0]; rw [if_neg (by omega)]) (Ev.now _)
  | d + 1, acc, i, hl, hi, ht => by
    refine Ev.step (f := fun k => laws_toBoolS.l0 k x (acc.set i (x.getD i false)) ((i + 1 : Nat) : Int)) (fun k => ?_) (c_toBoolS_l x hn d _ (i + 1) (by rw [List.length_set]; exact hl) (by omega) (c_take_set x acc _ i (c_getD x false i (by omega)) hl ht))
    simp only [laws_toBoolS.l0]
    rw [if_pos (by omega), if_pos (by omega), if_pos (by omega), c_succ i (by omega)]
    simp only [rdOf, Int.toNat_natCast]
theorem c_toBoolS_ev (x : List Bool) (hn : x.length ≤ 1048576) : Ev (fun k => laws_toBoolS.f k x) x := by
  unfold laws_toBoolS.f
  refine c_if_pos (by omega) (c_if_pos (by omega) ?_)
  refine c_toBoolS_l x (by omega) x.length _ 0 (by simp) (by omega) (by simp)


theorem c_eqBoolS_l (x : List Bool) (hn : x.length < 4611686018427387904) : ∀ (d : Nat) (i : Nat), i + d = x.length → Ev (fun k => laws_eqBoolS.l0 k x x (i : Int)) true
  | 0, i, hi => Ev.step (f := fun _ => some true) (fun k => by simp only [laws_eqBoolS.l0]; rw [if_neg (by omega)]) (Ev.now _)
  | d + 1, i, hi => by
    refine Ev.step (f := fun k => laws_eqBoolS.l0 k x x ((i + 1 : Nat) : Int)) (fun k => ?_) (c_eqBoolS_l x hn d (i + 1) (by omega))
    simp only [laws_eqBoolS.l0]
    rw [if_pos (by omega), if_pos (by omega), if_pos (by omega), if_neg (by simp), c_succ i (by omega)]
theorem c_eqBoolS_ev (x : List Bool) (hn : x.length < 4611686018427387904) : Ev (fun k => laws_eqBoolS.f k x x) true := by
  unfold laws_eqBoolS.f
  exact c_if_pos rfl (c_eqBoolS_l x hn x.length 0 (by omega))


def c_mkBool (m : Int) (n : Nat) : List Bool := (List.range n).map fun (j : Nat) => (Int.tmod (m + (j : Int)) 3 == 0)
theorem c_mkBool_len (m : Int) (n : Nat) : (c_mkBool m n).length = n := by simp [c_mkBool]
theorem c_mkBool_at (m : Int) (n i : Nat) (h : i < n) : (c_mkBool m n)[i]? = some (Int.tmod (m + (i : Int)) 3 == 0) := by simp [c_mkBool, h]
theorem c_heldBool_l (m : Int) (n : Nat) (hm : 0 ≤ m) (hb : m + n < 4611686018427387904) : ∀ (d i : Nat), i + d = n → Ev (fun k => laws_heldBoolS.l0 k (c_mkBool m n) (m + i) (i : Int)) (m + n)
  | 0, i, hi => by
    have ei : i = n := by omega
    subst ei
    refine Ev.step (f := fun _ => some (m + i)) (fun k => ?_) (Ev.now _)
    simp only [laws_heldBoolS.l0, c_mkBool_len]
    rw [if_neg (by omega)]
  | d + 1, i, hi => by
    refine Ev.step (f := fun k => laws_heldBoolS.l0 k (c_mkBool m n) (m + ((i + 1 : Nat) : Int)) ((i + 1 : Nat) : Int)) (fun k => ?_) (c_heldBool_l m n hm hb d (i + 1) (by omega))
    have hrd : rdOf false (c_mkBool m n) (i : Int) = (Int.tmod (m + (i : Int)) 3 == 0) := by
      simp only [rdOf, Int.toNat_natCast]
      rw [List.getD_eq_getElem?_getD, c_mkBool_at m n i (by omega)]
      rfl
    simp only [laws_heldBoolS.l0, c_mkBool_len]
    rw [if_pos (by omega), if_pos (by omega), if_neg (by rw [hrd]; simp), c_succ i (by omega), c_w64 (x := m + i + 1) (by omega) (by omega), show m + (i : Int) + 1 = m + ((i + 1 : Nat) : Int) from by omega]
theorem c_heldBool_ev (m : Int) (n : Nat) (hm : 0 ≤ m) (hb : m + n < 4611686018427387904) : Ev (fun k => laws_heldBoolS.f k (c_mkBool m n) m) (m + n) := by
  have := c_heldBool_l m n hm hb n 0 (by omega)
  rw [show m + ((0 : Nat) : Int) = m from by omega] at this
  exact this


theorem c_laws_markBoolS_l (m : Int) (n : Nat) (hm : 0 ≤ m) (hb : m + n < 4611686018427387904) : ∀ (d : Nat) (acc : List Bool) (i : Nat), acc.length = n → i + d = n → acc.take i = (c_mkBool m n).take i → Ev (fun k => laws_markBoolS.l0 k acc (m + i) (i : Int)) (m + n, c_mkBool m n)
  | 0, acc, i, hl, hi, ht => by
    have e : acc = c_mkBool m n := by
      rw [List.take_of_length_le (by omega), List.take_of_length_le (by rw [c_mkBool_len]; omega)] at ht
      exact ht
    have ei : i = n := by omega
    subst ei
    refine Ev.step (f := fun _ => some (m + i, c_mkBool m i)) (fun k => ?_) (Ev.now _)
    simp only [laws_markBoolS.l0]
    rw [if_neg (by omega), e]
  | d + 1, acc, i, hl, hi, ht => by
    refine Ev.step (f := fun k => laws_markBoolS.l0 k (acc.set i (Int.tmod (m + i) 3 == 0)) (m + ((i + 1 : Nat) : Int)) ((i + 1 : Nat) : Int)) (fun k => ?_) (c_laws_markBoolS_l m n hm hb d _ (i + 1) (by rw [List.length_set]; exact hl) (by omega) (c_take_set (c_mkBool m n) acc _ i (c_mkBool_at m n i (by omega)) (by rw [hl, c_mkBool_len]) ht))
    simp only [laws_markBoolS.l0]
    rw [if_pos (by omega), if_pos (by omega), c_succ i (by omega), Int.toNat_natCast, c_w64 (x := m + i + 1) (by omega) (by omega), show m + (i : Int) + 1 = m + ((i + 1 : Nat) : Int) from by omega]
theorem c_laws_markBoolS_ev (l : List Bool) (m : Int) (hm : 0 ≤ m) (hb : m + l.length < 4611686018427387904) : Ev (fun k => laws_markBoolS.f k l m) (m + l.length, c_mkBool m l.length) := by
  have := c_laws_markBoolS_l m l.length hm hb l.length l 0 rfl (by omega) (by simp)
  rw [show m + ((0 : Nat) : Int) = m from by omega] at this
  exact this


theorem c_laws_markBoolS_w_l (m : Int) (n : Nat) (hm : 0 ≤ m) (hb : m + n < 4611686018427387904) : ∀ (d : Nat) (acc : List Bool) (i : Nat), acc.length = n → i + d = n → acc.take i = (c_mkBool m n).take i → Ev (fun k => laws_markBoolS_w.l0 k acc (m + i) (i : Int)) (m + n, c_mkBool m n)
  | 0, acc, i, hl, hi, ht => by
    have e : acc = c_mkBool m n := by
      rw [List.take_of_length_le (by omega), List.take_of_length_le (by rw [c_mkBool_len]; omega)] at ht
      exact ht
    have ei : i = n := by omega
    subst ei
    refine Ev.step (f := fun _ => some (m + i, c_mkBool m i)) (fun k => ?_) (Ev.now _)
    simp only [laws_markBoolS_w.l0]
    rw [if_neg (by omega), e]
  | d + 1, acc, i, hl, hi, ht => by
    refine Ev.step (f := fun k => laws_markBoolS_w.l0 k (acc.set i (Int.tmod (m + i) 3 == 0)) (m + ((i + 1 : Nat) : Int)) ((i + 1 : Nat) : Int)) (fun k => ?_) (c_laws_markBoolS_w_l m n hm hb d _ (i + 1) (by rw [List.length_set]; exact hl) (by omega) (c_take_set (c_mkBool m n) acc _ i (c_mkBool_at m n i (by omega)) (by rw [hl, c_mkBool_len]) ht))
    simp only [laws_markBoolS_w.l0]
    rw [if_pos (by omega), if_pos (by omega), c_succ i (by omega), Int.toNat_natCast, c_w64 (x := m + i + 1) (by omega) (by omega), show m + (i : Int) + 1 = m + ((i + 1 : Nat) : Int) from by omega]
theorem c_laws_markBoolS_w_ev (l : List Bool) (m : Int) (hm : 0 ≤ m) (hb : m + l.length < 4611686018427387904) : Ev (fun k => laws_markBoolS_w.f k l m) (m + l.length, c_mkBool m l.length) := by
  have := c_laws_markBoolS_w_l m l.length hm hb l.length l 0 rfl (by omega) (by simp)
  rw [show m + ((0 : Nat) : Int) = m from by omega] at this
  exact this

theorem tw_l1 (a b c : Int) : spec_l1In.f a b c = some (decide (b ≤ a ∧ a ≤ c)) := by
  unfold spec_l1In.f
  by_cases h : a ≥ b
  · rw [if_pos h]
    simp [h]
  · rw [if_neg h]
    simp [h]
theorem tw_in (a b c : Int) : impl_in.f a b c = some (decide (b ≤ a ∧ a ≤ c)) := tw_l1 a b c
theorem tw_same (x : List Bool) (hx : x.length ≤ 1048576) (a b c : Int) (hb : b ≤ 9223372036854775807) (hc : c ≤ 9223372036854775807) : ∃ y : List Bool, y.length ≤ x.length ∧ Ev (fun k => spec_TraceWindow.f k x a b c) y ∧ impl_TraceWindow.f x a b c = some y := by
  unfold spec_TraceWindow.f impl_TraceWindow.f
  have hbad : Ev (fun k => spec_TraceWindow.j0 k x a b c true) [] := by
    refine c_next ?_
    simp only [spec_TraceWindow.j0]
    exact c_if_pos trivial (Ev.now [])
  by_cases c0 : (x.length : Int) > 200
  · exact ⟨[], by simp, c_if_pos c0 hbad, if_pos c0⟩
  have e1 : wrap64 ((x.length : Int) - 1) = (x.length : Int) - 1 := by unfold wrap64; omega
  rw [if_neg c0]
  simp only [tw_l1, tw_in, e1, Option.bind_some, decide_eq_true_eq]
  by_cases c1 : 0 ≤ a ∧ a ≤ (x.length : Int) - 1
  · rw [if_pos c1]
    by_cases c2 : b < 0
    · exact ⟨[], by simp, c_if_neg c0 (c_if_pos c1 (c_if_pos c2 hbad)), if_pos c2⟩
    rw [if_neg c2]
    by_cases c3 : c < 0
    · refine ⟨[], by simp, c_if_neg c0 (c_if_pos c1 (c_if_neg c2 ?_)), if_pos c3⟩
      rw [decide_eq_true c3]
      exact hbad
    rw [if_neg c3]
    have em : wrap64 ((x.length : Int) - 1 - a) = (x.length : Int) - 1 - a := by unfold wrap64; omega
    have ea : wrap64 (a - mn b a) = a - mn b a := by unfold wrap64 mn; split <;> omega
    have eb : wrap64 (a + mn c ((x.length : Int) - 1 - a)) = a + mn c ((x.length : Int) - 1 - a) := by unfold wrap64 mn; split <;> omega
    have ec : wrap64 (a + mn c ((x.length : Int) - 1 - a) + 1) = a + mn c ((x.length : Int) - 1 - a) + 1 := by unfold wrap64 mn; split <;> omega
    rw [em, ea, eb, ec, if_pos (by unfold mn; split <;> omega), if_pos (by unfold mn; (repeat' split) <;> omega), if_pos (by unfold mn; split <;> omega)]
    refine ⟨(x.take (a + mn c ((x.length : Int) - 1 - a) + 1).toNat).drop (a - mn b a).toNat, by simp only [List.length_drop, List.length_take]; omega, c_if_neg c0 (c_if_pos c1 (c_if_neg c2 ?_)), ?_⟩
    · rw [decide_eq_false c3]
      refine c_next ?_
      simp only [spec_TraceWindow.j0, e1, em]
      refine c_if_neg (by simp) ?_
      have hl : ∀ p q : Nat, ((x.take p).drop q).length < 140737488355328 := fun p q => by simp only [List.length_drop, List.length_take]; omega
      by_cases d1 : b < a
      · have ga : mn b a = b := by unfold mn; split <;> omega
        have gb : wrap64 (a - b) = a - b := by unfold wrap64; omega
        refine c_if_pos d1 ?_
        by_cases d2 : c < (x.length : Int) - 1 - a
        · have gc : mn c ((x.length : Int) - 1 - a) = c := by unfold mn; split <;> omega
          have gd : wrap64 (a + c) = a + c := by unfold wrap64; omega
          have ge : wrap64 (a + c + 1) = a + c + 1 := by unfold wrap64; omega
          refine c_if_pos d2 (c_bind1 [] rfl ?_)
          simp only [gb, gd, ge, ga, gc, List.nil_append, List.length_nil, Nat.zero_add]
          exact c_if_pos (by omega) (c_if_pos (by omega) (c_if_pos (by omega) (c_if_pos (hl _ _) (Ev.now _))))
        · have gc : mn c ((x.length : Int) - 1 - a) = (x.length : Int) - 1 - a := by unfold mn; split <;> omega
          refine c_if_neg d2 (c_bind1 [] rfl ?_)
          simp only [gb, ga, gc, List.nil_append, List.length_nil, Nat.zero_add, show a + ((x.length : Int) - 1 - a) + 1 = (x.length : Int) from by omega]
          exact c_if_pos (by omega) (c_if_pos (by omega) (c_if_pos (by omega) (c_if_pos (hl _ _) (Ev.now _))))
      · have ga : mn b a = a := by unfold mn; split <;> omega
        refine c_if_neg d1 ?_
        by_cases d2 : c < (x.length : Int) - 1 - a
        · have gc : mn c ((x.length : Int) - 1 - a) = c := by unfold mn; split <;> omega
          have gd : wrap64 (a + c) = a + c := by unfold wrap64; omega
          have ge : wrap64 (a + c + 1) = a + c + 1 := by unfold wrap64; omega
          refine c_if_pos d2 (c_bind1 [] rfl ?_)
          simp only [gd, ge, ga, gc, List.nil_append, List.length_nil, Nat.zero_add, show (a - a).toNat = 0 from by omega]
          exact c_if_pos (by omega) (c_if_pos (by omega) (c_if_pos (hl _ _) (Ev.now _)))
        · have gc : mn c ((x.length : Int) - 1 - a) = (x.length : Int) - 1 - a := by unfold mn; split <;> omega
          refine c_if_neg d2 (c_bind1 [] rfl ?_)
          simp only [ga, gc, List.nil_append, List.length_nil, Nat.zero_add, show (a - a).toNat = 0 from by omega, show a + ((x.length : Int) - 1 - a) + 1 = (x.length : Int) from by omega]
          first
            | exact c_if_pos (by omega) (c_if_pos (hl _ _) (Ev.now _))
            | exact c_if_pos (by omega) (c_if_pos (by omega) (c_if_pos (hl _ _) (Ev.now _)))
    · unfold impl_clone_bool.f
      rw [if_pos (by simp only [List.length_drop, List.length_take]; omega)]
      rfl
  · refine ⟨[], by simp, c_if_neg c0 (c_if_neg c1 hbad), if_neg c1⟩
theorem FnExactTraceWindow : ∀ (l0 : List Bool) (a1 : Int) (a2 : Int) (a3 : Int), (l0.length ≤ maxLen ∧ ∀ y2 ∈ l0, True) → (Lit.int .i64 a1).wf = true → (Lit.int .i64 a2).wf = true → (Lit.int .i64 a3).wf = true → ∃ k, laws_FnExactTraceWindow.f k l0 a1 a2 a3 = some true := by
  intro x a b d hx ha hb hd
  refine Ev.rounds (r := true) ?_
  unfold laws_FnExactTraceWindow.f
  by_cases c : (x.length : Int) > 1048576
  · exact c_if_pos c (Ev.now true)
  refine c_if_neg c ?_
  have ht := c_toBoolS_ev x (by omega)
  have hb2 : b ≤ 9223372036854775807 := by simp [Lit.wf, IntKind.max, IntKind.min, IntKind.bits, IntKind.signed] at hb; omega
  have hd2 : d ≤ 9223372036854775807 := by simp [Lit.wf, IntKind.max, IntKind.min, IntKind.bits, IntKind.signed] at hd; omega
  obtain ⟨y, hy, hs, hi0⟩ := tw_same x (by omega) a b d hb2 hd2
  have hi : Ev (fun _ => impl_TraceWindow.f x a b d) y := ⟨0, fun _ _ => hi0⟩
  refine c_bind _ ht ?_
  refine c_bind _ hs ?_
  refine c_bind _ ht ?_
  refine c_bind _ hi ?_
  refine c_bind true (c_eqBoolS_ev y (by omega)) (c_if_pos rfl ?_)
  refine c_bind _ ht ?_
  refine c_bind true (c_eqBoolS_ev x (by omega)) (c_if_pos rfl ?_)
  refine c_bind _ (c_laws_markBoolS_ev x 1 (by omega) (by omega)) (c_if_neg (by simp only; omega) ?_)
  refine c_bind true (c_eqBoolS_ev y (by omega)) ?_
  refine c_next ?_
  simp only [laws_FnExactTraceWindow.j0]
  refine c_if_neg (by simp) ?_
  refine c_bind _ (c_laws_markBoolS_w_ev y 1 (by omega) (by omega)) ?_
  refine c_bind _ (c_heldBool_ev 1 y.length (by omega) (by omega)) (c_if_neg (by omega) (c_if_pos rfl ?_))
  refine c_bind _ ht ?_
  refine c_bind _ hi ?_
  refine c_bind true (c_eqBoolS_ev y (by omega)) (c_if_pos rfl ?_)
  exact c_bind _ (c_heldBool_ev 1 y.length (by omega) (by omega)) (c_if_neg (by omega) (c_if_pos rfl (Ev.now true)))

end Go.Proofs.Ytdbbdikkboppnaa.Pure
