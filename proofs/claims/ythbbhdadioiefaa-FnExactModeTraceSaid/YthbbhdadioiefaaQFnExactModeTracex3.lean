-- Written by wip/pr2.py: a program of this session's own, which runs the kit's print over contracts of its own.
import Derived.Test.YthbbhdadioiefaaQFnExactModeTracex0
namespace Go.Proofs.Ythbbhdadioiefaa.QFnExactModeTrace
open Go.RowKit Go.Proofs.YthbbhdadioiefaaW.PrintWords Go.Proofs.YthbbhdadioiefaaW.PrintLast Go.Proofs.YthbbhdadioiefaaW.PrintMore
attribute [local go_sem] max2_int min2_int max_two min_two max_three min_three max_four min_four   -- for this text's walks alone
set_option linter.unusedVariables false
set_option linter.unusedSimpArgs false

/-! ### impl_ModeStep: function 86 (own) -/
/-! #### small words -/
def IdxPost {α : Type} (p : α → Bool) (l : List α) (e : Ending) : Prop := ∃ r : Int, e = .returned (.int .i64 r) ∧ (0 ≤ r ↔ l.any p = true)
theorem x_drawn_drew {w : World} {q q' : Nat} : (w.drewN q).drewN q' = w.drewN (q + q') := World.drewN_drewN ..
theorem C_int_cell {k : IntKind} {w : World} {A : Option Addr} {n : Nat} {l : List Int} (h : Kd.C (Kd.int k) w A n l) (i : Nat) (hi : i < n) : ∃ ad, A = some ad ∧ w.cell? (ad.add i) = some (.int k (l.getD i 0)) := by
  obtain ⟨ad, c, e, hl, hK, hc⟩ := Kd.C_get h (0 : Int) (i : Int) (by omega) (by omega)
  have hK' : c = [.int k (l.getD (i : Int).toNat 0)] := hK
  subst hK'
  have := hc 0 _ rfl
  rw [show (i : Int).toNat * (Kd.int k).sz + 0 = i from by show (i : Int).toNat * 1 + 0 = i; omega] at this
  exact ⟨ad, e, this⟩
theorem x_none {α : Type} (p : α → Bool) (l : List α) (d : α) (h : ∀ j, j < l.length → p (l.getD j d) = false) : l.any p = false := by
  rw [List.any_eq_false]
  intro x hx
  obtain ⟨j, hj, rfl⟩ := List.getElem_of_mem hx
  have := h j hj
  rw [List.getD_eq_getElem?_getD, List.getElem?_eq_getElem hj] at this
  simpa using this
theorem x_some {α : Type} (p : α → Bool) (l : List α) (d : α) (j : Nat) (hj : j < l.length) (h : p (l.getD j d) = true) : l.any p = true := by
  rw [List.any_eq_true]
  refine ⟨_, List.getElem_mem hj, ?_⟩
  rw [List.getD_eq_getElem?_getD, List.getElem?_eq_getElem hj] at h
  simpa using h

theorem in_0 (x a b : Int) (w : World) : Calls Try.prog 74 #[.int .i64 x, .int .i64 a, .int .i64 b] w fun e w' => e = .returned (.bool (decide (a ≤ x ∧ x ≤ b))) ∧ Drawn0 w w' := by
  by_cases c : a ≤ x
  · have c1 : decide (a ≤ x) = true := decide_eq_true c
    go_enter Try.func74, Try.ntmps74
    go_wp2
    go_ret
    exact ⟨by simp [c], Drawn0.refl _⟩
  · have c1 : decide (a ≤ x) = false := decide_eq_false c
    go_enter Try.func74, Try.ntmps74
    go_wp2
    go_ret
    exact ⟨by simp [c], Drawn0.refl _⟩
theorem in_1 (x a b : Int) (r : Bool) (w : World) (h : decide (a ≤ x ∧ x ≤ b) = r) : Calls Try.prog 74 #[.int .i64 x, .int .i64 a, .int .i64 b] w fun e w' => e = .returned (.bool r) ∧ Drawn0 w w' := h ▸ in_0 x a b w

/-- An operation that yields nothing. -/
theorem skip_ {P : Program} {ops : Array Oper} {Q : Exit → Act → World → Prop} {oi : Oper} {N : Option Tmp} {a : Act} {w w1 : World} {K : Act → World → Prop} (hw : Region.wanted oi (yielded ops a.tmps) = true) (hN : oi.dst = N) (hrun : (execOp a.eval oi).run P w = .ok .skip w1)
    (h : K (a.put N undef) w1) : if Region.wanted oi (yielded ops a.tmps) = true then Oper.wp P oi a w K Q else K (a.put N undef) w := by
  rw [if_pos hw]
  subst hN
  unfold Oper.wp
  rw [hrun]
  exact h

def ms_T : Bool × List (List Nat × List Nat) := (true, [([], []), ([], []), ([0, 1], [0, 1]), ([], []), ([0, 3], [0, 3]), ([], []), ([0, 5], [0, 5]), ([], []), ([0, 7], [0, 7]), ([], []), ([0, 9], [0, 9]), ([], []), ([0, 11], [0, 11]), ([], []), ([0, 13], [0, 13]), ([0, 1, 2, 3, 4, 5, 6, 7, 8, 9, 10, 11, 12, 13, 14], [0]), ([], []), ([], []), ([16, 17], [16, 17]), ([15, 18], [15, 18]), ([19], [19]), ([20], [20]), ([20], [20]), ([21, 0, 1, 2, 3, 4, 5, 6, 7, 8, 9, 10, 11, 12, 13, 14, 15, 16, 17, 18, 19, 20, 21], [21]), ([22, 23, 0, 1, 2, 3, 4, 5, 6, 7, 8, 9, 10, 11, 12, 13, 14, 15, 16, 17, 18, 19, 20, 21, 22, 23], [22])])
def ms_B : List Nat := [0, 0, 3, 0, 9, 0, 33, 0, 129, 0, 513, 0, 2049, 0, 8193, 32767, 0, 0, 196608, 524287, 1048575, 2097151, 2097151, 4194303, 16777215]
theorem ms_tab : rtab .any (opsOf Try.f86 3) = ms_T := by kernel_rfl
theorem ms_bits : waitsOk ms_T.2 ms_B = true := by kernel_rfl
def ms_key (m c : Int) : Value := .agg #[.int .i64 m, .int .i64 c]
noncomputable def ms_kl (m c : Int) : Lit := (keyOf Try.prog 122 (ms_key m c)).getD (.bool false)
/-- The table: the operation that stores it, and the next mode. -/
def ms_tbl (m c : Nat) : Option (Nat × Int) := if m = 0 ∧ c = 1 then some (2, 1) else if m = 1 ∧ c = 2 then some (4, 3) else if m = 2 ∧ c = 2 then some (6, 3) else if m = 2 ∧ c = 3 then some (8, 4) else if m = 4 ∧ c = 2 then some (10, 3) else if m = 4 ∧ c = 1 then some (12, 2) else if m = 5 ∧ c = 4 then some (14, 0) else none
def ms_want (b : Nat → Bool) (m c : Nat) : Bool × Int := match ms_tbl m c with | some (j, v) => if b j = true then (true, v) else (false, 0) | none => (false, 0)
noncomputable def ms_agr (b : Nat → Bool) (D : DataW Unit) : Prop := ∀ m c : Nat, m < 6 → c < 5 → Go.Maps.has D (ms_kl m c) = (ms_want b m c).1 ∧ D.atKey (ms_kl m c) (.lit (.int .i64 0)) = .lit (.int .i64 (ms_want b m c).2)
set_option maxRecDepth 100000 in
theorem ms_keyok : ((List.range 6).all fun m => (List.range 5).all fun c => (keyOf Try.prog 122 (ms_key (m : Nat) (c : Nat))).isSome) = true := by kernel_rfl
theorem ms_keyOf (m c : Nat) (hm : m < 6) (hc : c < 5) : keyOf Try.prog 122 (ms_key m c) = some (ms_kl m c) := by
  have h := List.all_eq_true.1 (List.all_eq_true.1 ms_keyok m (List.mem_range.2 hm)) c (List.mem_range.2 hc)
  unfold ms_kl
  cases e : keyOf Try.prog 122 (ms_key m c) with
  | none => rw [e] at h; cases h
  | some l => rfl
set_option maxRecDepth 100000 in
theorem ms_law : Go.Maps.Keyed Try.prog 122 := Go.Maps.Keyed.of_law (deep_law_laid (m := 4) (by kernel_rfl) (by decide) (of_decide_eq_true (by kernel_rfl)) (by kernel_rfl) (by kernel_rfl))
set_option maxRecDepth 100000 in
theorem ms_isKey (m c : Nat) (hm : m < 6) (hc : c < 5) : WideAt.IsKeyLit (ms_kl m c) := ms_law.key (ms_keyOf m c hm hc)
theorem ms_inj {m c m' c' : Nat} (hm : m < 6) (hc : c < 5) (hm' : m' < 6) (hc' : c' < 5) (h : ms_kl m c = ms_kl m' c') : m = m' ∧ c = c' := by
  have e := ms_law.inj ((ms_keyOf m c hm hc).trans (congrArg some h)) (ms_keyOf m' c' hm' hc')
  simp only [ms_key, Value.agg.injEq, Array.mk.injEq, List.cons.injEq, Value.int.injEq, true_and, and_true] at e
  omega
theorem ms_nil : ms_agr (fun _ => false) (.map []) := fun m c hm hc => by
  have e : ms_want (fun _ => false) m c = (false, 0) := by unfold ms_want; cases ms_tbl m c <;> simp
  rw [e]
  exact ⟨rfl, rfl⟩
set_option maxRecDepth 100000 in
theorem ms_put {b : Nat → Bool} {D : DataW Unit} (hD : Go.Maps.IsMap D) (h : ms_agr b D) (m0 c0 : Nat) (h0 : m0 < 6) (h1 : c0 < 5) (j : Nat) (v : Int) (ht : ms_tbl m0 c0 = some (j, v)) (hj : ∀ m c, m < 6 → c < 5 → ∀ q, ms_tbl m c = some (j, q) → m = m0 ∧ c = c0) :
    ms_agr (up b j) (D.put (ms_kl m0 c0) (.lit (.int .i64 v))) := fun m c hm hc => by
  by_cases e : m = m0 ∧ c = c0
  · obtain ⟨rfl, rfl⟩ := e
    have e : ms_want (up b j) m c = (true, v) := by unfold ms_want; rw [ht]; simp [up_self]
    rw [e]
    exact ⟨Go.Maps.has_put_same hD (ms_isKey m c hm hc) _, Go.Maps.atKey_put_same hD (ms_isKey m c hm hc) _ _⟩
  · have hne : ms_kl m c ≠ ms_kl m0 c0 := fun h' => e (ms_inj hm hc h0 h1 h')
    rw [Go.Maps.has_put_other hne, Go.Maps.atKey_put_other hne]
    have e2 : ms_want (up b j) m c = ms_want b m c := by
      unfold ms_want
      cases hq : ms_tbl m c with
      | none => rfl
      | some p =>
        obtain ⟨q, u⟩ := p
        have hqj : q ≠ j := fun h' => by subst h'; exact e (hj m c hm hc u hq)
        simp only [up_ne hqj]
    rw [e2]
    exact h m c hm hc
theorem ms_uniq : ((List.range 6).all fun m => (List.range 5).all fun c => match ms_tbl m c with | some (j, _) => [(0, 1, 2), (1, 2, 4), (2, 2, 6), (2, 3, 8), (4, 2, 10), (4, 1, 12), (5, 4, 14)].contains (m, c, j) | none => true) = true := by decide
theorem ms_one {j m0 c0 : Nat} (h : ([((0 : Nat), (1 : Nat), (2 : Nat)), ((1 : Nat), (2 : Nat), (4 : Nat)), ((2 : Nat), (2 : Nat), (6 : Nat)), ((2 : Nat), (3 : Nat), (8 : Nat)), ((4 : Nat), (2 : Nat), (10 : Nat)), ((4 : Nat), (1 : Nat), (12 : Nat)), ((5 : Nat), (4 : Nat), (14 : Nat))].all fun p => p.2.2 != j || (p.1 == m0 && p.2.1 == c0)) = true) (m c : Nat) (hm : m < 6) (hc : c < 5) (q : Int) (hq : ms_tbl m c = some (j, q)) : m = m0 ∧ c = c0 := by
  have h1 := List.all_eq_true.1 (List.all_eq_true.1 ms_uniq m (List.mem_range.2 hm)) c (List.mem_range.2 hc)
  rw [hq] at h1
  simp only [List.contains_cons, List.contains_nil, Bool.or_false, Bool.or_eq_true, beq_iff_eq, Prod.mk.injEq] at h1
  simp only [List.all_cons, List.all_nil, Bool.and_true, Bool.and_eq_true, Bool.or_eq_true, bne_iff_ne, beq_iff_eq] at h
  omega
def ms_cnt (b : Nat → Bool) : Nat := (b 2).toNat + (b 4).toNat + (b 6).toNat + (b 8).toNat + (b 10).toNat + (b 12).toNat + (b 14).toNat
theorem ms_le (b : Nat → Bool) : ms_cnt b ≤ 7 := by
  have h : ∀ x : Bool, x.toNat ≤ 1 := fun x => by cases x <;> decide
  have h0 := h (b 2)
  have h1 := h (b 4)
  have h2 := h (b 6)
  have h3 := h (b 8)
  have h4 := h (b 10)
  have h5 := h (b 12)
  have h6 := h (b 14)
  unfold ms_cnt
  omega
/-- The next mode by the table, for modes and commands in range. -/
def ms_has (m c : Int) : Bool := (ms_tbl m.toNat c.toNat).isSome
def ms_val (m c : Int) : Int := match ms_tbl m.toNat c.toNat with | some (_, v) => v | none => 0
def ms_out (m c : Int) (d f : Bool) : Int := if f = true then 5 else if ms_has m c = true then ms_val m c else if m = 1 ∧ d = true then 2 else if m = 3 ∧ d = true then 0 else m
theorem ms_full (b : Nat → Bool) (hb : ([2, 4, 6, 8, 10, 12, 14].all fun j => b j) = true) (m c : Nat) (hm : m < 6) (hc : c < 5) : ms_want b m c = (ms_has m c, ms_val m c) := by
  have h1 := List.all_eq_true.1 (List.all_eq_true.1 ms_uniq m (List.mem_range.2 hm)) c (List.mem_range.2 hc)
  unfold ms_want ms_has ms_val
  simp only [Int.toNat_natCast]
  cases hq : ms_tbl m c with
  | none => rfl
  | some p =>
    obtain ⟨j, v⟩ := p
    rw [hq] at h1
    have hj : b j = true := by
      simp only [List.all_cons, List.all_nil, Bool.and_true, Bool.and_eq_true] at hb
      obtain ⟨g0, g1, g2, g3, g4, g5, g6⟩ := hb
      simp only [List.contains_cons, List.contains_nil, Bool.or_false, Bool.or_eq_true, beq_iff_eq, Prod.mk.injEq] at h1
      rcases h1 with ⟨_, _, rfl⟩ | ⟨_, _, rfl⟩ | ⟨_, _, rfl⟩ | ⟨_, _, rfl⟩ | ⟨_, _, rfl⟩ | ⟨_, _, rfl⟩ | ⟨_, _, rfl⟩ <;> assumption
    simp only [hj, if_true, Option.isSome_some]
theorem ms_other (b : Nat → Bool) (i : Nat) (hi : ([2, 4, 6, 8, 10, 12, 14].contains i) = false) (m c : Nat) (hm : m < 6) (hc : c < 5) : ms_want (up b i) m c = ms_want b m c := by
  have h1 := List.all_eq_true.1 (List.all_eq_true.1 ms_uniq m (List.mem_range.2 hm)) c (List.mem_range.2 hc)
  unfold ms_want
  cases hq : ms_tbl m c with
  | none => rfl
  | some p =>
    obtain ⟨j, v⟩ := p
    rw [hq] at h1
    have hj : j ≠ i := by
      rintro rfl
      simp only [List.contains_cons, List.contains_nil, Bool.or_false, Bool.or_eq_true, beq_iff_eq, Prod.mk.injEq] at h1
      simp only [List.contains_cons, List.contains_nil, Bool.or_false, Bool.or_eq_false_iff, beq_eq_false_iff_ne] at hi
      omega
    simp only [up_ne hj]
theorem ms_inv {v : Value} {x : Int} {ps : List MemPlace} (h : plainElem (H := Unit) Try.prog 3 v = some (.lit (.int .i64 x), ps)) : v = .int .i64 x := by
  obtain ⟨c, rfl, hc, _⟩ := plainElem_int_inv Try.underlying3 h
  have := congrArg Prod.fst hc
  simp only [DataW.lit.injEq, Lit.int.injEq, true_and] at this
  rw [this]
theorem zeroValue_int (w : World) : (zeroValue 3).run Try.prog w = .ok (.int .i64 0) w := by kernel_rfl
theorem ms_ret {a b : Int} (h : b = a) : Ending.returned (.int .i64 a) = .returned (.int .i64 b) := by rw [h]
set_option maxRecDepth 100000 in
set_option maxHeartbeats 8000000 in
theorem ms_in (m c : Nat) (hm : m < 6) (hc : c < 5) (a0 a1 : Int) (h0 : a0 = m) (h1 : a1 = c) (a2 a3 : Bool) (w : World) :
    Calls Try.prog 86 #[.int .i64 a0, .int .i64 a1, .bool a2, .bool a3] w fun e w' => e = .returned (.int .i64 (ms_out a0 a1 a2 a3)) ∧ Below w.heap.size w w' := by
  have C1 := Aside0.mk (show decide (0 ≤ a0 ∧ a0 ≤ 5) = true from decide_eq_true (by omega))
  have C2 := Aside0.mk (show decide (0 ≤ a1 ∧ a1 ≤ 4) = true from decide_eq_true (by omega))
  have H0 := Aside0.mk h0
  have H1 := Aside0.mk h1
  clear h0 h1
  go_enter Try.func86, Try.ntmps86
  go_wp2_with (first | (go_at_call 74; (with_reducible refine (in_1 a0 0 5 _ _ C1.out).mono ?_); rintro e w' ⟨rfl, ⟨nd, rfl⟩⟩) | (go_at_call 74; (with_reducible refine (in_1 a1 0 4 _ _ C2.out).mono ?_); rintro e w' ⟨rfl, ⟨nd, rfl⟩⟩))
  refine start_ (n := 25) (S := fun w' => True) (ds := []) #[false, false, false, false, false, false, false, false, false, false, false, false, false, false, false, false, false, false, false, false, false, false, false, false, false] (by kernel_rfl) rfl rfl trivial (fun hHeld => ?_); refine with_tabW ms_tab ms_bits (fun HT_ HW_ => ?_)
  clear hHeld
  generalize hw1 : World.drew _ = w1
  have HB := Aside0.mk (show Below w.heap.size w w1 by rw [← hw1]; exact below_drew1 (by repeat (first | exact Below.refl _ _ | apply pw_below_drewN)))
  have HS := Aside0.mk (show w1.heap.size = w.heap.size by rw [← hw1]; rfl)
  clear hw1
  refine pure_ (i := 1) (N := some 21) (v := ?_) (a' := ?_) #[false, true, false, false, false, false, false, false, false, false, false, false, false, false, false, false, false, false, false, false, false, false, false, false, false] rfl rfl (any_of HT_.out (by kernel_rfl)) (fun _ _ _ h => h) (Or.inl ⟨by rfl, ?_⟩) ?_ ?_
  rotate_left
  · intro w'
    go_simp
    with_reducible rfl
  rotate_left
  · simp only [Act.put, List.setIfInBounds_toArray, List.set_cons_zero, List.set_cons_succ, i64_w, i32_w]
    rfl
  refine pure_ (i := 3) (N := some 22) (v := ?_) (a' := ?_) #[false, true, false, true, false, false, false, false, false, false, false, false, false, false, false, false, false, false, false, false, false, false, false, false, false] rfl rfl (any_of HT_.out (by kernel_rfl)) (fun _ _ _ h => h) (Or.inl ⟨by rfl, ?_⟩) ?_ ?_
  rotate_left
  · intro w'
    go_simp
    with_reducible rfl
  rotate_left
  · simp only [Act.put, List.setIfInBounds_toArray, List.set_cons_zero, List.set_cons_succ, i64_w, i32_w]
    rfl
  refine pure_ (i := 5) (N := some 23) (v := ?_) (a' := ?_) #[false, true, false, true, false, true, false, false, false, false, false, false, false, false, false, false, false, false, false, false, false, false, false, false, false] rfl rfl (any_of HT_.out (by kernel_rfl)) (fun _ _ _ h => h) (Or.inl ⟨by rfl, ?_⟩) ?_ ?_
  rotate_left
  · intro w'
    go_simp
    with_reducible rfl
  rotate_left
  · simp only [Act.put, List.setIfInBounds_toArray, List.set_cons_zero, List.set_cons_succ, i64_w, i32_w]
    rfl
  refine pure_ (i := 7) (N := some 24) (v := ?_) (a' := ?_) #[false, true, false, true, false, true, false, true, false, false, false, false, false, false, false, false, false, false, false, false, false, false, false, false, false] rfl rfl (any_of HT_.out (by kernel_rfl)) (fun _ _ _ h => h) (Or.inl ⟨by rfl, ?_⟩) ?_ ?_
  rotate_left
  · intro w'
    go_simp
    with_reducible rfl
  rotate_left
  · simp only [Act.put, List.setIfInBounds_toArray, List.set_cons_zero, List.set_cons_succ, i64_w, i32_w]
    rfl
  refine pure_ (i := 9) (N := some 25) (v := ?_) (a' := ?_) #[false, true, false, true, false, true, false, true, false, true, false, false, false, false, false, false, false, false, false, false, false, false, false, false, false] rfl rfl (any_of HT_.out (by kernel_rfl)) (fun _ _ _ h => h) (Or.inl ⟨by rfl, ?_⟩) ?_ ?_
  rotate_left
  · intro w'
    go_simp
    with_reducible rfl
  rotate_left
  · simp only [Act.put, List.setIfInBounds_toArray, List.set_cons_zero, List.set_cons_succ, i64_w, i32_w]
    rfl
  refine pure_ (i := 11) (N := some 26) (v := ?_) (a' := ?_) #[false, true, false, true, false, true, false, true, false, true, false, true, false, false, false, false, false, false, false, false, false, false, false, false, false] rfl rfl (any_of HT_.out (by kernel_rfl)) (fun _ _ _ h => h) (Or.inl ⟨by rfl, ?_⟩) ?_ ?_
  rotate_left
  · intro w'
    go_simp
    with_reducible rfl
  rotate_left
  · simp only [Act.put, List.setIfInBounds_toArray, List.set_cons_zero, List.set_cons_succ, i64_w, i32_w]
    rfl
  refine pure_ (i := 13) (N := some 27) (v := ?_) (a' := ?_) #[false, true, false, true, false, true, false, true, false, true, false, true, false, true, false, false, false, false, false, false, false, false, false, false, false] rfl rfl (any_of HT_.out (by kernel_rfl)) (fun _ _ _ h => h) (Or.inl ⟨by rfl, ?_⟩) ?_ ?_
  rotate_left
  · intro w'
    go_simp
    with_reducible rfl
  rotate_left
  · simp only [Act.put, List.setIfInBounds_toArray, List.set_cons_zero, List.set_cons_succ, i64_w, i32_w]
    rfl
  refine pure_ (i := 16) (N := some 29) (v := ?_) (a' := ?_) #[false, true, false, true, false, true, false, true, false, true, false, true, false, true, false, false, true, false, false, false, false, false, false, false, false] rfl rfl (any_of HT_.out (by kernel_rfl)) (fun _ _ _ h => h) (Or.inl ⟨by rfl, ?_⟩) ?_ ?_
  rotate_left
  · intro w'
    go_simp
    with_reducible rfl
  rotate_left
  · simp only [Act.put, List.setIfInBounds_toArray, List.set_cons_zero, List.set_cons_succ, i64_w, i32_w]
    rfl
  refine pure_ (i := 17) (N := some 30) (v := ?_) (a' := ?_) #[false, true, false, true, false, true, false, true, false, true, false, true, false, true, false, false, true, true, false, false, false, false, false, false, false] rfl rfl (any_of HT_.out (by kernel_rfl)) (fun _ _ _ h => h) (Or.inl ⟨by rfl, ?_⟩) ?_ ?_
  rotate_left
  · intro w'
    go_simp
    with_reducible rfl
  rotate_left
  · simp only [Act.put, List.setIfInBounds_toArray, List.set_cons_zero, List.set_cons_succ, i64_w, i32_w]
    rfl
  refine pure_ (i := 18) (N := some 31) (v := ?_) (a' := ?_) #[false, true, false, true, false, true, false, true, false, true, false, true, false, true, false, false, true, true, true, false, false, false, false, false, false] rfl rfl (any_of HT_.out (by kernel_rfl)) (fun _ _ _ h => h) (Or.inl ⟨by rfl, ?_⟩) ?_ ?_
  rotate_left
  · intro w'
    go_simp
    with_reducible rfl
  rotate_left
  · simp only [Act.put, List.setIfInBounds_toArray, List.set_cons_zero, List.set_cons_succ, i64_w, i32_w]
    rfl
  refine one_ (i := 0) (N := some 20) #[true, true, false, true, false, true, false, true, false, true, false, true, false, true, false, false, true, true, true, false, false, false, false, false, false] rfl rfl (one_of HT_.out (by kernel_rfl)) (by decide) (fun K hK => ?_)
  refine value_ (w1 := w1.alloc (.map #[] 0)) (v := .map (some w1.heap.size)) (by rfl) rfl (by simp [execOp, run_makeMap, Result.andThen]) ?_
  refine hK.out _ _ trivial (fun _ => ?_)
  clear hK K
  have HM := Aside0.mk (World.ownsMap_made (H := Unit) w1 Try.prog 122 (plainElem Try.prog 3))
  have HB2 := Aside0.mk (below_alloc HB.out (.map #[] 0))
  generalize w1.alloc (.map #[] 0) = w2 at HM HB2
  rw [HS.out] at HM
  have HX := HS.out
  rw [HS.out]
  clear HB HS HX
  refine norm_ (a' := ?_) ?_ ?_
  rotate_left
  · show Act.put _ (some 20) _ = _
    simp only [Act.put, List.setIfInBounds_toArray, List.set_cons_zero, List.set_cons_succ, i64_w, i32_w]
    rfl
  refine inv_at [2, 4, 6, 8, 10, 12, 14, 15, 19, 20, 21, 22, 23, 24] (fun a0_ b a w' => a = putSel a0_ b [(15, 28, Value.map (some w.heap.size)), (19, 32, Value.tuple #[.int .i64 (ms_val a0 a1), .bool (ms_has a0 a1)]), (20, 19, Value.tuple #[.int .i64 (ms_val a0 a1), .bool (ms_has a0 a1)]), (21, 33, Value.int .i64 (ms_val a0 a1)), (22, 34, Value.bool (ms_has a0 a1)), (23, 9, Value.int .i64 (ms_val a0 a1)), (24, 10, Value.bool (ms_has a0 a1))] ∧ (∃ D : DataW Unit, w'.ownsMap Try.prog 122 (plainElem Try.prog 3) w.heap.size (ms_cnt b) D ∧ ms_agr b D) ∧ Below w.heap.size w w') HT_.out HW_.out (by kernel_rfl) (by kernel_rfl) ?_ ?_ ?_
  · exact ⟨by simp only [putSel, Bool.false_eq_true, if_false], ⟨.map [], HM.out, ms_nil⟩, HB2.out⟩
  · clear HM HB2
    refine steps_cons ?_ ?_
    · rintro b a w' ⟨ha, ⟨D, hO, hA⟩, hB⟩ hb_ hon hoff
      refine ⟨_, rfl, fun K hK => ?_⟩
      have e20 : a.tmps[20]? = some (Value.map (some w.heap.size)) := by rw [ha]; exact (putSel_off rfl).trans rfl
      have e21 : a.tmps[21]? = some (Value.agg #[.int .i64 0, .int .i64 1]) := by rw [ha]; exact (putSel_off rfl).trans rfl
      obtain ⟨w3, hrun, h1, h2⟩ := hO.update ms_law Try.underlying123 (by have := ms_le b; unfold maxLen; omega) (ms_keyOf 0 1 (by decide) (by decide)) (plainElem_int (a := 1) Try.underlying3 (by decide))
      have hrun' : (execOp a.eval ⟨none, Op.insert 123 (.tmp 20) (.tmp 21) (.const (.int .i64 1)), 0, "l16_modes.go:25", #[{ on := 0, ground := Ground.data }, { on := 1, ground := Ground.data }], none⟩).run Try.prog w' = .ok .skip w3 := by simp [execOp, Act.eval, e20, e21, ms_key] at hrun ⊢; simp [hrun, Result.andThen]
      refine skip_ (w1 := w3) (by rfl) rfl (by exact hrun') ?_
      refine hK.out _ _ ⟨by rw [ha]; exact putSel_none (v := undef) rfl, ⟨_, ?_, ms_put hO.isMap hA 0 1 (by decide) (by decide) 2 1 rfl (fun m c hm hc q hq => ms_one (by decide) m c hm hc q hq)⟩, pw_below_grown hB _ (below_size hB) h2 (fun k hk => by cases hk; exact Nat.le_refl _)⟩
      refine h1.mono ?_
      unfold ms_cnt
      simp [up, hb_]
      try omega
    refine steps_cons ?_ ?_
    · rintro b a w' ⟨ha, ⟨D, hO, hA⟩, hB⟩ hb_ hon hoff
      refine ⟨_, rfl, fun K hK => ?_⟩
      have e20 : a.tmps[20]? = some (Value.map (some w.heap.size)) := by rw [ha]; exact (putSel_off rfl).trans rfl
      have e22 : a.tmps[22]? = some (Value.agg #[.int .i64 1, .int .i64 2]) := by rw [ha]; exact (putSel_off rfl).trans rfl
      obtain ⟨w3, hrun, h1, h2⟩ := hO.update ms_law Try.underlying123 (by have := ms_le b; unfold maxLen; omega) (ms_keyOf 1 2 (by decide) (by decide)) (plainElem_int (a := 3) Try.underlying3 (by decide))
      have hrun' : (execOp a.eval ⟨none, Op.insert 123 (.tmp 20) (.tmp 22) (.const (.int .i64 3)), 0, "l16_modes.go:25", #[{ on := 0, ground := Ground.data }, { on := 3, ground := Ground.data }], none⟩).run Try.prog w' = .ok .skip w3 := by simp [execOp, Act.eval, e20, e22, ms_key] at hrun ⊢; simp [hrun, Result.andThen]
      refine skip_ (w1 := w3) (by rfl) rfl (by exact hrun') ?_
      refine hK.out _ _ ⟨by rw [ha]; exact putSel_none (v := undef) rfl, ⟨_, ?_, ms_put hO.isMap hA 1 2 (by decide) (by decide) 4 3 rfl (fun m c hm hc q hq => ms_one (by decide) m c hm hc q hq)⟩, pw_below_grown hB _ (below_size hB) h2 (fun k hk => by cases hk; exact Nat.le_refl _)⟩
      refine h1.mono ?_
      unfold ms_cnt
      simp [up, hb_]
      try omega
    refine steps_cons ?_ ?_
    · rintro b a w' ⟨ha, ⟨D, hO, hA⟩, hB⟩ hb_ hon hoff
      refine ⟨_, rfl, fun K hK => ?_⟩
      have e20 : a.tmps[20]? = some (Value.map (some w.heap.size)) := by rw [ha]; exact (putSel_off rfl).trans rfl
      have e23 : a.tmps[23]? = some (Value.agg #[.int .i64 2, .int .i64 2]) := by rw [ha]; exact (putSel_off rfl).trans rfl
      obtain ⟨w3, hrun, h1, h2⟩ := hO.update ms_law Try.underlying123 (by have := ms_le b; unfold maxLen; omega) (ms_keyOf 2 2 (by decide) (by decide)) (plainElem_int (a := 3) Try.underlying3 (by decide))
      have hrun' : (execOp a.eval ⟨none, Op.insert 123 (.tmp 20) (.tmp 23) (.const (.int .i64 3)), 0, "l16_modes.go:25", #[{ on := 0, ground := Ground.data }, { on := 5, ground := Ground.data }], none⟩).run Try.prog w' = .ok .skip w3 := by simp [execOp, Act.eval, e20, e23, ms_key] at hrun ⊢; simp [hrun, Result.andThen]
      refine skip_ (w1 := w3) (by rfl) rfl (by exact hrun') ?_
      refine hK.out _ _ ⟨by rw [ha]; exact putSel_none (v := undef) rfl, ⟨_, ?_, ms_put hO.isMap hA 2 2 (by decide) (by decide) 6 3 rfl (fun m c hm hc q hq => ms_one (by decide) m c hm hc q hq)⟩, pw_below_grown hB _ (below_size hB) h2 (fun k hk => by cases hk; exact Nat.le_refl _)⟩
      refine h1.mono ?_
      unfold ms_cnt
      simp [up, hb_]
      try omega
    refine steps_cons ?_ ?_
    · rintro b a w' ⟨ha, ⟨D, hO, hA⟩, hB⟩ hb_ hon hoff
      refine ⟨_, rfl, fun K hK => ?_⟩
      have e20 : a.tmps[20]? = some (Value.map (some w.heap.size)) := by rw [ha]; exact (putSel_off rfl).trans rfl
      have e24 : a.tmps[24]? = some (Value.agg #[.int .i64 2, .int .i64 3]) := by rw [ha]; exact (putSel_off rfl).trans rfl
      obtain ⟨w3, hrun, h1, h2⟩ := hO.update ms_law Try.underlying123 (by have := ms_le b; unfold maxLen; omega) (ms_keyOf 2 3 (by decide) (by decide)) (plainElem_int (a := 4) Try.underlying3 (by decide))
      have hrun' : (execOp a.eval ⟨none, Op.insert 123 (.tmp 20) (.tmp 24) (.const (.int .i64 4)), 0, "l16_modes.go:25", #[{ on := 0, ground := Ground.data }, { on := 7, ground := Ground.data }], none⟩).run Try.prog w' = .ok .skip w3 := by simp [execOp, Act.eval, e20, e24, ms_key] at hrun ⊢; simp [hrun, Result.andThen]
      refine skip_ (w1 := w3) (by rfl) rfl (by exact hrun') ?_
      refine hK.out _ _ ⟨by rw [ha]; exact putSel_none (v := undef) rfl, ⟨_, ?_, ms_put hO.isMap hA 2 3 (by decide) (by decide) 8 4 rfl (fun m c hm hc q hq => ms_one (by decide) m c hm hc q hq)⟩, pw_below_grown hB _ (below_size hB) h2 (fun k hk => by cases hk; exact Nat.le_refl _)⟩
      refine h1.mono ?_
      unfold ms_cnt
      simp [up, hb_]
      try omega
    refine steps_cons ?_ ?_
    · rintro b a w' ⟨ha, ⟨D, hO, hA⟩, hB⟩ hb_ hon hoff
      refine ⟨_, rfl, fun K hK => ?_⟩
      have e20 : a.tmps[20]? = some (Value.map (some w.heap.size)) := by rw [ha]; exact (putSel_off rfl).trans rfl
      have e25 : a.tmps[25]? = some (Value.agg #[.int .i64 4, .int .i64 2]) := by rw [ha]; exact (putSel_off rfl).trans rfl
      obtain ⟨w3, hrun, h1, h2⟩ := hO.update ms_law Try.underlying123 (by have := ms_le b; unfold maxLen; omega) (ms_keyOf 4 2 (by decide) (by decide)) (plainElem_int (a := 3) Try.underlying3 (by decide))
      have hrun' : (execOp a.eval ⟨none, Op.insert 123 (.tmp 20) (.tmp 25) (.const (.int .i64 3)), 0, "l16_modes.go:25", #[{ on := 0, ground := Ground.data }, { on := 9, ground := Ground.data }], none⟩).run Try.prog w' = .ok .skip w3 := by simp [execOp, Act.eval, e20, e25, ms_key] at hrun ⊢; simp [hrun, Result.andThen]
      refine skip_ (w1 := w3) (by rfl) rfl (by exact hrun') ?_
      refine hK.out _ _ ⟨by rw [ha]; exact putSel_none (v := undef) rfl, ⟨_, ?_, ms_put hO.isMap hA 4 2 (by decide) (by decide) 10 3 rfl (fun m c hm hc q hq => ms_one (by decide) m c hm hc q hq)⟩, pw_below_grown hB _ (below_size hB) h2 (fun k hk => by cases hk; exact Nat.le_refl _)⟩
      refine h1.mono ?_
      unfold ms_cnt
      simp [up, hb_]
      try omega
    refine steps_cons ?_ ?_
    · rintro b a w' ⟨ha, ⟨D, hO, hA⟩, hB⟩ hb_ hon hoff
      refine ⟨_, rfl, fun K hK => ?_⟩
      have e20 : a.tmps[20]? = some (Value.map (some w.heap.size)) := by rw [ha]; exact (putSel_off rfl).trans rfl
      have e26 : a.tmps[26]? = some (Value.agg #[.int .i64 4, .int .i64 1]) := by rw [ha]; exact (putSel_off rfl).trans rfl
      obtain ⟨w3, hrun, h1, h2⟩ := hO.update ms_law Try.underlying123 (by have := ms_le b; unfold maxLen; omega) (ms_keyOf 4 1 (by decide) (by decide)) (plainElem_int (a := 2) Try.underlying3 (by decide))
      have hrun' : (execOp a.eval ⟨none, Op.insert 123 (.tmp 20) (.tmp 26) (.const (.int .i64 2)), 0, "l16_modes.go:25", #[{ on := 0, ground := Ground.data }, { on := 11, ground := Ground.data }], none⟩).run Try.prog w' = .ok .skip w3 := by simp [execOp, Act.eval, e20, e26, ms_key] at hrun ⊢; simp [hrun, Result.andThen]
      refine skip_ (w1 := w3) (by rfl) rfl (by exact hrun') ?_
      refine hK.out _ _ ⟨by rw [ha]; exact putSel_none (v := undef) rfl, ⟨_, ?_, ms_put hO.isMap hA 4 1 (by decide) (by decide) 12 2 rfl (fun m c hm hc q hq => ms_one (by decide) m c hm hc q hq)⟩, pw_below_grown hB _ (below_size hB) h2 (fun k hk => by cases hk; exact Nat.le_refl _)⟩
      refine h1.mono ?_
      unfold ms_cnt
      simp [up, hb_]
      try omega
    refine steps_cons ?_ ?_
    · rintro b a w' ⟨ha, ⟨D, hO, hA⟩, hB⟩ hb_ hon hoff
      refine ⟨_, rfl, fun K hK => ?_⟩
      have e20 : a.tmps[20]? = some (Value.map (some w.heap.size)) := by rw [ha]; exact (putSel_off rfl).trans rfl
      have e27 : a.tmps[27]? = some (Value.agg #[.int .i64 5, .int .i64 4]) := by rw [ha]; exact (putSel_off rfl).trans rfl
      obtain ⟨w3, hrun, h1, h2⟩ := hO.update ms_law Try.underlying123 (by have := ms_le b; unfold maxLen; omega) (ms_keyOf 5 4 (by decide) (by decide)) (plainElem_int (a := 0) Try.underlying3 (by decide))
      have hrun' : (execOp a.eval ⟨none, Op.insert 123 (.tmp 20) (.tmp 27) (.const (.int .i64 0)), 0, "l16_modes.go:25", #[{ on := 0, ground := Ground.data }, { on := 13, ground := Ground.data }], none⟩).run Try.prog w' = .ok .skip w3 := by simp [execOp, Act.eval, e20, e27, ms_key] at hrun ⊢; simp [hrun, Result.andThen]
      refine skip_ (w1 := w3) (by rfl) rfl (by exact hrun') ?_
      refine hK.out _ _ ⟨by rw [ha]; exact putSel_none (v := undef) rfl, ⟨_, ?_, ms_put hO.isMap hA 5 4 (by decide) (by decide) 14 0 rfl (fun m c hm hc q hq => ms_one (by decide) m c hm hc q hq)⟩, pw_below_grown hB _ (below_size hB) h2 (fun k hk => by cases hk; exact Nat.le_refl _)⟩
      refine h1.mono ?_
      unfold ms_cnt
      simp [up, hb_]
      try omega
    refine steps_cons ?_ ?_
    · rintro b a w' ⟨ha, ⟨D, hO, hA⟩, hB⟩ hb_ hon hoff
      refine ⟨_, rfl, fun K hK => ?_⟩
      have e20 : a.tmps[20]? = some (Value.map (some w.heap.size)) := by rw [ha]; exact (putSel_off rfl).trans rfl
      refine value_ (w1 := w') (v := Value.map (some w.heap.size)) (by rfl) rfl (by simp [execOp, Act.eval, e20]; try rfl) ?_
      refine hK.out _ _ ⟨by rw [ha]; exact putSel_upk 0 hb_ rfl rfl rfl, ⟨D, ?_, ?_⟩, hB⟩
      · exact hO.mono (by unfold ms_cnt; simp [up])
      · exact fun m c hm hc => by have := hA m c hm hc; have e : ms_want (up b 15) m c = ms_want b m c := ms_other b 15 (by decide) m c hm hc; rw [e]; exact this
    refine steps_cons ?_ ?_
    · rintro b a w' ⟨ha, ⟨D, hO, hA⟩, hB⟩ hb_ hon hoff
      refine ⟨_, rfl, fun K hK => ?_⟩
      have e28 : a.tmps[28]? = some (Value.map (some w.heap.size)) := by rw [ha]; exact putSel_on (e := (15, 28, Value.map (some w.heap.size))) 0 rfl rfl (hon 15 (by kernel_rfl)) rfl
      have e31 : a.tmps[31]? = some (Value.agg #[.int .i64 a0, .int .i64 a1]) := by rw [ha]; exact (putSel_off rfl).trans rfl
      have hk : keyOf Try.prog 122 (ms_key a0 a1) = some (ms_kl m c) := by rw [H0.out, H1.out]; exact ms_keyOf m c hm hc
      obtain ⟨v, ps, hrun, hv⟩ := hO.look_ok ms_law Try.underlying123 (zeroValue_int _) (plainElem_int (a := 0) Try.underlying3 (by decide)) hk
      have hF := ms_full b (by simp [hon 2 (by kernel_rfl), hon 4 (by kernel_rfl), hon 6 (by kernel_rfl), hon 8 (by kernel_rfl), hon 10 (by kernel_rfl), hon 12 (by kernel_rfl), hon 14 (by kernel_rfl)]) m c hm hc
      rw [← H0.out, ← H1.out] at hF
      have hG := hA m c hm hc
      rw [hF] at hG
      rw [hG.1] at hrun
      rw [hG.2] at hv
      have hvv : v = .int .i64 (ms_val a0 a1) := ms_inv hv
      rw [hvv] at hrun
      refine value_ (w1 := w') (v := Value.tuple #[.int .i64 (ms_val a0 a1), .bool (ms_has a0 a1)]) (by rfl) rfl (by simp [execOp, Act.eval, e28, e31, ms_key] at hrun ⊢; simp [hrun, Result.andThen]) ?_
      refine hK.out _ _ ⟨by rw [ha]; exact putSel_upk 1 hb_ rfl rfl rfl, ⟨D, ?_, ?_⟩, hB⟩
      · exact hO.mono (by unfold ms_cnt; simp [up])
      · exact fun m c hm hc => by have := hA m c hm hc; have e : ms_want (up b 19) m c = ms_want b m c := ms_other b 19 (by decide) m c hm hc; rw [e]; exact this
    refine steps_cons ?_ ?_
    · rintro b a w' ⟨ha, ⟨D, hO, hA⟩, hB⟩ hb_ hon hoff
      refine ⟨_, rfl, fun K hK => ?_⟩
      have e32 : a.tmps[32]? = some (Value.tuple #[.int .i64 (ms_val a0 a1), .bool (ms_has a0 a1)]) := by rw [ha]; exact putSel_on (e := (19, 32, Value.tuple #[.int .i64 (ms_val a0 a1), .bool (ms_has a0 a1)])) 1 rfl rfl (hon 19 (by kernel_rfl)) rfl
      refine value_ (w1 := w') (v := Value.tuple #[.int .i64 (ms_val a0 a1), .bool (ms_has a0 a1)]) (by rfl) rfl (by simp [execOp, Act.eval, e32]; try rfl) ?_
      refine hK.out _ _ ⟨by rw [ha]; exact putSel_upk 2 hb_ rfl rfl rfl, ⟨D, ?_, ?_⟩, hB⟩
      · exact hO.mono (by unfold ms_cnt; simp [up])
      · exact fun m c hm hc => by have := hA m c hm hc; have e : ms_want (up b 20) m c = ms_want b m c := ms_other b 20 (by decide) m c hm hc; rw [e]; exact this
    refine steps_cons ?_ ?_
    · rintro b a w' ⟨ha, ⟨D, hO, hA⟩, hB⟩ hb_ hon hoff
      refine ⟨_, rfl, fun K hK => ?_⟩
      have e19 : a.tmps[19]? = some (Value.tuple #[.int .i64 (ms_val a0 a1), .bool (ms_has a0 a1)]) := by rw [ha]; exact putSel_on (e := (20, 19, Value.tuple #[.int .i64 (ms_val a0 a1), .bool (ms_has a0 a1)])) 2 rfl rfl (hon 20 (by kernel_rfl)) rfl
      refine value_ (w1 := w') (v := Value.int .i64 (ms_val a0 a1)) (by rfl) rfl (by simp [execOp, Act.eval, e19]; try rfl) ?_
      refine hK.out _ _ ⟨by rw [ha]; exact putSel_upk 3 hb_ rfl rfl rfl, ⟨D, ?_, ?_⟩, hB⟩
      · exact hO.mono (by unfold ms_cnt; simp [up])
      · exact fun m c hm hc => by have := hA m c hm hc; have e : ms_want (up b 21) m c = ms_want b m c := ms_other b 21 (by decide) m c hm hc; rw [e]; exact this
    refine steps_cons ?_ ?_
    · rintro b a w' ⟨ha, ⟨D, hO, hA⟩, hB⟩ hb_ hon hoff
      refine ⟨_, rfl, fun K hK => ?_⟩
      have e19 : a.tmps[19]? = some (Value.tuple #[.int .i64 (ms_val a0 a1), .bool (ms_has a0 a1)]) := by rw [ha]; exact putSel_on (e := (20, 19, Value.tuple #[.int .i64 (ms_val a0 a1), .bool (ms_has a0 a1)])) 2 rfl rfl (hon 20 (by kernel_rfl)) rfl
      refine value_ (w1 := w') (v := Value.bool (ms_has a0 a1)) (by rfl) rfl (by simp [execOp, Act.eval, e19]; try rfl) ?_
      refine hK.out _ _ ⟨by rw [ha]; exact putSel_upk 4 hb_ rfl rfl rfl, ⟨D, ?_, ?_⟩, hB⟩
      · exact hO.mono (by unfold ms_cnt; simp [up])
      · exact fun m c hm hc => by have := hA m c hm hc; have e : ms_want (up b 22) m c = ms_want b m c := ms_other b 22 (by decide) m c hm hc; rw [e]; exact this
    refine steps_cons ?_ ?_
    · rintro b a w' ⟨ha, ⟨D, hO, hA⟩, hB⟩ hb_ hon hoff
      refine ⟨_, rfl, fun K hK => ?_⟩
      have e33 : a.tmps[33]? = some (Value.int .i64 (ms_val a0 a1)) := by rw [ha]; exact putSel_on (e := (21, 33, Value.int .i64 (ms_val a0 a1))) 3 rfl rfl (hon 21 (by kernel_rfl)) rfl
      refine value_ (w1 := w') (v := Value.int .i64 (ms_val a0 a1)) (by rfl) rfl (by simp [execOp, Act.eval, e33]; try rfl) ?_
      refine hK.out _ _ ⟨by rw [ha]; exact putSel_upk 5 hb_ rfl rfl rfl, ⟨D, ?_, ?_⟩, hB⟩
      · exact hO.mono (by unfold ms_cnt; simp [up])
      · exact fun m c hm hc => by have := hA m c hm hc; have e : ms_want (up b 23) m c = ms_want b m c := ms_other b 23 (by decide) m c hm hc; rw [e]; exact this
    refine steps_cons ?_ ?_
    · rintro b a w' ⟨ha, ⟨D, hO, hA⟩, hB⟩ hb_ hon hoff
      refine ⟨_, rfl, fun K hK => ?_⟩
      have e34 : a.tmps[34]? = some (Value.bool (ms_has a0 a1)) := by rw [ha]; exact putSel_on (e := (22, 34, Value.bool (ms_has a0 a1))) 4 rfl rfl (hon 22 (by kernel_rfl)) rfl
      refine value_ (w1 := w') (v := Value.bool (ms_has a0 a1)) (by rfl) rfl (by simp [execOp, Act.eval, e34]; try rfl) ?_
      refine hK.out _ _ ⟨by rw [ha]; exact putSel_upk 6 hb_ rfl rfl rfl, ⟨D, ?_, ?_⟩, hB⟩
      · exact hO.mono (by unfold ms_cnt; simp [up])
      · exact fun m c hm hc => by have := hA m c hm hc; have e : ms_want (up b 24) m c = ms_want b m c := ms_other b 24 (by decide) m c hm hc; rw [e]; exact this
    exact steps_nil
  · rintro b a w' hall ⟨ha, _, hB⟩
    have hb2_ := hall 2 (by kernel_rfl)
    have hb4_ := hall 4 (by kernel_rfl)
    have hb6_ := hall 6 (by kernel_rfl)
    have hb8_ := hall 8 (by kernel_rfl)
    have hb10_ := hall 10 (by kernel_rfl)
    have hb12_ := hall 12 (by kernel_rfl)
    have hb14_ := hall 14 (by kernel_rfl)
    have hb15_ := hall 15 (by kernel_rfl)
    have hb19_ := hall 19 (by kernel_rfl)
    have hb20_ := hall 20 (by kernel_rfl)
    have hb21_ := hall 21 (by kernel_rfl)
    have hb22_ := hall 22 (by kernel_rfl)
    have hb23_ := hall 23 (by kernel_rfl)
    have hb24_ := hall 24 (by kernel_rfl)
    subst ha
    simp only [putSel, hb2_, hb4_, hb6_, hb8_, hb10_, hb12_, hb14_, hb15_, hb19_, hb20_, hb21_, hb22_, hb23_, hb24_, if_true, Act.put, List.setIfInBounds_toArray, List.set_cons_zero, List.set_cons_succ]
    clear hall hb2_ hb4_ hb6_ hb8_ hb10_ hb12_ hb14_ hb15_ hb19_ hb20_ hb21_ hb22_ hb23_ hb24_
    have HB := Aside0.mk hB
    clear hB
    obtain ⟨has, hh⟩ : ∃ x, ms_has a0 a1 = x := ⟨_, rfl⟩
    have HH := Aside0.mk hh
    rw [hh]
    clear hh
    obtain ⟨val, hv⟩ : ∃ x, ms_val a0 a1 = x := ⟨_, rfl⟩
    have HV := Aside0.mk hv
    rw [hv]
    clear hv
    clear H0 H1 C1 C2
    cases a3 with
    | true => (go_wp2; go_ret; exact ⟨ms_ret (by unfold ms_out; rw [HH.out]; simp [HV.out]), HB.out⟩)
    | false =>
      cases has with
      | true => (go_wp2; go_ret; exact ⟨ms_ret (by unfold ms_out; rw [HH.out]; simp [HV.out]), HB.out⟩)
      | false =>
        cases a2 with
        | true =>
          by_cases c1 : a0 = 1
          · subst c1
            go_wp2; go_ret; exact ⟨ms_ret (by unfold ms_out; rw [HH.out]; simp [HV.out]), HB.out⟩
          · have c1b : (a0 == 1) = false := by simp [c1]
            have C1 := Aside0.mk c1
            clear c1
            by_cases c2 : a0 = 3
            · subst c2
              go_wp2; go_ret; exact ⟨ms_ret (by unfold ms_out; rw [HH.out]; simp [HV.out]), HB.out⟩
            · have c2b : (a0 == 3) = false := by simp [c2]
              have C2 := Aside0.mk c2
              clear c2
              go_wp2; go_ret; exact ⟨ms_ret (by unfold ms_out; rw [HH.out]; simp [C1.out, C2.out]), HB.out⟩
        | false =>
          by_cases c1 : a0 = 1
          · subst c1
            go_wp2; go_ret; exact ⟨ms_ret (by unfold ms_out; rw [HH.out]; simp [HV.out]), HB.out⟩
          · have c1b : (a0 == 1) = false := by simp [c1]
            have C1 := Aside0.mk c1
            clear c1
            by_cases c2 : a0 = 3
            · subst c2
              go_wp2; go_ret; exact ⟨ms_ret (by unfold ms_out; rw [HH.out]; simp [HV.out]), HB.out⟩
            · have c2b : (a0 == 3) = false := by simp [c2]
              have C2 := Aside0.mk c2
              clear c2
              go_wp2; go_ret; exact ⟨ms_ret (by unfold ms_out; rw [HH.out]; simp [C1.out, C2.out]), HB.out⟩
def ms_ok (a0 a1 : Int) : Bool := decide (0 ≤ a0 ∧ a0 ≤ 5) && decide (0 ≤ a1 ∧ a1 ≤ 4)
def impl_ModeStep.f (a0 a1 : Int) (a2 a3 : Bool) : Option Int := some (if ms_ok a0 a1 = true then ms_out a0 a1 a2 a3 else -1)
theorem impl_ModeStep.calls (a0 a1 : Int) (a2 a3 : Bool) (r : Int) (w : World) (h : impl_ModeStep.f a0 a1 a2 a3 = some r) :
    Calls Try.prog 86 #[.int .i64 a0, .int .i64 a1, .bool a2, .bool a3] w fun e w' => e = .returned (.int .i64 r) ∧ Below w.heap.size w w' := by
  have h := Option.some.inj h
  by_cases hk : ms_ok a0 a1 = true
  · rw [if_pos hk] at h
    subst h
    unfold ms_ok at hk
    rw [Bool.and_eq_true, decide_eq_true_eq, decide_eq_true_eq] at hk
    exact ms_in a0.toNat a1.toNat (by omega) (by omega) a0 a1 (by omega) (by omega) a2 a3 w
  · rw [if_neg hk] at h
    subst h
    have hk := Bool.eq_false_iff.2 hk
    unfold ms_ok at hk
    cases c1 : decide (0 ≤ a0 ∧ a0 ≤ 5) with
    | false =>
      have C1 := Aside0.mk c1
      clear c1 hk
      go_enter Try.func86, Try.ntmps86
      go_wp2_with (first | (go_at_call 74; (with_reducible refine (in_1 a0 0 5 _ _ C1.out).mono ?_); rintro e w' ⟨rfl, ⟨nd, rfl⟩⟩))
      go_ret
      exact ⟨rfl, by repeat (first | exact Below.refl _ _ | apply below_alloc | apply pw_below_drewN)⟩
    | true =>
      rw [c1, Bool.true_and] at hk
      have C1 := Aside0.mk c1
      have C2 := Aside0.mk hk
      clear c1 hk
      go_enter Try.func86, Try.ntmps86
      go_wp2_with (first | (go_at_call 74; (with_reducible refine (in_1 a0 0 5 _ _ C1.out).mono ?_); rintro e w' ⟨rfl, ⟨nd, rfl⟩⟩) | (go_at_call 74; (with_reducible refine (in_1 a1 0 4 _ _ C2.out).mono ?_); rintro e w' ⟨rfl, ⟨nd, rfl⟩⟩))
      go_ret
      exact ⟨rfl, by repeat (first | exact Below.refl _ _ | apply below_alloc | apply pw_below_drewN)⟩


-- NOT PRINTED: function 109 (slices_IndexFunc_int_int)

-- NOT PRINTED: function 104 (slices_ContainsFunc_int_int)

/-! ### impl_outside: function 95 (own) -/
set_option maxHeartbeats 2000000 in
theorem IndexFunc_int (p : Int → Bool) (g : Nat) (lb : Array Value) (eg : ∀ args w, (callFunc g args).run Try.prog w = .ok (.enter g args) w) (A : Option Addr) (c : Nat) (l : List Int) (w : World)
    (hp : ∀ (x : Int) (q : Nat), Calls Try.prog g (#[.int .i64 x] ++ lb) (w.drewN q) fun e w' => e = .returned (.bool (p x)) ∧ ∃ q', w' = (w.drewN q).drewN q')
    (hr : Kd.C (Kd.int .i64) w A l.length l) (hc : l.length ≤ c) :
    Calls Try.prog 109 #[.slice A l.length c, .func (.func g) #[] lb] w fun e w' => IdxPost p l e ∧ Drawn0 w w' := by
  have HR := Aside0.mk hr
  have hmax := hr.2.1
  clear hr
  go_enter Try.func109, Try.ntmps109
  go_wp2
  go_loopg [5, 8] l.length (fun gg _ s8 wr => ∃ kk q : Nat, kk ≤ l.length ∧ l.length - kk ≤ gg ∧ s8 = .int .i64 kk ∧ wr = w.drewN q ∧ Aside (∀ j, j < kk → p (l.getD j 0) = false))
  case atStart => exact ⟨0, 0, Nat.zero_le _, by omega, rfl, rfl, fun j hj => absurd hj (Nat.not_lt_zero _)⟩
  case round =>
    obtain ⟨kk, q, hkk, hg, rfl, rfl, HA⟩ := hrel
    by_cases hlt : kk < l.length
    · have hltz : (kk : Int) < (l.length : Int) := by omega
      obtain ⟨ad, rfl, hcell⟩ := C_int_cell HR.out kk hlt
      generalize hy : l.getD kk 0 = y at hcell
      have B : Aside (l.getD kk 0 = y) := hy
      clear hy HR
      have hcall := hp y
      clear hp
      cases hq : p y with
      | true =>
        rw [hq] at hcall
        have Q := Aside0.mk hq
        clear hq
        go_wp2_with fail
        refine (hcall _).mono ?_
        rintro e w' ⟨rfl, q', rfl⟩
        go_wp2
        go_ret
        exact ⟨⟨kk, rfl, by simp [x_some p l 0 kk hlt (by rw [B.out]; exact Q.out)]⟩, ⟨⟨q + q', by first | rfl | rw [x_drawn_drew]⟩⟩⟩
      | false =>
        rw [hq] at hcall
        have Q := Aside0.mk hq
        clear hq
        go_wp2_with fail
        refine (hcall _).mono ?_
        rintro e w' ⟨rfl, q', rfl⟩
        go_wp2
        go_roundg (l.length - (kk + 1))
        case measure => omega
        case rel =>
          refine ⟨kk + 1, q + q', by omega, by omega, by go_num, by first | rfl | rw [x_drawn_drew], (show Aside _ from fun j hj => ?_)⟩
          by_cases e : j = kk
          · subst e
            rw [B.out]; exact Q.out
          · exact HA.out j (by omega)
    · have hltz : ¬ (kk : Int) < (l.length : Int) := by omega
      have : kk = l.length := by omega
      subst this
      go_wp2
      go_ret
      exact ⟨⟨-1, rfl, by simp [x_none p l 0 HA.out]⟩, ⟨⟨q, rfl⟩⟩⟩

/-- slices.ContainsFunc at []int. -/
theorem ContainsFunc_int (p : Int → Bool) (g : Nat) (lb : Array Value) (eg : ∀ args w, (callFunc g args).run Try.prog w = .ok (.enter g args) w) (A : Option Addr) (c : Nat) (l : List Int) (w : World)
    (hp : ∀ (x : Int) (q : Nat), Calls Try.prog g (#[.int .i64 x] ++ lb) (w.drewN q) fun e w' => e = .returned (.bool (p x)) ∧ ∃ q', w' = (w.drewN q).drewN q')
    (hr : Kd.C (Kd.int .i64) w A l.length l) (hc : l.length ≤ c) :
    Calls Try.prog 104 #[.slice A l.length c, .func (.func g) #[] lb] w fun e w' => e = .returned (.bool (l.any p)) ∧ Drawn0 w w' := by
  have H := IndexFunc_int p g lb eg A c l w hp hr hc
  clear hp hr hc eg
  go_enter Try.func104, Try.ntmps104
  go_wp2_with fail
  refine H.mono ?_
  rintro e w' ⟨⟨r, rfl, hq⟩, ⟨nd, rfl⟩⟩
  have Q := Aside0.mk hq
  clear hq
  go_wp2
  go_ret
  refine ⟨?_, ⟨⟨nd, rfl⟩⟩⟩
  have e : l.any p = decide (0 ≤ r) := by
    rw [Bool.eq_iff_iff, decide_eq_true_eq]
    exact Q.out.symm
  rw [e]
  rfl

theorem out_lit (lo hi x : Int) (B1 B2 : Nat) (w : World) (h1 : w.cell? ⟨B1, 0, none⟩ = some (.int .i64 lo)) (h2 : w.cell? ⟨B2, 0, none⟩ = some (.int .i64 hi)) :
    Calls Try.prog 106 (#[.int .i64 x] ++ #[.pointer (some ⟨B1, 0, none⟩), .pointer (some ⟨B2, 0, none⟩)]) w fun e w' => e = .returned (.bool (!decide (lo ≤ x ∧ x ≤ hi))) ∧ ∃ q', w' = w.drewN q' := by
  have C1 := fun w => in_0 x lo hi w
  generalize decide (lo ≤ x ∧ x ≤ hi) = b at C1 ⊢
  go_enter Try.func106, Try.ntmps106
  go_wp2_with fail
  refine (C1 _).mono ?_
  rintro e w' ⟨rfl, ⟨nd, rfl⟩⟩
  go_wp2
  go_ret
  exact ⟨by first | rfl | (simp; done), nd, rfl⟩
def impl_outside.f (l0 : List Int) (a1 a2 : Int) : Option Bool := some (l0.any fun x => !decide (a1 ≤ x ∧ x ≤ a2))
theorem impl_outside.calls (A0 : Option Addr) (c0 : Nat) (l0 : List Int) (a1 a2 : Int) (r : Bool) (w : World) (hr0 : Kd.C (Kd.int .i64) w A0 l0.length l0) (hc0 : l0.length ≤ c0) (h : impl_outside.f l0 a1 a2 = some r) :
    Calls Try.prog 95 #[.slice A0 l0.length c0, .int .i64 a1, .int .i64 a2] w fun e w' => e = .returned (.bool r) ∧ Below w.heap.size w w' := by
  have H := fun w1 hb B1 B2 h1 h2 => ContainsFunc_int (fun x => !decide (a1 ≤ x ∧ x ≤ a2)) 106 #[.pointer (some ⟨B1, 0, none⟩), .pointer (some ⟨B2, 0, none⟩)] (Go.Proofs.enters_of Try.func106 (by kernel_rfl) rfl) A0 c0 l0 w1 (fun x q => out_lit a1 a2 x B1 B2 _ ((World.cell?_drewN ..).trans h1) ((World.cell?_drewN ..).trans h2)) (Kd.C_below hr0 hb) hc0
  obtain rfl := Option.some.inj h
  clear hr0 hc0 h
  generalize (l0.any fun x => !decide (a1 ≤ x ∧ x ≤ a2)) = b at H ⊢
  go_enter Try.func95, Try.ntmps95
  go_wp2_with fail
  refine (H _ ?hb _ _ ?h1 ?h2).mono ?_
  case hb => repeat (first | exact Below.refl _ _ | apply below_alloc | apply pw_below_drewN)
  case h1 => go_simp
  case h2 => go_simp
  rintro e w' ⟨rfl, ⟨nd, rfl⟩⟩
  go_wp2
  go_ret
  exact ⟨by first | rfl | (simp; done), by repeat (first | exact Below.refl _ _ | apply below_alloc | apply pw_below_drewN)⟩


end Go.Proofs.Ythbbhdadioiefaa.QFnExactModeTrace
