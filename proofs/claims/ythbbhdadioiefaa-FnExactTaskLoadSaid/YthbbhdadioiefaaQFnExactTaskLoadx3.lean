-- Written by wip/pr2.py: a program of this session's own, which runs the kit's print over contracts of its own.
import Derived.Test.YthbbhdadioiefaaQFnExactTaskLoadx0
import Derived.Test.YthbbhdadioiefaaQFnExactTaskLoadx1
import Derived.Test.YthbbhdadioiefaaQFnExactTaskLoadx2
namespace Go.Proofs.Ythbbhdadioiefaa.QFnExactTaskLoad
open Go.RowKit Go.Proofs.YthbbhdadioiefaaW.PrintWords Go.Proofs.YthbbhdadioiefaaW.PrintLast Go.Proofs.YthbbhdadioiefaaW.PrintMore
attribute [local go_sem] max2_int min2_int max_two min_two max_three min_three max_four min_four   -- for this text's walks alone
set_option linter.unusedVariables false
set_option linter.unusedSimpArgs false

/-! ### spec_TaskLoad: function 37 -/
def spec_TaskLoad.l0 : Nat → List (S96) → Int → Int → Option (Int)
  | 0, _, _, _ => none
  | k + 1, x0, x3, x4 => if x4 < (x0.length : Int) then (if 0 ≤ x4 then (if ((rd_T96 x0 x4).f0) = 0 then (none) else (spec_TaskLoad.l0 k x0 (wrap64 (x3 + (wrap64 (Int.tdiv (wrap64 ((wrap64 ((wrap64 (1000 * ((rd_T96 x0 x4).f1))) + ((rd_T96 x0 x4).f0))) - 1)) ((rd_T96 x0 x4).f0))))) (wrap64 (x4 + 1)))) else (none)) else (some x3)
def spec_TaskLoad.f (k : Nat) (l0 : List (S96)) : Option (Int) := (spec_TasksValid.f k l0).bind fun t126 => (if t126 = true then (spec_TaskLoad.l0 k l0 0 0) else (some (-1)))
theorem spec_TaskLoad.mono_l : ∀ k, (∀ y0 y1 y2, LeO (spec_TaskLoad.l0 k y0 y1 y2) (spec_TaskLoad.l0 (k + 1) y0 y1 y2))
  | 0 => fun _ _ _ r h => by simp [spec_TaskLoad.l0] at h
  | k + 1 => by
    have ih0 := spec_TaskLoad.mono_l k
    · intro y0 y1 y2
      unfold spec_TaskLoad.l0
      repeat' first
      | (with_reducible exact ih0 _ _ _)
      | (with_reducible exact spec_TasksValid.mono _ _)
      | (with_reducible exact LeO.refl _)
      | (with_reducible exact LeO.none _)
      | (with_reducible refine LeO.ite ?_ ?_)
      | (with_reducible refine LeO.bind ?_ (fun _ => ?_))
      | exact ih0 _ _ _
      | exact spec_TasksValid.mono _ _
      | exact LeO.none _
      | refine LeO.ite ?_ ?_
      | refine LeO.bind ?_ (fun _ => ?_)
theorem spec_TaskLoad.mono : ∀ a0 k, LeO (spec_TaskLoad.f k a0) (spec_TaskLoad.f (k + 1) a0) := by
  intro a0 k
  have ih0 := spec_TaskLoad.mono_l k
  unfold spec_TaskLoad.f
  repeat' first
      | (with_reducible exact ih0 _ _ _)
      | (with_reducible exact spec_TasksValid.mono _ _)
      | (with_reducible exact LeO.refl _)
      | (with_reducible exact LeO.none _)
      | (with_reducible refine LeO.ite ?_ ?_)
      | (with_reducible refine LeO.bind ?_ (fun _ => ?_))
      | exact ih0 _ _ _
      | exact spec_TasksValid.mono _ _
      | exact LeO.none _
      | refine LeO.ite ?_ ?_
      | refine LeO.bind ?_ (fun _ => ?_)
set_option maxHeartbeats 8000000 in
set_option maxRecDepth 100000 in
theorem spec_TaskLoad.calls (k : Nat) (A0 : Option Addr) (c0 : Nat) (l0 : List (S96)) (r : Int) (w : World) (hr0 : Kd.C k96 w A0 l0.length l0) (hc0 : l0.length ≤ c0) (h : spec_TaskLoad.f k l0 = some r) :
    Calls Try.prog 37 #[.slice A0 l0.length c0] w fun e w' => e = .returned (.int .i64 r) ∧ Below w.heap.size w w' := by
  have HR0 := Aside0.mk hr0
  have HC0 := Aside0.mk hc0
  clear hr0 hc0
  have HB := Aside0.mk (Below.refl w.heap.size w)
  have H : ((spec_TasksValid.f k l0).bind fun t126 => (if t126 = true then (spec_TaskLoad.l0 k l0 0 0) else (some (-1)))) = some r := h
  clear h
  replace H := Option.bind_eq_some_iff.mp H
  obtain ⟨t126, A20, H⟩ := H
  replace H : (if t126 = true then (spec_TaskLoad.l0 k l0 0 0) else (some (-1))) = some r := H
  have A2 := Aside0.mk A20
  clear A20
  by_cases c3 : t126 = true
  · subst c3
    have H1 : (spec_TaskLoad.l0 k l0 0 0) = some r := by rw [if_pos rfl] at H; exact H
    clear H
    have H := H1
    clear H1
    have H' := Aside0.mk H
    clear H
    go_enter Try.func37, Try.ntmps37
    go_wp2_with (first | (go_at_call 28; (with_reducible refine (spec_TasksValid.calls k _ _ l0 true _ ?side1 ?side2 A2.out).mono ?_); (case side1 => repeat (first | exact HR0.out | (with_reducible refine Kd.C_alloc ?_ _) | (with_reducible refine Kd.C_drewN ?_ _) | (with_reducible refine Kd.C_drew ?_))); (case side2 => exact HC0.out); rintro e w4 ⟨rfl, hb⟩; have n0_ := Aside0.mk (below_step (by repeat (first | (with_reducible first | exact HB.out | apply below_alloc | apply pw_below_drewN | apply below_drew1) | exact HB.out)) hb); clear HB; have HB := n0_; clear n0_; (try clear hb); (try clear hb2); (try clear hk); (try clear hi)))
    repeat (go_quiet (first | (go_at_call 28; (with_reducible refine (spec_TasksValid.calls k _ _ l0 true _ ?side1 ?side2 A2.out).mono ?_); (case side1 => repeat (first | exact HR0.out | (with_reducible refine Kd.C_alloc ?_ _) | (with_reducible refine Kd.C_drewN ?_ _) | (with_reducible refine Kd.C_drew ?_))); (case side2 => exact HC0.out); rintro e w4 ⟨rfl, hb⟩; have n0_ := Aside0.mk (below_step (by repeat (first | (with_reducible first | exact HB.out | apply below_alloc | apply pw_below_drewN | apply below_drew1) | exact HB.out)) hb); clear HB; have HB := n0_; clear n0_; (try clear hb); (try clear hb2); (try clear hk); (try clear hi))); try go_wp2_with (first | (go_at_call 28; (with_reducible refine (spec_TasksValid.calls k _ _ l0 true _ ?side1 ?side2 A2.out).mono ?_); (case side1 => repeat (first | exact HR0.out | (with_reducible refine Kd.C_alloc ?_ _) | (with_reducible refine Kd.C_drewN ?_ _) | (with_reducible refine Kd.C_drew ?_))); (case side2 => exact HC0.out); rintro e w4 ⟨rfl, hb⟩; have n0_ := Aside0.mk (below_step (by repeat (first | (with_reducible first | exact HB.out | apply below_alloc | apply pw_below_drewN | apply below_drew1) | exact HB.out)) hb); clear HB; have HB := n0_; clear n0_; (try clear hb); (try clear hb2); (try clear hk); (try clear hi))))
    go_loopg [3, 4] k (fun kq v3 v4 w' => ∃ (x3_1 : Int) (x4_1 : Int), v3 = .int .i64 x3_1 ∧ v4 = .int .i64 x4_1 ∧ Aside0 (spec_TaskLoad.l0 kq l0 x3_1 x4_1 = some r) ∧ Aside0 (kq ≤ k) ∧ Aside0 (Below w.heap.size w w'))
    case atStart => exact ⟨(0), (0), (by first | rfl | (simp; done) | (simp [*]; done)), (by first | rfl | (simp; done) | (simp [*]; done)), H', ⟨Nat.le_refl _⟩, ⟨by repeat (first | (with_reducible first | exact HB.out | apply below_alloc | apply pw_below_drewN | apply below_drew1) | exact HB.out)⟩⟩
    case round =>
      clear H'
      try clear p2
      try clear c3
      obtain ⟨x3_1, x4_1, rfl, rfl, HA, HK1, HB⟩ := hrel
      cases gk with
      | zero => exact absurd HA.out (by simp [spec_TaskLoad.l0])
      | succ k1 =>
        have H := HA.out
        clear HA
        simp only [spec_TaskLoad.l0] at H
        by_cases c5 : x4_1 < (l0.length : Int)
        · rw [if_pos c5] at H
          have c5b0 : decide (x4_1 < (l0.length : Int)) = true := decide_eq_true c5
          clear c5
          by_cases c6 : 0 ≤ x4_1
          · rw [if_pos c6] at H
            have c6b0 : decide (0 ≤ x4_1) = true := decide_eq_true c6
            clear c6
            by_cases c7 : ((rd_T96 l0 x4_1).f0) = 0
            · rw [if_pos c7] at H
              exact absurd H (by simp)
            · rw [if_neg c7] at H
              have c7b0 : (((rd_T96 l0 x4_1).f0) == 0) = false := beq_eq_false_iff_ne.mpr c7
              have c7b1 : (((rd_T96 l0 x4_1).f0) != 0) = true := bne_iff_ne.mpr c7
              have H' := Aside0.mk H
              clear H
              have p127 : 0 ≤ (x4_1 : Int) := of_decide_eq_true (by first | (with_reducible assumption) | assumption)
              have q127 : x4_1 < (l0.length : Int) := of_decide_eq_true (by first | (with_reducible assumption) | assumption)
              obtain ⟨ad127, e127, hx127_0, hx127_1, hx127_2⟩ := at_T96 HR0.out x4_1 p127 q127
              cases e127
              replace hx127_0 := (HB.out.cell (World.block_lt_of_cell? w _ hx127_0)).trans hx127_0
              replace hx127_1 := (HB.out.cell (World.block_lt_of_cell? w _ hx127_1)).trans hx127_1
              replace hx127_2 := (HB.out.cell (World.block_lt_of_cell? w _ hx127_2)).trans hx127_2
              replace p127 := eq_true p127
              replace q127 := eq_true q127
              have p128 : 0 ≤ (x4_1 : Int) := of_decide_eq_true (by first | (with_reducible assumption) | assumption)
              have q128 : x4_1 < (l0.length : Int) := of_decide_eq_true (by first | (with_reducible assumption) | assumption)
              obtain ⟨ad128, e128, hx128_0, hx128_1, hx128_2⟩ := at_T96 HR0.out x4_1 p128 q128
              obtain rfl : ad127 = ad128 := (by injection e128)
              replace hx128_0 := (HB.out.cell (World.block_lt_of_cell? w _ hx128_0)).trans hx128_0
              replace hx128_1 := (HB.out.cell (World.block_lt_of_cell? w _ hx128_1)).trans hx128_1
              replace hx128_2 := (HB.out.cell (World.block_lt_of_cell? w _ hx128_2)).trans hx128_2
              replace p128 := eq_true p128
              replace q128 := eq_true q128
              have p129 : 0 ≤ (x4_1 : Int) := of_decide_eq_true (by first | (with_reducible assumption) | assumption)
              have q129 : x4_1 < (l0.length : Int) := of_decide_eq_true (by first | (with_reducible assumption) | assumption)
              obtain ⟨ad129, e129, hx129_0, hx129_1, hx129_2⟩ := at_T96 HR0.out x4_1 p129 q129
              obtain rfl : ad127 = ad129 := (by injection e129)
              replace hx129_0 := (HB.out.cell (World.block_lt_of_cell? w _ hx129_0)).trans hx129_0
              replace hx129_1 := (HB.out.cell (World.block_lt_of_cell? w _ hx129_1)).trans hx129_1
              replace hx129_2 := (HB.out.cell (World.block_lt_of_cell? w _ hx129_2)).trans hx129_2
              replace p129 := eq_true p129
              replace q129 := eq_true q129
              go_wp2
              repeat (go_quiet (fail); try go_wp2)
              go_roundg k1
              case measure => have := HK1.out; omega
              case rel => exact ⟨(wrap64 (x3_1 + (wrap64 (Int.tdiv (wrap64 ((wrap64 ((wrap64 (1000 * ((rd_T96 l0 x4_1).f1))) + ((rd_T96 l0 x4_1).f0))) - 1)) ((rd_T96 l0 x4_1).f0))))), (wrap64 (x4_1 + 1)), (by first | rfl | (simp; done) | (simp [*]; done)), (by first | rfl | (simp; done) | (simp [*]; done)), H', ⟨by have := HK1.out; omega⟩, ⟨by repeat (first | (with_reducible first | exact HB.out | apply below_alloc | apply pw_below_drewN | apply below_drew1) | exact HB.out)⟩⟩
          · rw [if_neg c6] at H
            exact absurd H (by simp)
        · rw [if_neg c5] at H
          have c5b0 : decide (x4_1 < (l0.length : Int)) = false := decide_eq_false c5
          clear c5
          obtain rfl := Option.some.inj H
          go_wp2
          repeat (go_quiet (fail); try go_wp2)
          go_ret
          exact ⟨by first | rfl | (simp [errW_none, errW_some] <;> rfl) | (simp [*, errW_none, errW_some] <;> rfl), by repeat (first | (with_reducible first | exact HB.out | apply below_alloc | apply pw_below_drewN | apply below_drew1) | exact HB.out)⟩
  · replace c3 := Bool.eq_false_iff.mpr c3
    subst c3
    have H1 : (some (-1)) = some r := by rw [if_neg (show ¬ (false = true) by decide)] at H; exact H
    clear H
    have H := H1
    clear H1
    obtain rfl := Option.some.inj H
    go_enter Try.func37, Try.ntmps37
    go_wp2_with (first | (go_at_call 28; (with_reducible refine (spec_TasksValid.calls k _ _ l0 false _ ?side1 ?side2 A2.out).mono ?_); (case side1 => repeat (first | exact HR0.out | (with_reducible refine Kd.C_alloc ?_ _) | (with_reducible refine Kd.C_drewN ?_ _) | (with_reducible refine Kd.C_drew ?_))); (case side2 => exact HC0.out); rintro e w8 ⟨rfl, hb⟩; have n0_ := Aside0.mk (below_step (by repeat (first | (with_reducible first | exact HB.out | apply below_alloc | apply pw_below_drewN | apply below_drew1) | exact HB.out)) hb); clear HB; have HB := n0_; clear n0_; (try clear hb); (try clear hb2); (try clear hk); (try clear hi)))
    repeat (go_quiet (first | (go_at_call 28; (with_reducible refine (spec_TasksValid.calls k _ _ l0 false _ ?side1 ?side2 A2.out).mono ?_); (case side1 => repeat (first | exact HR0.out | (with_reducible refine Kd.C_alloc ?_ _) | (with_reducible refine Kd.C_drewN ?_ _) | (with_reducible refine Kd.C_drew ?_))); (case side2 => exact HC0.out); rintro e w8 ⟨rfl, hb⟩; have n0_ := Aside0.mk (below_step (by repeat (first | (with_reducible first | exact HB.out | apply below_alloc | apply pw_below_drewN | apply below_drew1) | exact HB.out)) hb); clear HB; have HB := n0_; clear n0_; (try clear hb); (try clear hb2); (try clear hk); (try clear hi))); try go_wp2_with (first | (go_at_call 28; (with_reducible refine (spec_TasksValid.calls k _ _ l0 false _ ?side1 ?side2 A2.out).mono ?_); (case side1 => repeat (first | exact HR0.out | (with_reducible refine Kd.C_alloc ?_ _) | (with_reducible refine Kd.C_drewN ?_ _) | (with_reducible refine Kd.C_drew ?_))); (case side2 => exact HC0.out); rintro e w8 ⟨rfl, hb⟩; have n0_ := Aside0.mk (below_step (by repeat (first | (with_reducible first | exact HB.out | apply below_alloc | apply pw_below_drewN | apply below_drew1) | exact HB.out)) hb); clear HB; have HB := n0_; clear n0_; (try clear hb); (try clear hb2); (try clear hk); (try clear hi))))
    go_ret
    exact ⟨by first | rfl | (simp [errW_none, errW_some] <;> rfl) | (simp [*, errW_none, errW_some] <;> rfl), by repeat (first | (with_reducible first | exact HB.out | apply below_alloc | apply pw_below_drewN | apply below_drew1) | exact HB.out)⟩

/-! ### impl_in: function 74 -/
def impl_in.f (a0 : Int) (a1 : Int) (a2 : Int) : Option (Bool) := if a0 ≥ a1 then (some (decide (a0 ≤ a2))) else (some false)
set_option maxHeartbeats 8000000 in
set_option maxRecDepth 100000 in
theorem impl_in.calls (a0 : Int) (a1 : Int) (a2 : Int) (r : Bool) (w : World) (h : impl_in.f a0 a1 a2 = some r) :
    Calls Try.prog 74 #[.int .i64 a0, .int .i64 a1, .int .i64 a2] w fun e w' => e = .returned (.bool r) ∧ Drawn0 w w' := by
  have H : (if a0 ≥ a1 then (some (decide (a0 ≤ a2))) else (some false)) = some r := h
  clear h
  by_cases c4 : a0 ≥ a1
  · rw [if_pos c4] at H
    have c4b0 : decide (a1 ≤ a0) = true := decide_eq_true c4
    clear c4
    obtain rfl := Option.some.inj H
    go_enter Try.func74, Try.ntmps74
    go_wp2
    go_ret
    exact ⟨by first | rfl | (simp; done) | (simp [*]; done), by repeat (first | exact Drawn0.refl _ | apply Drawn0.step)⟩
  · rw [if_neg c4] at H
    have c4b0 : decide (a1 ≤ a0) = false := decide_eq_false c4
    clear c4
    obtain rfl := Option.some.inj H
    go_enter Try.func74, Try.ntmps74
    go_wp2
    go_ret
    exact ⟨by first | rfl | (simp; done) | (simp [*]; done), by repeat (first | exact Drawn0.refl _ | apply Drawn0.step)⟩

/-! ### impl_TasksValid: function 30 (own) -/
/-! #### small words -/
def IdxPost {α : Type} (p : α → Bool) (l : List α) (e : Ending) : Prop := ∃ r : Int, e = .returned (.int .i64 r) ∧ (0 ≤ r ↔ l.any p = true)
theorem x_drawn_drew {w : World} {q q' : Nat} : (w.drewN q).drewN q' = w.drewN (q + q') := World.drewN_drewN ..
theorem C_int_cell {k : IntKind} {w : World} {A : Option Addr} {n : Nat} {l : List Int} (h : Kd.C (Kd.int k) w A n l) (i : Nat) (hi : i < n) : ∃ ad, A = some ad ∧ w.cell? (ad.add i) = some (.int k (l.getD i 0)) := by
  obtain ⟨ad, c, e, hl, hK, hc⟩ := Kd.C_get h (0 : Int) (i : Int) (by omega) (by omega)
  have hK' : c = [.int k (l.getD (i : Int).toNat 0)] := hK
  subst hK'
  have := hc 0 _ rfl
  rw [show (i : Int).toNat * (Kd.int k).sz + 0 = i from by show (i : Int).toNat * 1 + 0 = i; omega] at this
  exact ⟨ad, e, this⟩
theorem x_none {α : Type} (p : α → Bool) (l : List α) (d : α) (h : ∀ j, j < l.length → p (l.getD j d) = false) : l.any p = false := by
  rw [List.any_eq_false]
  intro x hx
  obtain ⟨j, hj, rfl⟩ := List.getElem_of_mem hx
  have := h j hj
  rw [List.getD_eq_getElem?_getD, List.getElem?_eq_getElem hj] at this
  simpa using this
theorem x_some {α : Type} (p : α → Bool) (l : List α) (d : α) (j : Nat) (hj : j < l.length) (h : p (l.getD j d) = true) : l.any p = true := by
  rw [List.any_eq_true]
  refine ⟨_, List.getElem_mem hj, ?_⟩
  rw [List.getD_eq_getElem?_getD, List.getElem?_eq_getElem hj] at h
  simpa using h

theorem tv_in0 (x a b : Int) (w : World) : Calls Try.prog 74 #[.int .i64 x, .int .i64 a, .int .i64 b] w fun e w' => e = .returned (.bool (decide (a ≤ x ∧ x ≤ b))) ∧ Drawn0 w w' := by
  by_cases c : a ≤ x
  · have c1 : decide (a ≤ x) = true := decide_eq_true c
    go_enter Try.func74, Try.ntmps74
    go_wp2
    go_ret
    exact ⟨by simp [c], Drawn0.refl _⟩
  · have c1 : decide (a ≤ x) = false := decide_eq_false c
    go_enter Try.func74, Try.ntmps74
    go_wp2
    go_ret
    exact ⟨by simp [c], Drawn0.refl _⟩
theorem tv_in (x a b : Int) (r : Bool) (w : World) (h : decide (a ≤ x ∧ x ≤ b) = r) : Calls Try.prog 74 #[.int .i64 x, .int .i64 a, .int .i64 b] w fun e w' => e = .returned (.bool r) ∧ Drawn0 w w' := h ▸ tv_in0 x a b w
abbrev TVS := S96
def tv_seen (l : List TVS) (k : Nat) : List Int := ((l.take k).map fun t => t.f2).reverse
def tv_ok (l : List TVS) (k : Nat) : Bool := decide (1 ≤ (l.getD k z96).f0 ∧ (l.getD k z96).f0 ≤ 100) && decide (1 ≤ (l.getD k z96).f1 ∧ (l.getD k z96).f1 ≤ (l.getD k z96).f0) && decide (0 ≤ (l.getD k z96).f2 ∧ (l.getD k z96).f2 ≤ 9) && !((tv_seen l k).contains (l.getD k z96).f2)
def impl_TasksValid.f (l0 : List TVS) : Option Bool := some ((List.range l0.length).all (tv_ok l0) && decide (l0.length ≤ 6))
def tv_D : List Int → DataW Unit
  | [] => .map []
  | p :: ps => (tv_D ps).put (.int .i64 p) (.lit (.bool true))
theorem tv_D_map : ∀ ps, Go.Maps.IsMap (tv_D ps)
  | [] => Go.Maps.isMap_empty
  | p :: ps => (tv_D_map ps).put _ _
theorem tv_D_at (p : Int) : ∀ ps : List Int, (tv_D ps).atKey (.int .i64 p) (.lit (.bool false)) = .lit (.bool (ps.contains p))
  | [] => rfl
  | q :: ps => by
    by_cases e : p = q
    · subst e
      rw [tv_D, Go.Maps.atKey_put_same (tv_D_map ps) (k := .int .i64 p) (by simp [WideAt.IsKeyLit])]
      simp
    · rw [tv_D, Go.Maps.atKey_put_other (by simpa using e), tv_D_at p ps]
      simp [e]
section
variable {P : Program} {k : TypeId} {R : Value → Option (DataW Unit × List MemPlace)} {w w' : World} {b n : Nat} {D : DataW Unit}
theorem om_move (h : w.ownsMap P k R b n D) (e : w'.heap[b]? = w.heap[b]?) : w'.ownsMap P k R b n D := by
  obtain ⟨es, clock, hb, F, hs, hD⟩ := h
  exact ⟨es, clock, e.trans hb, F, hs, hD⟩
theorem om_below (h : w.ownsMap P k R b n D) (hb : Below w.heap.size w w') : w'.ownsMap P k R b n D := om_move h (hb.block b h.lt)
theorem om_set (h : w.ownsMap P k R b n D) {a : Addr} {v : Value} (hne : b ≠ a.block) : (w.setCell a v).ownsMap P k R b n D := om_move h (heap_setCell_other w a b v hne)
theorem om_drewN (h : w.ownsMap P k R b n D) (m : Nat) : (w.drewN m).ownsMap P k R b n D := h
theorem om_look {t e : TypeId} (h : w.ownsMap P k (plainElem P e) b n D) (K : Go.Maps.Keyed P k) (ht : P.underlying t = some (.map k e)) (he : P.underlying e = some .bool) (hz : (zeroValue e).run P w = .ok (.bool false) w)
    {key : Value} {kl : Lit} (hkey : keyOf P k key = some kl) (c : Bool) (hat : D.atKey kl (.lit (.bool false)) = .lit (.bool c)) : (Instr.lookup t (.map (some b)) key false).run P w = .ok (.bool c) w := by
  obtain ⟨v, ps, hrun, hv⟩ := h.lookup K ht hz (plainElem_bool he false) hkey
  rw [hat] at hv
  have : v = .bool c := by
    unfold plainElem at hv
    rw [he] at hv
    cases v <;> simp at hv
    rw [hv.1]
  rw [this] at hrun
  exact hrun
/-- The look-up at an operation, at elements of type bool. -/
theorem wpList_look {ops : Array Oper} {rest : List Oper} {o : Oper} {a : Act} {Q : Exit → Act → World → Prop}
    (hg : o.guard = none) (m x : Operand) (t : TypeId) (hop : o.op = Op.lookup t m x false) (mv key : Value) (hm : a.eval m = mv) (hx : a.eval x = key) (v : Value) (hrun : (Instr.lookup t mv key false).run P w = .ok v w)
    (hK : wpList P ops Q rest (a.put o.dst v) w) : wpList P ops Q (o :: rest) a w := by
  refine wpList_plain hg fun K' hK' => ?_
  unfold Oper.wp
  simp [execOp, hop, hm, hx, hrun, Result.andThen]
  exact hK' _ _ hK
end
theorem tv_seen_succ (l : List TVS) (k : Nat) (h : k < l.length) : tv_seen l (k + 1) = (l.getD k z96).f2 :: tv_seen l k := by
  unfold tv_seen
  rw [List.take_add_one, List.getD_eq_getElem?_getD, List.getElem?_eq_getElem h, List.map_append, List.reverse_append]
  rfl
theorem tv_okE (l : List TVS) (k : Nat) (T : TVS) (h : l.getD k z96 = T) : tv_ok l k = (decide (1 ≤ T.f0 ∧ T.f0 ≤ 100) && decide (1 ≤ T.f1 ∧ T.f1 ≤ T.f0) && decide (0 ≤ T.f2 ∧ T.f2 ≤ 9) && !((tv_seen l k).contains T.f2)) := by
  unfold tv_ok
  rw [h]
theorem tv_zero (w : World) : (zeroValue 4).run Try.prog w = .ok (.bool false) w := by kernel_rfl
theorem tv_all (l : List TVS) (h : ∀ j, j < l.length → tv_ok l j = true) : (List.range l.length).all (tv_ok l) = true := by
  rw [List.all_eq_true]
  intro j hj
  exact h j (by simpa using hj)
theorem tv_not (l : List TVS) (k : Nat) (hk : k < l.length) (h : tv_ok l k = false) : (List.range l.length).all (tv_ok l) = false := by
  rw [List.all_eq_false]
  exact ⟨k, by simpa using hk, by simp [h]⟩
theorem tv_rd (l : List TVS) (k : Nat) : rd_T96 l (k : Int) = l.getD k z96 := by
  simp only [rd_T96, Int.toNat_natCast]
set_option maxRecDepth 100000 in
set_option maxHeartbeats 4000000 in
theorem impl_TasksValid.calls (A0 : Option Addr) (c0 : Nat) (l0 : List TVS) (r : Bool) (w : World) (hr0 : Kd.C k96 w A0 l0.length l0) (hc0 : l0.length ≤ c0) (h : impl_TasksValid.f l0 = some r) :
    Calls Try.prog 30 #[.slice A0 l0.length c0] w fun e w' => e = .returned (.bool r) ∧ Below w.heap.size w w' := by
  have HF := Aside0.mk (Option.some.inj h)
  clear h
  have HR := Aside0.mk hr0
  have hmax := hr0.2.1
  clear hr0
  have law3 := Aside0.mk (Go.Maps.int_keyed (P := Try.prog) Try.underlying3)
  have hmm := @run_makeMap Try.prog
  go_enter Try.func30, Try.ntmps30
  go_wp2
  go_loopg [9] l0.length (fun gg s9 wr => ∃ kk : Nat, kk ≤ l0.length ∧ l0.length - kk ≤ gg ∧ s9 = .int .i64 kk ∧ Aside (wr.ownsMap Try.prog 3 (plainElem (H := Unit) Try.prog 4) w.heap.size kk (tv_D (tv_seen l0 kk))) ∧ Aside0 (Below w.heap.size w wr) ∧ Aside (∀ j, j < kk → tv_ok l0 j = true))
  case atStart => exact ⟨0, Nat.zero_le _, by omega, rfl, World.ownsMap_made _ _ _ _, ⟨below_alloc (Below.refl _ _) _⟩, fun j hj => absurd hj (Nat.not_lt_zero _)⟩
  case round =>
    clear hmm
    obtain ⟨kk, hkk, hg, rfl, HM, HB, HA⟩ := hrel
    by_cases hlt : kk < l0.length
    · have hltz : (kk : Int) < (l0.length : Int) := by omega
      obtain ⟨ad, e, hx0, hx1, hx2⟩ := at_T96 HR.out kk (by omega) hltz
      cases e
      replace hx0 := (HB.out.cell (World.block_lt_of_cell? w _ hx0)).trans hx0
      replace hx1 := (HB.out.cell (World.block_lt_of_cell? w _ hx1)).trans hx1
      replace hx2 := (HB.out.cell (World.block_lt_of_cell? w _ hx2)).trans hx2
      have HX := Aside0.mk (tv_rd l0 kk)
      have HL := Aside0.mk hlt
      obtain ⟨x, hx⟩ : ∃ x : Int, (kk : Int) = x := ⟨_, rfl⟩
      have hx0i : 0 ≤ x := by omega
      have HXX := Aside0.mk hx
      rw [hx] at hx0 hx1 hx2 hltz ⊢
      clear hx
      generalize hT : rd_T96 l0 x = T at hx0 hx1 hx2
      have HT := Aside0.mk hT
      clear hT
      have hltb : decide (x < (l0.length : Int)) = true := decide_eq_true hltz
      have hx0b : decide (0 ≤ x) = true := decide_eq_true hx0i
      clear hlt
      cases c1 : decide (1 ≤ T.f0 ∧ T.f0 ≤ 100) with
      | false =>
        have C1 := Aside0.mk c1
        clear c1
        go_wp2_with (first | ((with_reducible refine gate_dst (N := 5) rfl ?_); refine box_event ?hg (N := 5) ?hd (cs := #[.int .i64 0, .int .i64 0, .int .i64 0]) (t := 96) ?hr ?_; (case hd => rfl); (case hg => rfl); (case hr => first | (go_simp; done) | (go_simp; rfl)); intro gb hg w23 hbox hb; have n0_ := Aside0.mk (below_step HB.out hb); have n1_ := Aside0.mk (hbox); have n2_ := Aside0.mk ((by rw [hg]; exact (below_size HB.out) : w.heap.size ≤ gb)); have n4_ := Aside0.mk ((by rw [hg]; exact Nat.ne_of_lt HM.lt : w.heap.size ≠ gb)); have n5_ := Aside0.mk (om_below HM hb); clear HB HM; have HB := n0_; have BK := n1_; have GE := n2_; have NE := n4_; have HM := n5_; clear n0_ n1_ n2_ n4_ n5_; clear hb hbox hg; have hcz0 : w23.cell? ⟨gb, 0, none⟩ = some (.int .i64 0) := (blk_cell BK.out 0).trans rfl; have hcz1 : w23.cell? ⟨gb, 1, none⟩ = some (.int .i64 0) := (blk_cell BK.out 1).trans rfl; have hcz2 : w23.cell? ⟨gb, 2, none⟩ = some (.int .i64 0) := (blk_cell BK.out 2).trans rfl; have hfz0 := blk_frozen BK.out 0; have hfz1 := blk_frozen BK.out 1; have hfz2 := blk_frozen BK.out 2) | (go_at_call 74; (with_reducible refine (tv_in T.f0 1 100 _ _ C1.out).mono ?_); rintro e w' ⟨rfl, ⟨nd, rfl⟩⟩))
        go_ret
        refine ⟨?_, (by repeat (first | exact HB.out | apply pw_below_drewN | refine below_set ?_ GE.out))⟩
        have hT : l0.getD kk z96 = T := HX.out.symm.trans ((congrArg (rd_T96 l0) HXX.out).trans HT.out)
        rw [← HF.out, tv_not l0 kk HL.out (by rw [tv_okE l0 kk T hT, C1.out]; simp)]
        rfl
      | true =>
        have C1 := Aside0.mk c1
        clear c1
        cases c2 : decide (1 ≤ T.f1 ∧ T.f1 ≤ T.f0) with
        | false =>
          have C2 := Aside0.mk c2
          clear c2
          go_wp2_with (first | ((with_reducible refine gate_dst (N := 5) rfl ?_); refine box_event ?hg (N := 5) ?hd (cs := #[.int .i64 0, .int .i64 0, .int .i64 0]) (t := 96) ?hr ?_; (case hd => rfl); (case hg => rfl); (case hr => first | (go_simp; done) | (go_simp; rfl)); intro gb hg w23 hbox hb; have n0_ := Aside0.mk (below_step HB.out hb); have n1_ := Aside0.mk (hbox); have n2_ := Aside0.mk ((by rw [hg]; exact (below_size HB.out) : w.heap.size ≤ gb)); have n4_ := Aside0.mk ((by rw [hg]; exact Nat.ne_of_lt HM.lt : w.heap.size ≠ gb)); have n5_ := Aside0.mk (om_below HM hb); clear HB HM; have HB := n0_; have BK := n1_; have GE := n2_; have NE := n4_; have HM := n5_; clear n0_ n1_ n2_ n4_ n5_; clear hb hbox hg; have hcz0 : w23.cell? ⟨gb, 0, none⟩ = some (.int .i64 0) := (blk_cell BK.out 0).trans rfl; have hcz1 : w23.cell? ⟨gb, 1, none⟩ = some (.int .i64 0) := (blk_cell BK.out 1).trans rfl; have hcz2 : w23.cell? ⟨gb, 2, none⟩ = some (.int .i64 0) := (blk_cell BK.out 2).trans rfl; have hfz0 := blk_frozen BK.out 0; have hfz1 := blk_frozen BK.out 1; have hfz2 := blk_frozen BK.out 2) | (go_at_call 74; (with_reducible refine (tv_in T.f0 1 100 _ _ C1.out).mono ?_); rintro e w' ⟨rfl, ⟨nd, rfl⟩⟩) | (go_at_call 74; (with_reducible refine (tv_in T.f1 1 T.f0 _ _ C2.out).mono ?_); rintro e w' ⟨rfl, ⟨nd, rfl⟩⟩))
          go_ret
          refine ⟨?_, (by repeat (first | exact HB.out | apply pw_below_drewN | refine below_set ?_ GE.out))⟩
          have hT : l0.getD kk z96 = T := HX.out.symm.trans ((congrArg (rd_T96 l0) HXX.out).trans HT.out)
          rw [← HF.out, tv_not l0 kk HL.out (by rw [tv_okE l0 kk T hT, C1.out, C2.out]; simp)]
          rfl
        | true =>
          have C2 := Aside0.mk c2
          clear c2
          cases c3 : decide (0 ≤ T.f2 ∧ T.f2 ≤ 9) with
          | false =>
            have C3 := Aside0.mk c3
            clear c3
            go_wp2_with (first | ((with_reducible refine gate_dst (N := 5) rfl ?_); refine box_event ?hg (N := 5) ?hd (cs := #[.int .i64 0, .int .i64 0, .int .i64 0]) (t := 96) ?hr ?_; (case hd => rfl); (case hg => rfl); (case hr => first | (go_simp; done) | (go_simp; rfl)); intro gb hg w23 hbox hb; have n0_ := Aside0.mk (below_step HB.out hb); have n1_ := Aside0.mk (hbox); have n2_ := Aside0.mk ((by rw [hg]; exact (below_size HB.out) : w.heap.size ≤ gb)); have n4_ := Aside0.mk ((by rw [hg]; exact Nat.ne_of_lt HM.lt : w.heap.size ≠ gb)); have n5_ := Aside0.mk (om_below HM hb); clear HB HM; have HB := n0_; have BK := n1_; have GE := n2_; have NE := n4_; have HM := n5_; clear n0_ n1_ n2_ n4_ n5_; clear hb hbox hg; have hcz0 : w23.cell? ⟨gb, 0, none⟩ = some (.int .i64 0) := (blk_cell BK.out 0).trans rfl; have hcz1 : w23.cell? ⟨gb, 1, none⟩ = some (.int .i64 0) := (blk_cell BK.out 1).trans rfl; have hcz2 : w23.cell? ⟨gb, 2, none⟩ = some (.int .i64 0) := (blk_cell BK.out 2).trans rfl; have hfz0 := blk_frozen BK.out 0; have hfz1 := blk_frozen BK.out 1; have hfz2 := blk_frozen BK.out 2) | (go_at_call 74; (with_reducible refine (tv_in T.f0 1 100 _ _ C1.out).mono ?_); rintro e w' ⟨rfl, ⟨nd, rfl⟩⟩) | (go_at_call 74; (with_reducible refine (tv_in T.f1 1 T.f0 _ _ C2.out).mono ?_); rintro e w' ⟨rfl, ⟨nd, rfl⟩⟩) | (go_at_call 74; (with_reducible refine (tv_in T.f2 0 9 _ _ C3.out).mono ?_); rintro e w' ⟨rfl, ⟨nd, rfl⟩⟩))
            go_ret
            refine ⟨?_, (by repeat (first | exact HB.out | apply pw_below_drewN | refine below_set ?_ GE.out))⟩
            have hT : l0.getD kk z96 = T := HX.out.symm.trans ((congrArg (rd_T96 l0) HXX.out).trans HT.out)
            rw [← HF.out, tv_not l0 kk HL.out (by rw [tv_okE l0 kk T hT, C1.out, C2.out, C3.out]; simp)]
            rfl
          | true =>
            have WK := Aside0.mk (Go.Maps.keyOf_int_mk (P := Try.prog) (q := .i64) (a := T.f2) Try.underlying3 (by have := of_decide_eq_true c3; simp [Lit.wf, IntKind.min, IntKind.max, IntKind.signed, IntKind.bits]; omega))
            have C3 := Aside0.mk c3
            clear c3
            have LM := Aside0.mk (show kk < maxLen from by have := HL.out; unfold maxLen; omega)
            have c4a := tv_D_at T.f2 (tv_seen l0 kk)
            cases c4 : (tv_seen l0 kk).contains T.f2 with
            | true =>
              rw [c4] at c4a
              have C4 := Aside0.mk c4a
              have C5 := Aside0.mk c4
              clear c4 c4a
              go_wp2_with (first | ((with_reducible refine gate_dst (N := 5) rfl ?_); refine box_event ?hg (N := 5) ?hd (cs := #[.int .i64 0, .int .i64 0, .int .i64 0]) (t := 96) ?hr ?_; (case hd => rfl); (case hg => rfl); (case hr => first | (go_simp; done) | (go_simp; rfl)); intro gb hg w23 hbox hb; have n0_ := Aside0.mk (below_step HB.out hb); have n1_ := Aside0.mk (hbox); have n2_ := Aside0.mk ((by rw [hg]; exact (below_size HB.out) : w.heap.size ≤ gb)); have n4_ := Aside0.mk ((by rw [hg]; exact Nat.ne_of_lt HM.lt : w.heap.size ≠ gb)); have n5_ := Aside0.mk (om_below HM hb); clear HB HM; have HB := n0_; have BK := n1_; have GE := n2_; have NE := n4_; have HM := n5_; clear n0_ n1_ n2_ n4_ n5_; clear hb hbox hg; have hcz0 : w23.cell? ⟨gb, 0, none⟩ = some (.int .i64 0) := (blk_cell BK.out 0).trans rfl; have hcz1 : w23.cell? ⟨gb, 1, none⟩ = some (.int .i64 0) := (blk_cell BK.out 1).trans rfl; have hcz2 : w23.cell? ⟨gb, 2, none⟩ = some (.int .i64 0) := (blk_cell BK.out 2).trans rfl; have hfz0 := blk_frozen BK.out 0; have hfz1 := blk_frozen BK.out 1; have hfz2 := blk_frozen BK.out 2) | (go_at_call 74; (with_reducible refine (tv_in T.f0 1 100 _ _ C1.out).mono ?_); rintro e w' ⟨rfl, ⟨nd, rfl⟩⟩) | (go_at_call 74; (with_reducible refine (tv_in T.f1 1 T.f0 _ _ C2.out).mono ?_); rintro e w' ⟨rfl, ⟨nd, rfl⟩⟩) | (go_at_call 74; (with_reducible refine (tv_in T.f2 0 9 _ _ C3.out).mono ?_); rintro e w' ⟨rfl, ⟨nd, rfl⟩⟩) | (at_lookup; refine gate_guard (by rfl) ?_; dsimp only; refine wpList_look rfl _ _ 99 rfl (.map (some w.heap.size)) (.int .i64 T.f2) rfl rfl (.bool true) (by refine om_look (D := tv_D (tv_seen l0 kk)) (n := kk) ?_ law3.out Try.underlying99 Try.underlying4 (tv_zero _) WK.out _ C4.out; (repeat (first | exact HM.out | apply om_drewN | refine om_set ?_ NE.out))) ?_))
              go_ret
              refine ⟨?_, (by repeat (first | exact HB.out | apply pw_below_drewN | refine below_set ?_ GE.out))⟩
              have hT : l0.getD kk z96 = T := HX.out.symm.trans ((congrArg (rd_T96 l0) HXX.out).trans HT.out)
              rw [← HF.out, tv_not l0 kk HL.out (by rw [tv_okE l0 kk T hT, C1.out, C2.out, C3.out, C5.out]; simp)]
              rfl
            | false =>
              rw [c4] at c4a
              have C4 := Aside0.mk c4a
              have C5 := Aside0.mk c4
              clear c4 c4a
              go_wp2_with (first | ((with_reducible refine gate_dst (N := 5) rfl ?_); refine box_event ?hg (N := 5) ?hd (cs := #[.int .i64 0, .int .i64 0, .int .i64 0]) (t := 96) ?hr ?_; (case hd => rfl); (case hg => rfl); (case hr => first | (go_simp; done) | (go_simp; rfl)); intro gb hg w23 hbox hb; have n0_ := Aside0.mk (below_step HB.out hb); have n1_ := Aside0.mk (hbox); have n2_ := Aside0.mk ((by rw [hg]; exact (below_size HB.out) : w.heap.size ≤ gb)); have n4_ := Aside0.mk ((by rw [hg]; exact Nat.ne_of_lt HM.lt : w.heap.size ≠ gb)); have n5_ := Aside0.mk (om_below HM hb); clear HB HM; have HB := n0_; have BK := n1_; have GE := n2_; have NE := n4_; have HM := n5_; clear n0_ n1_ n2_ n4_ n5_; clear hb hbox hg; have hcz0 : w23.cell? ⟨gb, 0, none⟩ = some (.int .i64 0) := (blk_cell BK.out 0).trans rfl; have hcz1 : w23.cell? ⟨gb, 1, none⟩ = some (.int .i64 0) := (blk_cell BK.out 1).trans rfl; have hcz2 : w23.cell? ⟨gb, 2, none⟩ = some (.int .i64 0) := (blk_cell BK.out 2).trans rfl; have hfz0 := blk_frozen BK.out 0; have hfz1 := blk_frozen BK.out 1; have hfz2 := blk_frozen BK.out 2) | (go_at_call 74; (with_reducible refine (tv_in T.f0 1 100 _ _ C1.out).mono ?_); rintro e w' ⟨rfl, ⟨nd, rfl⟩⟩) | (go_at_call 74; (with_reducible refine (tv_in T.f1 1 T.f0 _ _ C2.out).mono ?_); rintro e w' ⟨rfl, ⟨nd, rfl⟩⟩) | (go_at_call 74; (with_reducible refine (tv_in T.f2 0 9 _ _ C3.out).mono ?_); rintro e w' ⟨rfl, ⟨nd, rfl⟩⟩) | (at_lookup; refine gate_guard (by rfl) ?_; dsimp only; refine wpList_look rfl _ _ 99 rfl (.map (some w.heap.size)) (.int .i64 T.f2) rfl rfl (.bool false) (by refine om_look (D := tv_D (tv_seen l0 kk)) (n := kk) ?_ law3.out Try.underlying99 Try.underlying4 (tv_zero _) WK.out _ C4.out; (repeat (first | exact HM.out | apply om_drewN | refine om_set ?_ NE.out))) ?_) | (at_mapUpdate; refine wpList_mapUpdate_own _ rfl _ _ _ 99 rfl 3 4 law3.out Try.underlying99 (plainElem (H := Unit) Try.prog 4) w.heap.size kk (tv_D (tv_seen l0 kk)) rfl (by repeat (first | (with_reducible exact HM.out) | (with_reducible apply om_drewN) | (with_reducible refine om_set ?_ NE.out))) LM.out (.int .i64 T.f2) (.bool true) (.int .i64 T.f2) rfl rfl WK.out (.lit (.bool true)) [] (plainElem_bool Try.underlying4 true) ?_; intro w1 hown1 hgrow1))
              have hT : l0.getD kk z96 = T := HX.out.symm.trans ((congrArg (rd_T96 l0) HXX.out).trans HT.out)
              have HN := Aside0.mk hown1
              have HB1 := Aside0.mk (pw_below_grown (by repeat (first | exact HB.out | apply pw_below_drewN | refine below_set ?_ GE.out)) _ (below_size (by repeat (first | exact HB.out | apply pw_below_drewN | refine below_set ?_ GE.out))) hgrow1 (fun k hk => by cases hk; exact Nat.le_refl _))
              clear hown1 hgrow1
              go_roundg (l0.length - (kk + 1))
              case measure => have := HL.out; omega
              case rel =>
                have hL := HL.out
                have hX := HXX.out
                refine ⟨kk + 1, by omega, by omega, by subst hX; go_num, ?_, HB1, fun j hj => ?_⟩
                · rw [tv_seen_succ l0 kk hL, hT]
                  exact HN.out
                · by_cases e : j = kk
                  · subst e
                    rw [tv_okE l0 j T hT, C1.out, C2.out, C3.out, C5.out]
                    rfl
                  · exact HA j (by omega)
    · have hltz : ¬ (kk : Int) < (l0.length : Int) := by omega
      have : kk = l0.length := by omega
      subst this
      go_wp2
      go_ret
      refine ⟨?_, HB.out⟩
      rw [← HF.out, tv_all l0 HA]
      have e : decide ((l0.length : Int) ≤ 6) = decide (l0.length ≤ 6) := by
        rw [decide_eq_decide]
        omega
      first
        | rfl
        | (simp [e]; done)
        | (simp; omega)


/-! ### impl_TaskLoad: function 38 -/
def impl_TaskLoad.l0 : Nat → Int → List (S96) → Int → Int → Option (Int)
  | 0, _, _, _, _ => none
  | k + 1, x3, x9, x10, x11 => if x11 < x10 then (if 0 ≤ x11 then (if x11 < (x9.length : Int) then (if ((rd_T96 x9 x11).f0) = 0 then (none) else (impl_TaskLoad.l0 k (wrap64 (x3 + (wrap64 (Int.tdiv (wrap64 ((wrap64 ((wrap64 (1000 * ((rd_T96 x9 x11).f1))) + ((rd_T96 x9 x11).f0))) - 1)) ((rd_T96 x9 x11).f0))))) x9 x10 (wrap64 (x11 + 1)))) else (none)) else (none)) else (some x3)
def impl_TaskLoad.f (k : Nat) (l0 : List (S96)) : Option (Int) := (impl_TasksValid.f l0).bind fun t130 => (if t130 = true then (impl_TaskLoad.l0 k 0 l0 (l0.length : Int) 0) else (some (-1)))
theorem impl_TaskLoad.mono_l : ∀ k, (∀ y0 y1 y2 y3, LeO (impl_TaskLoad.l0 k y0 y1 y2 y3) (impl_TaskLoad.l0 (k + 1) y0 y1 y2 y3))
  | 0 => fun _ _ _ _ r h => by simp [impl_TaskLoad.l0] at h
  | k + 1 => by
    have ih0 := impl_TaskLoad.mono_l k
    · intro y0 y1 y2 y3
      unfold impl_TaskLoad.l0
      repeat' first
      | (with_reducible exact ih0 _ _ _ _)
      | (with_reducible exact LeO.refl _)
      | (with_reducible exact LeO.none _)
      | (with_reducible refine LeO.ite ?_ ?_)
      | (with_reducible refine LeO.bind ?_ (fun _ => ?_))
      | exact ih0 _ _ _ _
      | exact LeO.none _
      | refine LeO.ite ?_ ?_
      | refine LeO.bind ?_ (fun _ => ?_)
theorem impl_TaskLoad.mono : ∀ a0 k, LeO (impl_TaskLoad.f k a0) (impl_TaskLoad.f (k + 1) a0) := by
  intro a0 k
  have ih0 := impl_TaskLoad.mono_l k
  unfold impl_TaskLoad.f
  repeat' first
      | (with_reducible exact ih0 _ _ _ _)
      | (with_reducible exact LeO.refl _)
      | (with_reducible exact LeO.none _)
      | (with_reducible refine LeO.ite ?_ ?_)
      | (with_reducible refine LeO.bind ?_ (fun _ => ?_))
      | exact ih0 _ _ _ _
      | exact LeO.none _
      | refine LeO.ite ?_ ?_
      | refine LeO.bind ?_ (fun _ => ?_)
set_option maxHeartbeats 8000000 in
set_option maxRecDepth 100000 in
theorem impl_TaskLoad.calls (k : Nat) (A0 : Option Addr) (c0 : Nat) (l0 : List (S96)) (r : Int) (w : World) (hr0 : Kd.C k96 w A0 l0.length l0) (hc0 : l0.length ≤ c0) (h : impl_TaskLoad.f k l0 = some r) :
    Calls Try.prog 38 #[.slice A0 l0.length c0] w fun e w' => e = .returned (.int .i64 r) ∧ Below w.heap.size w w' := by
  have hu96 := Try.underlying96
  have HR0 := Aside0.mk hr0
  have HC0 := Aside0.mk hc0
  clear hr0 hc0
  have HB := Aside0.mk (Below.refl w.heap.size w)
  have H : ((impl_TasksValid.f l0).bind fun t130 => (if t130 = true then (impl_TaskLoad.l0 k 0 l0 (l0.length : Int) 0) else (some (-1)))) = some r := h
  clear h
  replace H := Option.bind_eq_some_iff.mp H
  obtain ⟨t130, A20, H⟩ := H
  replace H : (if t130 = true then (impl_TaskLoad.l0 k 0 l0 (l0.length : Int) 0) else (some (-1))) = some r := H
  have A2 := Aside0.mk A20
  clear A20
  by_cases c3 : t130 = true
  · subst c3
    have H1 : (impl_TaskLoad.l0 k 0 l0 (l0.length : Int) 0) = some r := by rw [if_pos rfl] at H; exact H
    clear H
    have H := H1
    clear H1
    have H' := Aside0.mk H
    clear H
    go_enter Try.func38, Try.ntmps38
    go_wp2_with (first | ((with_reducible refine gate_callee (f := 30) rfl ?_); refine goesL_ (some 7) rfl rfl Try.func30 (by kernel_rfl) rfl #[.slice A0 l0.length c0] rfl (by (try simp only [List.map_toArray, List.map_cons, List.map_nil]); first | done | rfl | (simp only [List.length_drop, List.length_take]; rfl)) ?_; (with_reducible refine (impl_TasksValid.calls _ _ l0 true _ ?side1 ?side2 A2.out).mono ?_); (case side1 => repeat (first | exact HR0.out | (with_reducible refine Kd.C_alloc ?_ _) | (with_reducible refine Kd.C_drewN ?_ _) | (with_reducible refine Kd.C_drew ?_))); (case side2 => exact HC0.out); rintro e w4 ⟨rfl, hb⟩; refine ⟨_, rfl, ?_⟩; have n0_ := Aside0.mk (below_step (by repeat (first | (with_reducible first | exact HB.out | apply below_alloc | apply pw_below_drewN | apply below_drew1) | exact HB.out)) hb); clear HB; have HB := n0_; clear n0_; (try clear hb); (try clear hb2); (try clear hk); (try clear hi)))
    go_loopg [3, 11] k (fun kq v3 v11 w' => ∃ (x3_1 : Int) (x11_1 : Int), v3 = .int .i64 x3_1 ∧ v11 = .int .i64 x11_1 ∧ Aside0 (impl_TaskLoad.l0 kq x3_1 l0 (l0.length : Int) x11_1 = some r) ∧ Aside0 (kq ≤ k) ∧ Aside0 (Below w.heap.size w w'))
    case atStart => exact ⟨(0), (0), (by first | rfl | (simp; done) | (simp [*]; done)), (by first | rfl | (simp; done) | (simp [*]; done)), H', ⟨Nat.le_refl _⟩, ⟨by repeat (first | (with_reducible first | exact HB.out | apply below_alloc | apply pw_below_drewN | apply below_drew1) | exact HB.out)⟩⟩
    case round =>
      clear H'
      try clear p2
      try clear c3
      obtain ⟨x3_1, x11_1, rfl, rfl, HA, HK1, HB⟩ := hrel
      cases gk with
      | zero => exact absurd HA.out (by simp [impl_TaskLoad.l0])
      | succ k1 =>
        have H := HA.out
        clear HA
        simp only [impl_TaskLoad.l0] at H
        by_cases c5 : x11_1 < (l0.length : Int)
        · rw [if_pos c5] at H
          have c5b0 : decide (x11_1 < (l0.length : Int)) = true := decide_eq_true c5
          clear c5
          by_cases c6 : 0 ≤ x11_1
          · rw [if_pos c6] at H
            have c6b0 : decide (0 ≤ x11_1) = true := decide_eq_true c6
            clear c6
            by_cases c7 : x11_1 < (l0.length : Int)
            · rw [if_pos c7] at H
              have c7b0 : decide (x11_1 < (l0.length : Int)) = true := decide_eq_true c7
              clear c7
              by_cases c8 : ((rd_T96 l0 x11_1).f0) = 0
              · rw [if_pos c8] at H
                exact absurd H (by simp)
              · rw [if_neg c8] at H
                have c8b0 : (((rd_T96 l0 x11_1).f0) == 0) = false := beq_eq_false_iff_ne.mpr c8
                have c8b1 : (((rd_T96 l0 x11_1).f0) != 0) = true := bne_iff_ne.mpr c8
                have H' := Aside0.mk H
                clear H
                have p131 : 0 ≤ (x11_1 : Int) := of_decide_eq_true (by first | (with_reducible assumption) | assumption)
                have q131 : x11_1 < (l0.length : Int) := of_decide_eq_true (by first | (with_reducible assumption) | assumption)
                obtain ⟨ad131, e131, hx131_0, hx131_1, hx131_2⟩ := at_T96 HR0.out x11_1 p131 q131
                cases e131
                replace hx131_0 := (HB.out.cell (World.block_lt_of_cell? w _ hx131_0)).trans hx131_0
                replace hx131_1 := (HB.out.cell (World.block_lt_of_cell? w _ hx131_1)).trans hx131_1
                replace hx131_2 := (HB.out.cell (World.block_lt_of_cell? w _ hx131_2)).trans hx131_2
                replace p131 := eq_true p131
                replace q131 := eq_true q131
                go_wp2_with (first | ((with_reducible refine gate_dst (N := 5) rfl ?_); refine box_event ?hg (N := 5) ?hd (cs := #[.int .i64 0, .int .i64 0, .int .i64 0]) (t := 96) ?hr ?_; (case hd => rfl); (case hg => rfl); (case hr => first | (go_simp; done) | (go_simp; rfl)); intro gb132 hg w9 hbox hb; have n0_ := Aside0.mk (below_step (by repeat (first | (with_reducible first | exact HB.out | apply below_alloc | apply pw_below_drewN | apply below_drew1) | exact HB.out)) hb); have n1_ := Aside0.mk (hbox); have n2_ := Aside0.mk ((by rw [hg]; exact (below_size (by repeat (first | (with_reducible first | exact HB.out | apply below_alloc | apply pw_below_drewN | apply below_drew1) | exact HB.out))) : w.heap.size ≤ gb132)); have n3_ := Aside0.mk ((by rw [hg]; exact (below_size (by repeat (first | (with_reducible first | exact HB.out | apply below_alloc | apply pw_below_drewN | apply below_drew1) | exact HB.out))) : w.heap.size ≤ gb132)); clear HB; have HB := n0_; have BK132 := n1_; have GW132 := n2_; have GE132 := n3_; clear n0_ n1_ n2_ n3_; clear hb hbox hg; have hcz10_0 : w9.cell? ⟨gb132, 0, none⟩ = some (.int .i64 0) := (blk_cell BK132.out 0).trans rfl; have hcz10_1 : w9.cell? ⟨gb132, 1, none⟩ = some (.int .i64 0) := (blk_cell BK132.out 1).trans rfl; have hcz10_2 : w9.cell? ⟨gb132, 2, none⟩ = some (.int .i64 0) := (blk_cell BK132.out 2).trans rfl; have hfz10_0 := blk_frozen BK132.out 0; have hfz10_1 := blk_frozen BK132.out 1; have hfz10_2 := blk_frozen BK132.out 2))
                go_roundg k1
                case measure => have := HK1.out; omega
                case rel => exact ⟨(wrap64 (x3_1 + (wrap64 (Int.tdiv (wrap64 ((wrap64 ((wrap64 (1000 * ((rd_T96 l0 x11_1).f1))) + ((rd_T96 l0 x11_1).f0))) - 1)) ((rd_T96 l0 x11_1).f0))))), (wrap64 (x11_1 + 1)), (by first | rfl | (simp; done) | (simp [*]; done)), (by first | rfl | (simp; done) | (simp [*]; done)), H', ⟨by have := HK1.out; omega⟩, ⟨by repeat (first | (with_reducible first | exact HB.out | apply below_alloc | apply pw_below_drewN | apply below_drew1 | refine below_set ?_ GE132.out) | exact HB.out)⟩⟩
            · rw [if_neg c7] at H
              exact absurd H (by simp)
          · rw [if_neg c6] at H
            exact absurd H (by simp)
        · rw [if_neg c5] at H
          have c5b0 : decide (x11_1 < (l0.length : Int)) = false := decide_eq_false c5
          clear c5
          obtain rfl := Option.some.inj H
          go_wp2
          go_ret
          exact ⟨by first | rfl | (simp [errW_none, errW_some] <;> rfl) | (simp [*, errW_none, errW_some] <;> rfl), by repeat (first | (with_reducible first | exact HB.out | apply below_alloc | apply pw_below_drewN | apply below_drew1) | exact HB.out)⟩
  · replace c3 := Bool.eq_false_iff.mpr c3
    subst c3
    have H1 : (some (-1)) = some r := by rw [if_neg (show ¬ (false = true) by decide)] at H; exact H
    clear H
    have H := H1
    clear H1
    obtain rfl := Option.some.inj H
    go_enter Try.func38, Try.ntmps38
    go_wp2_with (first | ((with_reducible refine gate_callee (f := 30) rfl ?_); refine goesL_ (some 7) rfl rfl Try.func30 (by kernel_rfl) rfl #[.slice A0 l0.length c0] rfl (by (try simp only [List.map_toArray, List.map_cons, List.map_nil]); first | done | rfl | (simp only [List.length_drop, List.length_take]; rfl)) ?_; (with_reducible refine (impl_TasksValid.calls _ _ l0 false _ ?side1 ?side2 A2.out).mono ?_); (case side1 => repeat (first | exact HR0.out | (with_reducible refine Kd.C_alloc ?_ _) | (with_reducible refine Kd.C_drewN ?_ _) | (with_reducible refine Kd.C_drew ?_))); (case side2 => exact HC0.out); rintro e w11 ⟨rfl, hb⟩; refine ⟨_, rfl, ?_⟩; have n0_ := Aside0.mk (below_step (by repeat (first | (with_reducible first | exact HB.out | apply below_alloc | apply pw_below_drewN | apply below_drew1) | exact HB.out)) hb); clear HB; have HB := n0_; clear n0_; (try clear hb); (try clear hb2); (try clear hk); (try clear hi)))
    go_ret
    exact ⟨by first | rfl | (simp [errW_none, errW_some] <;> rfl) | (simp [*, errW_none, errW_some] <;> rfl), by repeat (first | (with_reducible first | exact HB.out | apply below_alloc | apply pw_below_drewN | apply below_drew1) | exact HB.out)⟩

/-! ### laws_FnExactTaskLoad: function 7 -/
def laws_FnExactTaskLoad.f (k : Nat) (l0 : List (S98)) : Option (Bool) := (laws_szTaskS.f l0 1048576).bind fun t133 => (if t133 < 0 then (some true) else ((laws_toTaskS.f k l0).bind fun t134 => ((spec_TaskLoad.f k t134).bind fun t137 => ((laws_toTaskS.f k l0).bind fun t138 => ((impl_TaskLoad.f k t138).bind fun t141 => (if t141 = t137 then ((laws_toTaskS.f k l0).bind fun t142 => ((laws_eqTaskS.f k t138 t142).bind fun t145 => (if t145 = true then (some true) else (some false)))) else (some false)))))))
theorem laws_FnExactTaskLoad.mono : ∀ a0 k, LeO (laws_FnExactTaskLoad.f k a0) (laws_FnExactTaskLoad.f (k + 1) a0) := by
  intro a0 k
  unfold laws_FnExactTaskLoad.f
  repeat' first
      | (with_reducible exact impl_TaskLoad.mono _ _)
      | (with_reducible exact laws_eqTaskS.mono _ _ _)
      | (with_reducible exact laws_toTaskS.mono _ _)
      | (with_reducible exact spec_TaskLoad.mono _ _)
      | (with_reducible exact LeO.refl _)
      | (with_reducible exact LeO.none _)
      | (with_reducible refine LeO.ite ?_ ?_)
      | (with_reducible refine LeO.bind ?_ (fun _ => ?_))
      | exact impl_TaskLoad.mono _ _
      | exact laws_eqTaskS.mono _ _ _
      | exact laws_toTaskS.mono _ _
      | exact spec_TaskLoad.mono _ _
      | exact LeO.none _
      | refine LeO.ite ?_ ?_
      | refine LeO.bind ?_ (fun _ => ?_)
set_option maxHeartbeats 8000000 in
set_option maxRecDepth 100000 in
theorem laws_FnExactTaskLoad.calls (k : Nat) (A0 : Option Addr) (c0 : Nat) (l0 : List (S98)) (r : Bool) (w : World) (hr0 : Kd.C k98 w A0 l0.length l0) (hc0 : l0.length ≤ c0) (h : laws_FnExactTaskLoad.f k l0 = some r) :
    Calls Try.prog 7 #[.slice A0 l0.length c0] w fun e w' => e = .returned (.bool r) ∧ Below w.heap.size w w' := by
  have HR0 := Aside0.mk hr0
  have HC0 := Aside0.mk hc0
  clear hr0 hc0
  have HB := Aside0.mk (Below.refl w.heap.size w)
  have H : ((laws_szTaskS.f l0 1048576).bind fun t133 => (if t133 < 0 then (some true) else ((laws_toTaskS.f k l0).bind fun t134 => ((spec_TaskLoad.f k t134).bind fun t137 => ((laws_toTaskS.f k l0).bind fun t138 => ((impl_TaskLoad.f k t138).bind fun t141 => (if t141 = t137 then ((laws_toTaskS.f k l0).bind fun t142 => ((laws_eqTaskS.f k t138 t142).bind fun t145 => (if t145 = true then (some true) else (some false)))) else (some false)))))))) = some r := h
  clear h
  replace H := Option.bind_eq_some_iff.mp H
  obtain ⟨t133, A20, H⟩ := H
  replace H : (if t133 < 0 then (some true) else ((laws_toTaskS.f k l0).bind fun t134 => ((spec_TaskLoad.f k t134).bind fun t137 => ((laws_toTaskS.f k l0).bind fun t138 => ((impl_TaskLoad.f k t138).bind fun t141 => (if t141 = t137 then ((laws_toTaskS.f k l0).bind fun t142 => ((laws_eqTaskS.f k t138 t142).bind fun t145 => (if t145 = true then (some true) else (some false)))) else (some false))))))) = some r := H
  have A2 := Aside0.mk A20
  clear A20
  by_cases c3 : t133 < 0
  · rw [if_pos c3] at H
    have c3b0 : decide (t133 < 0) = true := decide_eq_true c3
    clear c3
    obtain rfl := Option.some.inj H
    go_enter Try.func7, Try.ntmps7
    go_wp2_with (first | ((with_reducible refine gate_callee (f := 27) rfl ?_); refine goesL_ (some 9) rfl rfl Try.func27 (by kernel_rfl) rfl #[.slice A0 l0.length c0, .int .i64 1048576] rfl (by (try simp only [List.map_toArray, List.map_cons, List.map_nil]); first | done | rfl | (simp only [List.length_drop, List.length_take]; rfl)) ?_; (with_reducible refine (laws_szTaskS.calls _ _ l0 1048576 t133 _ ?side1 ?side2 A2.out).mono ?_); (case side1 => repeat (first | exact HR0.out | (with_reducible refine Kd.C_alloc ?_ _) | (with_reducible refine Kd.C_drewN ?_ _) | (with_reducible refine Kd.C_drew ?_))); (case side2 => exact HC0.out); rintro e w' ⟨rfl, ⟨nd, rfl⟩⟩; refine ⟨_, rfl, ?_⟩))
    go_ret
    exact ⟨by first | rfl | (simp [errW_none, errW_some] <;> rfl) | (simp [*, errW_none, errW_some] <;> rfl), by repeat (first | (with_reducible first | exact HB.out | apply below_alloc | apply pw_below_drewN | apply below_drew1) | exact HB.out)⟩
  · rw [if_neg c3] at H
    have c3b0 : decide (t133 < 0) = false := decide_eq_false c3
    clear c3
    replace H := Option.bind_eq_some_iff.mp H
    obtain ⟨t134, A40, H⟩ := H
    replace H : ((spec_TaskLoad.f k t134).bind fun t137 => ((laws_toTaskS.f k l0).bind fun t138 => ((impl_TaskLoad.f k t138).bind fun t141 => (if t141 = t137 then ((laws_toTaskS.f k l0).bind fun t142 => ((laws_eqTaskS.f k t138 t142).bind fun t145 => (if t145 = true then (some true) else (some false)))) else (some false))))) = some r := H
    have A4 := Aside0.mk A40
    clear A40
    replace H := Option.bind_eq_some_iff.mp H
    obtain ⟨t137, A50, H⟩ := H
    replace H : ((laws_toTaskS.f k l0).bind fun t138 => ((impl_TaskLoad.f k t138).bind fun t141 => (if t141 = t137 then ((laws_toTaskS.f k l0).bind fun t142 => ((laws_eqTaskS.f k t138 t142).bind fun t145 => (if t145 = true then (some true) else (some false)))) else (some false)))) = some r := H
    have A5 := Aside0.mk A50
    clear A50
    replace H := Option.bind_eq_some_iff.mp H
    obtain ⟨t138, A60, H⟩ := H
    replace H : ((impl_TaskLoad.f k t138).bind fun t141 => (if t141 = t137 then ((laws_toTaskS.f k l0).bind fun t142 => ((laws_eqTaskS.f k t138 t142).bind fun t145 => (if t145 = true then (some true) else (some false)))) else (some false))) = some r := H
    have A6 := Aside0.mk A60
    clear A60
    replace H := Option.bind_eq_some_iff.mp H
    obtain ⟨t141, A70, H⟩ := H
    replace H : (if t141 = t137 then ((laws_toTaskS.f k l0).bind fun t142 => ((laws_eqTaskS.f k t138 t142).bind fun t145 => (if t145 = true then (some true) else (some false)))) else (some false)) = some r := H
    have A7 := Aside0.mk A70
    clear A70
    by_cases c8 : t141 = t137
    · rw [if_pos c8] at H
      have c8b0 : (t141 == t137) = true := beq_iff_eq.mpr c8
      have c8b1 : (t141 != t137) = false := bne_eq_false_iff_eq.mpr c8
      clear c8
      replace H := Option.bind_eq_some_iff.mp H
      obtain ⟨t142, A90, H⟩ := H
      replace H : ((laws_eqTaskS.f k t138 t142).bind fun t145 => (if t145 = true then (some true) else (some false))) = some r := H
      have A9 := Aside0.mk A90
      clear A90
      replace H := Option.bind_eq_some_iff.mp H
      obtain ⟨t145, A100, H⟩ := H
      replace H : (if t145 = true then (some true) else (some false)) = some r := H
      have A10 := Aside0.mk A100
      clear A100
      by_cases c11 : t145 = true
      · subst c11
        have H1 : (some true) = some r := by rw [if_pos rfl] at H; exact H
        clear H
        have H := H1
        clear H1
        obtain rfl := Option.some.inj H
        go_enter Try.func7, Try.ntmps7
        go_wp2_with (first | ((with_reducible refine gate_callee (f := 27) rfl ?_); refine goesL_ (some 9) rfl rfl Try.func27 (by kernel_rfl) rfl #[.slice A0 l0.length c0, .int .i64 1048576] rfl (by (try simp only [List.map_toArray, List.map_cons, List.map_nil]); first | done | rfl | (simp only [List.length_drop, List.length_take]; rfl)) ?_; (with_reducible refine (laws_szTaskS.calls _ _ l0 1048576 t133 _ ?side1 ?side2 A2.out).mono ?_); (case side1 => repeat (first | exact HR0.out | (with_reducible refine Kd.C_alloc ?_ _) | (with_reducible refine Kd.C_drewN ?_ _) | (with_reducible refine Kd.C_drew ?_))); (case side2 => exact HC0.out); rintro e w' ⟨rfl, ⟨nd, rfl⟩⟩; refine ⟨_, rfl, ?_⟩) | ((with_reducible refine gate_callee (f := 29) rfl ?_); refine goesL_ (some 13) rfl rfl Try.func29 (by kernel_rfl) rfl #[.slice A0 l0.length c0] rfl (by (try simp only [List.map_toArray, List.map_cons, List.map_nil]); first | done | rfl | (simp only [List.length_drop, List.length_take]; rfl)) ?_; (with_reducible refine (laws_toTaskS.calls k _ _ l0 t134 _ ?side1 ?side2 A4.out).mono ?_); (case side1 => repeat (first | exact HR0.out | (with_reducible refine Kd.C_alloc ?_ _) | (with_reducible refine Kd.C_drewN ?_ _) | (with_reducible refine Kd.C_drew ?_))); (case side2 => exact HC0.out); rintro e w12 ⟨v135, rfl, ho0, hb⟩; refine ⟨_, rfl, ?_⟩; have n0_ := Aside0.mk (Kd.R_lower ho0 (below_size (by repeat (first | (with_reducible first | exact HB.out | apply below_alloc | apply pw_below_drewN | apply below_drew1) | exact HB.out)))); have n1_ := Aside0.mk (below_step (by repeat (first | (with_reducible first | exact HB.out | apply below_alloc | apply pw_below_drewN | apply below_drew1) | exact HB.out)) hb); clear HB; have HO136 := n0_; have HB := n1_; clear n0_ n1_; (try clear hb); (try clear hb2); (try clear hk); (try clear hi); (try clear ho0); obtain ⟨Ao13, co13, eo13⟩ := Kd.R_slice HO136.out; subst eo13) | ((with_reducible refine gate_callee (f := 37) rfl ?_); refine goesL_ (some 14) rfl rfl Try.func37 (by kernel_rfl) rfl #[.slice Ao13 t134.length co13] rfl (by (try simp only [List.map_toArray, List.map_cons, List.map_nil]); first | done | rfl | (simp only [List.length_drop, List.length_take]; rfl)) ?_; (with_reducible refine (spec_TaskLoad.calls k _ _ t134 t137 _ ?side1 ?side2 A5.out).mono ?_); (case side1 => repeat (first | exact (Kd.R_reads' HO136.out).2.2 | (with_reducible refine Kd.C_alloc ?_ _) | (with_reducible refine Kd.C_drewN ?_ _) | (with_reducible refine Kd.C_drew ?_))); (case side2 => exact (Kd.R_reads' HO136.out).2.1); rintro e w14 ⟨rfl, hb⟩; refine ⟨_, rfl, ?_⟩; have n0_ := Aside0.mk (Kd.R_below (by (with_reducible repeat (first | apply Kd.R_alloc | apply Kd.R_drewN | apply Kd.R_drew)); exact HO136.out) hb); have n1_ := Aside0.mk (below_step (by repeat (first | (with_reducible first | exact HB.out | apply below_alloc | apply pw_below_drewN | apply below_drew1) | exact HB.out)) hb); clear HO136; clear HB; have HO136 := n0_; have HB := n1_; clear n0_ n1_; (try clear hb); (try clear hb2); (try clear hk); (try clear hi)) | ((with_reducible refine gate_callee (f := 29) rfl ?_); refine goesL_ (some 16) rfl rfl Try.func29 (by kernel_rfl) rfl #[.slice A0 l0.length c0] rfl (by (try simp only [List.map_toArray, List.map_cons, List.map_nil]); first | done | rfl | (simp only [List.length_drop, List.length_take]; rfl)) ?_; (with_reducible refine (laws_toTaskS.calls k _ _ l0 t138 _ ?side1 ?side2 A6.out).mono ?_); (case side1 => repeat (first | exact (Kd.C_below HR0.out HB.out) | (with_reducible refine Kd.C_alloc ?_ _) | (with_reducible refine Kd.C_drewN ?_ _) | (with_reducible refine Kd.C_drew ?_))); (case side2 => exact HC0.out); rintro e w15 ⟨v139, rfl, ho0, hb⟩; refine ⟨_, rfl, ?_⟩; have n0_ := Aside0.mk (Kd.R_elder' (by (with_reducible repeat (first | apply Kd.R_alloc | apply Kd.R_drewN | apply Kd.R_drew)); exact HO136.out) (Kd.R_base ho0) hb); have n1_ := Aside0.mk (Kd.R_lower (Kd.R_new' ho0 (Kd.R_lt (by (with_reducible repeat (first | apply Kd.R_alloc | apply Kd.R_drewN | apply Kd.R_drew)); exact HO136.out))) (below_size (by repeat (first | (with_reducible first | exact HB.out | apply below_alloc | apply pw_below_drewN | apply below_drew1) | exact HB.out)))); have n2_ := Aside0.mk (below_step (by repeat (first | (with_reducible first | exact HB.out | apply below_alloc | apply pw_below_drewN | apply below_drew1) | exact HB.out)) hb); clear HO136; clear HB; have HO136 := n0_; have HO140 := n1_; have HB := n2_; clear n0_ n1_ n2_; (try clear hb); (try clear hb2); (try clear hk); (try clear hi); (try clear ho0); obtain ⟨Ao16, co16, eo16⟩ := Kd.R_slice HO140.out; subst eo16) | ((with_reducible refine gate_callee (f := 38) rfl ?_); refine goesL_ (some 18) rfl rfl Try.func38 (by kernel_rfl) rfl #[.slice Ao16 t138.length co16] rfl (by (try simp only [List.map_toArray, List.map_cons, List.map_nil]); first | done | rfl | (simp only [List.length_drop, List.length_take]; rfl)) ?_; (with_reducible refine (impl_TaskLoad.calls k _ _ t138 t141 _ ?side1 ?side2 A7.out).mono ?_); (case side1 => repeat (first | exact (Kd.R_reads' HO140.out).2.2 | (with_reducible refine Kd.C_alloc ?_ _) | (with_reducible refine Kd.C_drewN ?_ _) | (with_reducible refine Kd.C_drew ?_))); (case side2 => exact (Kd.R_reads' HO140.out).2.1); rintro e w17 ⟨rfl, hb⟩; refine ⟨_, rfl, ?_⟩; have n0_ := Aside0.mk (Kd.R_below (by (with_reducible repeat (first | apply Kd.R_alloc | apply Kd.R_drewN | apply Kd.R_drew)); exact HO136.out) hb); have n1_ := Aside0.mk (Kd.R_below (by (with_reducible repeat (first | apply Kd.R_alloc | apply Kd.R_drewN | apply Kd.R_drew)); exact HO140.out) hb); have n2_ := Aside0.mk (below_step (by repeat (first | (with_reducible first | exact HB.out | apply below_alloc | apply pw_below_drewN | apply below_drew1) | exact HB.out)) hb); clear HO136; clear HO140; clear HB; have HO136 := n0_; have HO140 := n1_; have HB := n2_; clear n0_ n1_ n2_; (try clear hb); (try clear hb2); (try clear hk); (try clear hi)) | ((with_reducible refine gate_callee (f := 29) rfl ?_); refine goesL_ (some 24) rfl rfl Try.func29 (by kernel_rfl) rfl #[.slice A0 l0.length c0] rfl (by (try simp only [List.map_toArray, List.map_cons, List.map_nil]); first | done | rfl | (simp only [List.length_drop, List.length_take]; rfl)) ?_; (with_reducible refine (laws_toTaskS.calls k _ _ l0 t142 _ ?side1 ?side2 A9.out).mono ?_); (case side1 => repeat (first | exact (Kd.C_below HR0.out HB.out) | (with_reducible refine Kd.C_alloc ?_ _) | (with_reducible refine Kd.C_drewN ?_ _) | (with_reducible refine Kd.C_drew ?_))); (case side2 => exact HC0.out); rintro e w18 ⟨v143, rfl, ho0, hb⟩; refine ⟨_, rfl, ?_⟩; have n0_ := Aside0.mk (Kd.R_elder' (by (with_reducible repeat (first | apply Kd.R_alloc | apply Kd.R_drewN | apply Kd.R_drew)); exact HO136.out) (Kd.R_base ho0) hb); have n1_ := Aside0.mk (Kd.R_elder' (by (with_reducible repeat (first | apply Kd.R_alloc | apply Kd.R_drewN | apply Kd.R_drew)); exact HO140.out) (Kd.R_base ho0) hb); have n2_ := Aside0.mk (Kd.R_lower (Kd.R_new' (Kd.R_new' ho0 (Kd.R_lt (by (with_reducible repeat (first | apply Kd.R_alloc | apply Kd.R_drewN | apply Kd.R_drew)); exact HO136.out))) (Kd.R_lt (by (with_reducible repeat (first | apply Kd.R_alloc | apply Kd.R_drewN | apply Kd.R_drew)); exact HO140.out))) (below_size (by repeat (first | (with_reducible first | exact HB.out | apply below_alloc | apply pw_below_drewN | apply below_drew1) | exact HB.out)))); have n3_ := Aside0.mk (below_step (by repeat (first | (with_reducible first | exact HB.out | apply below_alloc | apply pw_below_drewN | apply below_drew1) | exact HB.out)) hb); clear HO136; clear HO140; clear HB; have HO136 := n0_; have HO140 := n1_; have HO144 := n2_; have HB := n3_; clear n0_ n1_ n2_ n3_; (try clear hb); (try clear hb2); (try clear hk); (try clear hi); (try clear ho0); obtain ⟨Ao19, co19, eo19⟩ := Kd.R_slice HO144.out; subst eo19) | ((with_reducible refine gate_callee (f := 31) rfl ?_); refine goesL_ (some 25) rfl rfl Try.func31 (by kernel_rfl) rfl #[.slice Ao16 t138.length co16, .slice Ao19 t142.length co19] rfl (by (try simp only [List.map_toArray, List.map_cons, List.map_nil]); first | done | rfl | (simp only [List.length_drop, List.length_take]; rfl)) ?_; (with_reducible refine (laws_eqTaskS.calls k _ _ t138 _ _ t142 true _ ?side1 ?side2 ?side3 ?side4 A10.out).mono ?_); (case side1 => repeat (first | exact (Kd.R_reads' HO140.out).2.2 | (with_reducible refine Kd.C_alloc ?_ _) | (with_reducible refine Kd.C_drewN ?_ _) | (with_reducible refine Kd.C_drew ?_))); (case side2 => exact (Kd.R_reads' HO140.out).2.1); (case side3 => repeat (first | exact (Kd.R_reads' HO144.out).2.2 | (with_reducible refine Kd.C_alloc ?_ _) | (with_reducible refine Kd.C_drewN ?_ _) | (with_reducible refine Kd.C_drew ?_))); (case side4 => exact (Kd.R_reads' HO144.out).2.1); rintro e w20 ⟨rfl, hb⟩; refine ⟨_, rfl, ?_⟩; have n0_ := Aside0.mk (Kd.R_below (by (with_reducible repeat (first | apply Kd.R_alloc | apply Kd.R_drewN | apply Kd.R_drew)); exact HO136.out) hb); have n1_ := Aside0.mk (Kd.R_below (by (with_reducible repeat (first | apply Kd.R_alloc | apply Kd.R_drewN | apply Kd.R_drew)); exact HO140.out) hb); have n2_ := Aside0.mk (Kd.R_below (by (with_reducible repeat (first | apply Kd.R_alloc | apply Kd.R_drewN | apply Kd.R_drew)); exact HO144.out) hb); have n3_ := Aside0.mk (below_step (by repeat (first | (with_reducible first | exact HB.out | apply below_alloc | apply pw_below_drewN | apply below_drew1) | exact HB.out)) hb); clear HO136; clear HO140; clear HO144; clear HB; have HO136 := n0_; have HO140 := n1_; have HO144 := n2_; have HB := n3_; clear n0_ n1_ n2_ n3_; (try clear hb); (try clear hb2); (try clear hk); (try clear hi)))
        go_ret
        exact ⟨by first | rfl | (simp [errW_none, errW_some] <;> rfl) | (simp [*, errW_none, errW_some] <;> rfl), by repeat (first | (with_reducible first | exact HB.out | apply below_alloc | apply pw_below_drewN | apply below_drew1) | exact HB.out)⟩
      · replace c11 := Bool.eq_false_iff.mpr c11
        subst c11
        have H1 : (some false) = some r := by rw [if_neg (show ¬ (false = true) by decide)] at H; exact H
        clear H
        have H := H1
        clear H1
        obtain rfl := Option.some.inj H
        go_enter Try.func7, Try.ntmps7
        go_wp2_with (first | ((with_reducible refine gate_callee (f := 27) rfl ?_); refine goesL_ (some 9) rfl rfl Try.func27 (by kernel_rfl) rfl #[.slice A0 l0.length c0, .int .i64 1048576] rfl (by (try simp only [List.map_toArray, List.map_cons, List.map_nil]); first | done | rfl | (simp only [List.length_drop, List.length_take]; rfl)) ?_; (with_reducible refine (laws_szTaskS.calls _ _ l0 1048576 t133 _ ?side1 ?side2 A2.out).mono ?_); (case side1 => repeat (first | exact HR0.out | (with_reducible refine Kd.C_alloc ?_ _) | (with_reducible refine Kd.C_drewN ?_ _) | (with_reducible refine Kd.C_drew ?_))); (case side2 => exact HC0.out); rintro e w' ⟨rfl, ⟨nd, rfl⟩⟩; refine ⟨_, rfl, ?_⟩) | ((with_reducible refine gate_callee (f := 29) rfl ?_); refine goesL_ (some 13) rfl rfl Try.func29 (by kernel_rfl) rfl #[.slice A0 l0.length c0] rfl (by (try simp only [List.map_toArray, List.map_cons, List.map_nil]); first | done | rfl | (simp only [List.length_drop, List.length_take]; rfl)) ?_; (with_reducible refine (laws_toTaskS.calls k _ _ l0 t134 _ ?side1 ?side2 A4.out).mono ?_); (case side1 => repeat (first | exact HR0.out | (with_reducible refine Kd.C_alloc ?_ _) | (with_reducible refine Kd.C_drewN ?_ _) | (with_reducible refine Kd.C_drew ?_))); (case side2 => exact HC0.out); rintro e w21 ⟨v135, rfl, ho0, hb⟩; refine ⟨_, rfl, ?_⟩; have n0_ := Aside0.mk (Kd.R_lower ho0 (below_size (by repeat (first | (with_reducible first | exact HB.out | apply below_alloc | apply pw_below_drewN | apply below_drew1) | exact HB.out)))); have n1_ := Aside0.mk (below_step (by repeat (first | (with_reducible first | exact HB.out | apply below_alloc | apply pw_below_drewN | apply below_drew1) | exact HB.out)) hb); clear HB; have HO136 := n0_; have HB := n1_; clear n0_ n1_; (try clear hb); (try clear hb2); (try clear hk); (try clear hi); (try clear ho0); obtain ⟨Ao22, co22, eo22⟩ := Kd.R_slice HO136.out; subst eo22) | ((with_reducible refine gate_callee (f := 37) rfl ?_); refine goesL_ (some 14) rfl rfl Try.func37 (by kernel_rfl) rfl #[.slice Ao22 t134.length co22] rfl (by (try simp only [List.map_toArray, List.map_cons, List.map_nil]); first | done | rfl | (simp only [List.length_drop, List.length_take]; rfl)) ?_; (with_reducible refine (spec_TaskLoad.calls k _ _ t134 t137 _ ?side1 ?side2 A5.out).mono ?_); (case side1 => repeat (first | exact (Kd.R_reads' HO136.out).2.2 | (with_reducible refine Kd.C_alloc ?_ _) | (with_reducible refine Kd.C_drewN ?_ _) | (with_reducible refine Kd.C_drew ?_))); (case side2 => exact (Kd.R_reads' HO136.out).2.1); rintro e w23 ⟨rfl, hb⟩; refine ⟨_, rfl, ?_⟩; have n0_ := Aside0.mk (Kd.R_below (by (with_reducible repeat (first | apply Kd.R_alloc | apply Kd.R_drewN | apply Kd.R_drew)); exact HO136.out) hb); have n1_ := Aside0.mk (below_step (by repeat (first | (with_reducible first | exact HB.out | apply below_alloc | apply pw_below_drewN | apply below_drew1) | exact HB.out)) hb); clear HO136; clear HB; have HO136 := n0_; have HB := n1_; clear n0_ n1_; (try clear hb); (try clear hb2); (try clear hk); (try clear hi)) | ((with_reducible refine gate_callee (f := 29) rfl ?_); refine goesL_ (some 16) rfl rfl Try.func29 (by kernel_rfl) rfl #[.slice A0 l0.length c0] rfl (by (try simp only [List.map_toArray, List.map_cons, List.map_nil]); first | done | rfl | (simp only [List.length_drop, List.length_take]; rfl)) ?_; (with_reducible refine (laws_toTaskS.calls k _ _ l0 t138 _ ?side1 ?side2 A6.out).mono ?_); (case side1 => repeat (first | exact (Kd.C_below HR0.out HB.out) | (with_reducible refine Kd.C_alloc ?_ _) | (with_reducible refine Kd.C_drewN ?_ _) | (with_reducible refine Kd.C_drew ?_))); (case side2 => exact HC0.out); rintro e w24 ⟨v139, rfl, ho0, hb⟩; refine ⟨_, rfl, ?_⟩; have n0_ := Aside0.mk (Kd.R_elder' (by (with_reducible repeat (first | apply Kd.R_alloc | apply Kd.R_drewN | apply Kd.R_drew)); exact HO136.out) (Kd.R_base ho0) hb); have n1_ := Aside0.mk (Kd.R_lower (Kd.R_new' ho0 (Kd.R_lt (by (with_reducible repeat (first | apply Kd.R_alloc | apply Kd.R_drewN | apply Kd.R_drew)); exact HO136.out))) (below_size (by repeat (first | (with_reducible first | exact HB.out | apply below_alloc | apply pw_below_drewN | apply below_drew1) | exact HB.out)))); have n2_ := Aside0.mk (below_step (by repeat (first | (with_reducible first | exact HB.out | apply below_alloc | apply pw_below_drewN | apply below_drew1) | exact HB.out)) hb); clear HO136; clear HB; have HO136 := n0_; have HO140 := n1_; have HB := n2_; clear n0_ n1_ n2_; (try clear hb); (try clear hb2); (try clear hk); (try clear hi); (try clear ho0); obtain ⟨Ao25, co25, eo25⟩ := Kd.R_slice HO140.out; subst eo25) | ((with_reducible refine gate_callee (f := 38) rfl ?_); refine goesL_ (some 18) rfl rfl Try.func38 (by kernel_rfl) rfl #[.slice Ao25 t138.length co25] rfl (by (try simp only [List.map_toArray, List.map_cons, List.map_nil]); first | done | rfl | (simp only [List.length_drop, List.length_take]; rfl)) ?_; (with_reducible refine (impl_TaskLoad.calls k _ _ t138 t141 _ ?side1 ?side2 A7.out).mono ?_); (case side1 => repeat (first | exact (Kd.R_reads' HO140.out).2.2 | (with_reducible refine Kd.C_alloc ?_ _) | (with_reducible refine Kd.C_drewN ?_ _) | (with_reducible refine Kd.C_drew ?_))); (case side2 => exact (Kd.R_reads' HO140.out).2.1); rintro e w26 ⟨rfl, hb⟩; refine ⟨_, rfl, ?_⟩; have n0_ := Aside0.mk (Kd.R_below (by (with_reducible repeat (first | apply Kd.R_alloc | apply Kd.R_drewN | apply Kd.R_drew)); exact HO136.out) hb); have n1_ := Aside0.mk (Kd.R_below (by (with_reducible repeat (first | apply Kd.R_alloc | apply Kd.R_drewN | apply Kd.R_drew)); exact HO140.out) hb); have n2_ := Aside0.mk (below_step (by repeat (first | (with_reducible first | exact HB.out | apply below_alloc | apply pw_below_drewN | apply below_drew1) | exact HB.out)) hb); clear HO136; clear HO140; clear HB; have HO136 := n0_; have HO140 := n1_; have HB := n2_; clear n0_ n1_ n2_; (try clear hb); (try clear hb2); (try clear hk); (try clear hi)) | ((with_reducible refine gate_callee (f := 29) rfl ?_); refine goesL_ (some 24) rfl rfl Try.func29 (by kernel_rfl) rfl #[.slice A0 l0.length c0] rfl (by (try simp only [List.map_toArray, List.map_cons, List.map_nil]); first | done | rfl | (simp only [List.length_drop, List.length_take]; rfl)) ?_; (with_reducible refine (laws_toTaskS.calls k _ _ l0 t142 _ ?side1 ?side2 A9.out).mono ?_); (case side1 => repeat (first | exact (Kd.C_below HR0.out HB.out) | (with_reducible refine Kd.C_alloc ?_ _) | (with_reducible refine Kd.C_drewN ?_ _) | (with_reducible refine Kd.C_drew ?_))); (case side2 => exact HC0.out); rintro e w27 ⟨v143, rfl, ho0, hb⟩; refine ⟨_, rfl, ?_⟩; have n0_ := Aside0.mk (Kd.R_elder' (by (with_reducible repeat (first | apply Kd.R_alloc | apply Kd.R_drewN | apply Kd.R_drew)); exact HO136.out) (Kd.R_base ho0) hb); have n1_ := Aside0.mk (Kd.R_elder' (by (with_reducible repeat (first | apply Kd.R_alloc | apply Kd.R_drewN | apply Kd.R_drew)); exact HO140.out) (Kd.R_base ho0) hb); have n2_ := Aside0.mk (Kd.R_lower (Kd.R_new' (Kd.R_new' ho0 (Kd.R_lt (by (with_reducible repeat (first | apply Kd.R_alloc | apply Kd.R_drewN | apply Kd.R_drew)); exact HO136.out))) (Kd.R_lt (by (with_reducible repeat (first | apply Kd.R_alloc | apply Kd.R_drewN | apply Kd.R_drew)); exact HO140.out))) (below_size (by repeat (first | (with_reducible first | exact HB.out | apply below_alloc | apply pw_below_drewN | apply below_drew1) | exact HB.out)))); have n3_ := Aside0.mk (below_step (by repeat (first | (with_reducible first | exact HB.out | apply below_alloc | apply pw_below_drewN | apply below_drew1) | exact HB.out)) hb); clear HO136; clear HO140; clear HB; have HO136 := n0_; have HO140 := n1_; have HO144 := n2_; have HB := n3_; clear n0_ n1_ n2_ n3_; (try clear hb); (try clear hb2); (try clear hk); (try clear hi); (try clear ho0); obtain ⟨Ao28, co28, eo28⟩ := Kd.R_slice HO144.out; subst eo28) | ((with_reducible refine gate_callee (f := 31) rfl ?_); refine goesL_ (some 25) rfl rfl Try.func31 (by kernel_rfl) rfl #[.slice Ao25 t138.length co25, .slice Ao28 t142.length co28] rfl (by (try simp only [List.map_toArray, List.map_cons, List.map_nil]); first | done | rfl | (simp only [List.length_drop, List.length_take]; rfl)) ?_; (with_reducible refine (laws_eqTaskS.calls k _ _ t138 _ _ t142 false _ ?side1 ?side2 ?side3 ?side4 A10.out).mono ?_); (case side1 => repeat (first | exact (Kd.R_reads' HO140.out).2.2 | (with_reducible refine Kd.C_alloc ?_ _) | (with_reducible refine Kd.C_drewN ?_ _) | (with_reducible refine Kd.C_drew ?_))); (case side2 => exact (Kd.R_reads' HO140.out).2.1); (case side3 => repeat (first | exact (Kd.R_reads' HO144.out).2.2 | (with_reducible refine Kd.C_alloc ?_ _) | (with_reducible refine Kd.C_drewN ?_ _) | (with_reducible refine Kd.C_drew ?_))); (case side4 => exact (Kd.R_reads' HO144.out).2.1); rintro e w29 ⟨rfl, hb⟩; refine ⟨_, rfl, ?_⟩; have n0_ := Aside0.mk (Kd.R_below (by (with_reducible repeat (first | apply Kd.R_alloc | apply Kd.R_drewN | apply Kd.R_drew)); exact HO136.out) hb); have n1_ := Aside0.mk (Kd.R_below (by (with_reducible repeat (first | apply Kd.R_alloc | apply Kd.R_drewN | apply Kd.R_drew)); exact HO140.out) hb); have n2_ := Aside0.mk (Kd.R_below (by (with_reducible repeat (first | apply Kd.R_alloc | apply Kd.R_drewN | apply Kd.R_drew)); exact HO144.out) hb); have n3_ := Aside0.mk (below_step (by repeat (first | (with_reducible first | exact HB.out | apply below_alloc | apply pw_below_drewN | apply below_drew1) | exact HB.out)) hb); clear HO136; clear HO140; clear HO144; clear HB; have HO136 := n0_; have HO140 := n1_; have HO144 := n2_; have HB := n3_; clear n0_ n1_ n2_ n3_; (try clear hb); (try clear hb2); (try clear hk); (try clear hi)))
        go_ret
        exact ⟨by first | rfl | (simp [errW_none, errW_some] <;> rfl) | (simp [*, errW_none, errW_some] <;> rfl), by repeat (first | (with_reducible first | exact HB.out | apply below_alloc | apply pw_below_drewN | apply below_drew1) | exact HB.out)⟩
    · rw [if_neg c8] at H
      have c8b0 : (t141 == t137) = false := beq_eq_false_iff_ne.mpr c8
      have c8b1 : (t141 != t137) = true := bne_iff_ne.mpr c8
      obtain rfl := Option.some.inj H
      go_enter Try.func7, Try.ntmps7
      go_wp2_with (first | ((with_reducible refine gate_callee (f := 27) rfl ?_); refine goesL_ (some 9) rfl rfl Try.func27 (by kernel_rfl) rfl #[.slice A0 l0.length c0, .int .i64 1048576] rfl (by (try simp only [List.map_toArray, List.map_cons, List.map_nil]); first | done | rfl | (simp only [List.length_drop, List.length_take]; rfl)) ?_; (with_reducible refine (laws_szTaskS.calls _ _ l0 1048576 t133 _ ?side1 ?side2 A2.out).mono ?_); (case side1 => repeat (first | exact HR0.out | (with_reducible refine Kd.C_alloc ?_ _) | (with_reducible refine Kd.C_drewN ?_ _) | (with_reducible refine Kd.C_drew ?_))); (case side2 => exact HC0.out); rintro e w' ⟨rfl, ⟨nd, rfl⟩⟩; refine ⟨_, rfl, ?_⟩) | ((with_reducible refine gate_callee (f := 29) rfl ?_); refine goesL_ (some 13) rfl rfl Try.func29 (by kernel_rfl) rfl #[.slice A0 l0.length c0] rfl (by (try simp only [List.map_toArray, List.map_cons, List.map_nil]); first | done | rfl | (simp only [List.length_drop, List.length_take]; rfl)) ?_; (with_reducible refine (laws_toTaskS.calls k _ _ l0 t134 _ ?side1 ?side2 A4.out).mono ?_); (case side1 => repeat (first | exact HR0.out | (with_reducible refine Kd.C_alloc ?_ _) | (with_reducible refine Kd.C_drewN ?_ _) | (with_reducible refine Kd.C_drew ?_))); (case side2 => exact HC0.out); rintro e w30 ⟨v135, rfl, ho0, hb⟩; refine ⟨_, rfl, ?_⟩; have n0_ := Aside0.mk (Kd.R_lower ho0 (below_size (by repeat (first | (with_reducible first | exact HB.out | apply below_alloc | apply pw_below_drewN | apply below_drew1) | exact HB.out)))); have n1_ := Aside0.mk (below_step (by repeat (first | (with_reducible first | exact HB.out | apply below_alloc | apply pw_below_drewN | apply below_drew1) | exact HB.out)) hb); clear HB; have HO136 := n0_; have HB := n1_; clear n0_ n1_; (try clear hb); (try clear hb2); (try clear hk); (try clear hi); (try clear ho0); obtain ⟨Ao31, co31, eo31⟩ := Kd.R_slice HO136.out; subst eo31) | ((with_reducible refine gate_callee (f := 37) rfl ?_); refine goesL_ (some 14) rfl rfl Try.func37 (by kernel_rfl) rfl #[.slice Ao31 t134.length co31] rfl (by (try simp only [List.map_toArray, List.map_cons, List.map_nil]); first | done | rfl | (simp only [List.length_drop, List.length_take]; rfl)) ?_; (with_reducible refine (spec_TaskLoad.calls k _ _ t134 t137 _ ?side1 ?side2 A5.out).mono ?_); (case side1 => repeat (first | exact (Kd.R_reads' HO136.out).2.2 | (with_reducible refine Kd.C_alloc ?_ _) | (with_reducible refine Kd.C_drewN ?_ _) | (with_reducible refine Kd.C_drew ?_))); (case side2 => exact (Kd.R_reads' HO136.out).2.1); rintro e w32 ⟨rfl, hb⟩; refine ⟨_, rfl, ?_⟩; have n0_ := Aside0.mk (Kd.R_below (by (with_reducible repeat (first | apply Kd.R_alloc | apply Kd.R_drewN | apply Kd.R_drew)); exact HO136.out) hb); have n1_ := Aside0.mk (below_step (by repeat (first | (with_reducible first | exact HB.out | apply below_alloc | apply pw_below_drewN | apply below_drew1) | exact HB.out)) hb); clear HO136; clear HB; have HO136 := n0_; have HB := n1_; clear n0_ n1_; (try clear hb); (try clear hb2); (try clear hk); (try clear hi)) | ((with_reducible refine gate_callee (f := 29) rfl ?_); refine goesL_ (some 16) rfl rfl Try.func29 (by kernel_rfl) rfl #[.slice A0 l0.length c0] rfl (by (try simp only [List.map_toArray, List.map_cons, List.map_nil]); first | done | rfl | (simp only [List.length_drop, List.length_take]; rfl)) ?_; (with_reducible refine (laws_toTaskS.calls k _ _ l0 t138 _ ?side1 ?side2 A6.out).mono ?_); (case side1 => repeat (first | exact (Kd.C_below HR0.out HB.out) | (with_reducible refine Kd.C_alloc ?_ _) | (with_reducible refine Kd.C_drewN ?_ _) | (with_reducible refine Kd.C_drew ?_))); (case side2 => exact HC0.out); rintro e w33 ⟨v139, rfl, ho0, hb⟩; refine ⟨_, rfl, ?_⟩; have n0_ := Aside0.mk (Kd.R_elder' (by (with_reducible repeat (first | apply Kd.R_alloc | apply Kd.R_drewN | apply Kd.R_drew)); exact HO136.out) (Kd.R_base ho0) hb); have n1_ := Aside0.mk (Kd.R_lower (Kd.R_new' ho0 (Kd.R_lt (by (with_reducible repeat (first | apply Kd.R_alloc | apply Kd.R_drewN | apply Kd.R_drew)); exact HO136.out))) (below_size (by repeat (first | (with_reducible first | exact HB.out | apply below_alloc | apply pw_below_drewN | apply below_drew1) | exact HB.out)))); have n2_ := Aside0.mk (below_step (by repeat (first | (with_reducible first | exact HB.out | apply below_alloc | apply pw_below_drewN | apply below_drew1) | exact HB.out)) hb); clear HO136; clear HB; have HO136 := n0_; have HO140 := n1_; have HB := n2_; clear n0_ n1_ n2_; (try clear hb); (try clear hb2); (try clear hk); (try clear hi); (try clear ho0); obtain ⟨Ao34, co34, eo34⟩ := Kd.R_slice HO140.out; subst eo34) | ((with_reducible refine gate_callee (f := 38) rfl ?_); refine goesL_ (some 18) rfl rfl Try.func38 (by kernel_rfl) rfl #[.slice Ao34 t138.length co34] rfl (by (try simp only [List.map_toArray, List.map_cons, List.map_nil]); first | done | rfl | (simp only [List.length_drop, List.length_take]; rfl)) ?_; (with_reducible refine (impl_TaskLoad.calls k _ _ t138 t141 _ ?side1 ?side2 A7.out).mono ?_); (case side1 => repeat (first | exact (Kd.R_reads' HO140.out).2.2 | (with_reducible refine Kd.C_alloc ?_ _) | (with_reducible refine Kd.C_drewN ?_ _) | (with_reducible refine Kd.C_drew ?_))); (case side2 => exact (Kd.R_reads' HO140.out).2.1); rintro e w35 ⟨rfl, hb⟩; refine ⟨_, rfl, ?_⟩; have n0_ := Aside0.mk (Kd.R_below (by (with_reducible repeat (first | apply Kd.R_alloc | apply Kd.R_drewN | apply Kd.R_drew)); exact HO136.out) hb); have n1_ := Aside0.mk (Kd.R_below (by (with_reducible repeat (first | apply Kd.R_alloc | apply Kd.R_drewN | apply Kd.R_drew)); exact HO140.out) hb); have n2_ := Aside0.mk (below_step (by repeat (first | (with_reducible first | exact HB.out | apply below_alloc | apply pw_below_drewN | apply below_drew1) | exact HB.out)) hb); clear HO136; clear HO140; clear HB; have HO136 := n0_; have HO140 := n1_; have HB := n2_; clear n0_ n1_ n2_; (try clear hb); (try clear hb2); (try clear hk); (try clear hi)))
      go_ret
      exact ⟨by first | rfl | (simp [errW_none, errW_some] <;> rfl) | (simp [*, errW_none, errW_some] <;> rfl), by repeat (first | (with_reducible first | exact HB.out | apply below_alloc | apply pw_below_drewN | apply below_drew1) | exact HB.out)⟩

end Go.Proofs.Ythbbhdadioiefaa.QFnExactTaskLoad
