-- Written by wip/pr2.py: a program of this session's own, which runs the kit's print over contracts of its own.
import Derived.Test.YthbbhdadioiefaaQFnExactTrendErrorx0
import Derived.Test.YthbbhdadioiefaaQFnExactTrendErrorx2
namespace Go.Proofs.Ythbbhdadioiefaa.QFnExactTrendError
open Go.RowKit Go.Proofs.YthbbhdadioiefaaW.PrintWords Go.Proofs.YthbbhdadioiefaaW.PrintLast Go.Proofs.YthbbhdadioiefaaW.PrintMore
attribute [local go_sem] max2_int min2_int max_two min_two max_three min_three max_four min_four   -- for this text's walks alone
set_option linter.unusedVariables false
set_option linter.unusedSimpArgs false

/-! ### spec_l7Floor: function 87 -/
def spec_l7Floor.f (a0 : Int) (a1 : Int) : Option (Int) := if a1 = 0 then (none) else (if (Int.tmod a0 a1) < 0 then (some (wrap64 ((wrap64 (Int.tdiv a0 a1)) - 1))) else (some (wrap64 (Int.tdiv a0 a1))))
set_option maxHeartbeats 8000000 in
set_option maxRecDepth 100000 in
theorem spec_l7Floor.calls (a0 : Int) (a1 : Int) (r : Int) (w : World) (h : spec_l7Floor.f a0 a1 = some r) :
    Calls Try.prog 87 #[.int .i64 a0, .int .i64 a1] w fun e w' => e = .returned (.int .i64 r) ∧ Drawn0 w w' := by
  have H : (if a1 = 0 then (none) else (if (Int.tmod a0 a1) < 0 then (some (wrap64 ((wrap64 (Int.tdiv a0 a1)) - 1))) else (some (wrap64 (Int.tdiv a0 a1))))) = some r := h
  clear h
  by_cases c3 : a1 = 0
  · rw [if_pos c3] at H
    exact absurd H (by simp)
  · rw [if_neg c3] at H
    have c3b0 : (a1 == 0) = false := beq_eq_false_iff_ne.mpr c3
    have c3b1 : (a1 != 0) = true := bne_iff_ne.mpr c3
    by_cases c4 : (Int.tmod a0 a1) < 0
    · rw [if_pos c4] at H
      have c4b0 : decide ((Int.tmod a0 a1) < 0) = true := decide_eq_true c4
      clear c4
      obtain rfl := Option.some.inj H
      go_enter Try.func87, Try.ntmps87
      go_wp2
      go_ret
      exact ⟨by first | rfl | (simp; done) | (simp [*]; done), by repeat (first | exact Drawn0.refl _ | apply Drawn0.step)⟩
    · rw [if_neg c4] at H
      have c4b0 : decide ((Int.tmod a0 a1) < 0) = false := decide_eq_false c4
      clear c4
      obtain rfl := Option.some.inj H
      go_enter Try.func87, Try.ntmps87
      go_wp2
      go_ret
      exact ⟨by first | rfl | (simp; done) | (simp [*]; done), by repeat (first | exact Drawn0.refl _ | apply Drawn0.step)⟩

/-! ### spec_TrendAt: function 41 -/
mutual
def spec_TrendAt.j0 : Nat → List (S84) → Int → Bool → Option (Int)
  | 0, _, _, _ => none
  | k + 1, x0, x1, x15 => if x15 = true then (some 0) else (if 0 < (x0.length : Int) then (if x1 ≤ ((rd_T84 x0 0).f0) then (some ((rd_T84 x0 0).f1)) else (spec_TrendAt.l0 k x0 x1 1)) else (none))
def spec_TrendAt.l0 : Nat → List (S84) → Int → Int → Option (Int)
  | 0, _, _, _ => none
  | k + 1, x0, x1, x5 => if x5 < (x0.length : Int) then (if 0 ≤ x5 then (if x1 ≤ ((rd_T84 x0 x5).f0) then (if 0 ≤ (wrap64 (x5 - 1)) then (if (wrap64 (x5 - 1)) < (x0.length : Int) then ((spec_l7Floor.f (wrap64 ((wrap64 (((rd_T84 x0 x5).f1) - ((rd_T84 x0 (wrap64 (x5 - 1))).f1))) * (wrap64 (x1 - ((rd_T84 x0 (wrap64 (x5 - 1))).f0))))) (wrap64 (((rd_T84 x0 x5).f0) - ((rd_T84 x0 (wrap64 (x5 - 1))).f0)))).bind fun t133 => (some (wrap64 (((rd_T84 x0 (wrap64 (x5 - 1))).f1) + t133)))) else (none)) else (none)) else (spec_TrendAt.l0 k x0 x1 (wrap64 (x5 + 1)))) else (none)) else (if 0 ≤ (wrap64 ((x0.length : Int) - 1)) then (if (wrap64 ((x0.length : Int) - 1)) < (x0.length : Int) then (some ((rd_T84 x0 (wrap64 ((x0.length : Int) - 1))).f1)) else (none)) else (none))
end
def spec_TrendAt.f (k : Nat) (l0 : List (S84)) (a1 : Int) : Option (Int) := (spec_TrendValid.f k l0).bind fun t125 => (if t125 = true then (spec_TrendAt.j0 k l0 a1 ((l0.length : Int) == 0)) else (spec_TrendAt.j0 k l0 a1 true))
theorem spec_TrendAt.mono_l : ∀ k, (∀ y0 y1 y2, LeO (spec_TrendAt.j0 k y0 y1 y2) (spec_TrendAt.j0 (k + 1) y0 y1 y2)) ∧ (∀ y0 y1 y2, LeO (spec_TrendAt.l0 k y0 y1 y2) (spec_TrendAt.l0 (k + 1) y0 y1 y2))
  | 0 => ⟨fun _ _ _ r h => by simp [spec_TrendAt.j0] at h, fun _ _ _ r h => by simp [spec_TrendAt.l0] at h⟩
  | k + 1 => by
    obtain ⟨ih0, ih1⟩ := spec_TrendAt.mono_l k
    refine ⟨?_, ?_⟩
    · intro y0 y1 y2
      unfold spec_TrendAt.j0
      repeat' first
      | (with_reducible exact ih0 _ _ _)
      | (with_reducible exact ih1 _ _ _)
      | (with_reducible exact spec_TrendValid.mono _ _)
      | (with_reducible exact LeO.refl _)
      | (with_reducible exact LeO.none _)
      | (with_reducible refine LeO.ite ?_ ?_)
      | (with_reducible refine LeO.bind ?_ (fun _ => ?_))
      | exact ih0 _ _ _
      | exact ih1 _ _ _
      | exact spec_TrendValid.mono _ _
      | exact LeO.none _
      | refine LeO.ite ?_ ?_
      | refine LeO.bind ?_ (fun _ => ?_)
    · intro y0 y1 y2
      unfold spec_TrendAt.l0
      repeat' first
      | (with_reducible exact ih0 _ _ _)
      | (with_reducible exact ih1 _ _ _)
      | (with_reducible exact spec_TrendValid.mono _ _)
      | (with_reducible exact LeO.refl _)
      | (with_reducible exact LeO.none _)
      | (with_reducible refine LeO.ite ?_ ?_)
      | (with_reducible refine LeO.bind ?_ (fun _ => ?_))
      | exact ih0 _ _ _
      | exact ih1 _ _ _
      | exact spec_TrendValid.mono _ _
      | exact LeO.none _
      | refine LeO.ite ?_ ?_
      | refine LeO.bind ?_ (fun _ => ?_)
theorem spec_TrendAt.mono : ∀ a0 a1 k, LeO (spec_TrendAt.f k a0 a1) (spec_TrendAt.f (k + 1) a0 a1) := by
  intro a0 a1 k
  obtain ⟨ih0, ih1⟩ := spec_TrendAt.mono_l k
  unfold spec_TrendAt.f
  repeat' first
      | (with_reducible exact ih0 _ _ _)
      | (with_reducible exact ih1 _ _ _)
      | (with_reducible exact spec_TrendValid.mono _ _)
      | (with_reducible exact LeO.refl _)
      | (with_reducible exact LeO.none _)
      | (with_reducible refine LeO.ite ?_ ?_)
      | (with_reducible refine LeO.bind ?_ (fun _ => ?_))
      | exact ih0 _ _ _
      | exact ih1 _ _ _
      | exact spec_TrendValid.mono _ _
      | exact LeO.none _
      | refine LeO.ite ?_ ?_
      | refine LeO.bind ?_ (fun _ => ?_)
set_option maxHeartbeats 8000000 in
set_option maxRecDepth 100000 in
theorem spec_TrendAt.calls (k : Nat) (A0 : Option Addr) (c0 : Nat) (l0 : List (S84)) (a1 : Int) (r : Int) (w : World) (hr0 : Kd.C k84 w A0 l0.length l0) (hc0 : l0.length ≤ c0) (h : spec_TrendAt.f k l0 a1 = some r) :
    Calls Try.prog 41 #[.slice A0 l0.length c0, .int .i64 a1] w fun e w' => e = .returned (.int .i64 r) ∧ Below w.heap.size w w' := by
  have hu84 := Try.underlying84
  have HR0 := Aside0.mk hr0
  have HC0 := Aside0.mk hc0
  clear hr0 hc0
  have HB := Aside0.mk (Below.refl w.heap.size w)
  have H : ((spec_TrendValid.f k l0).bind fun t125 => (if t125 = true then (spec_TrendAt.j0 k l0 a1 ((l0.length : Int) == 0)) else (spec_TrendAt.j0 k l0 a1 true))) = some r := h
  clear h
  have HC3 := Aside0.mk H
  clear H
  go_enter Try.func41, Try.ntmps41
  go_upto_region 1 with (fail)
  repeat (go_quiet (fail); go_upto_region 1 with (fail))
  go_cut [15] (fun v15 wc => ∃ (kq : Nat) (x15_2 : Bool), v15 = .bool x15_2 ∧ Aside0 (spec_TrendAt.j0 kq l0 a1 x15_2 = some r) ∧ Aside0 (kq ≤ k) ∧ Aside0 (Below w.heap.size w wc))
  case first =>
    have H := HC3.out
    clear HC3
    replace H := Option.bind_eq_some_iff.mp H
    obtain ⟨t125, A40, H⟩ := H
    replace H : (if t125 = true then (spec_TrendAt.j0 k l0 a1 ((l0.length : Int) == 0)) else (spec_TrendAt.j0 k l0 a1 true)) = some r := H
    have A4 := Aside0.mk A40
    clear A40
    by_cases c5 : t125 = true
    · subst c5
      have H1 : (spec_TrendAt.j0 k l0 a1 ((l0.length : Int) == 0)) = some r := by rw [if_pos rfl] at H; exact H
      clear H
      have H := H1
      clear H1
      have H' := Aside0.mk H
      clear H
      go_wp2_with (first | (go_at_call 18; (with_reducible refine (spec_TrendValid.calls k _ _ l0 true _ ?side1 ?side2 A4.out).mono ?_); (case side1 => repeat (first | exact (Kd.C_below HR0.out HB.out) | (with_reducible refine Kd.C_alloc ?_ _) | (with_reducible refine Kd.C_drewN ?_ _) | (with_reducible refine Kd.C_drew ?_))); (case side2 => exact HC0.out); rintro e w6 ⟨rfl, hb⟩; have n0_ := Aside0.mk (below_step (by repeat (first | (with_reducible first | exact HB.out | apply below_alloc | apply pw_below_drewN | apply below_drew1) | exact HB.out)) hb); clear HB; have HB := n0_; clear n0_; (try clear hb); (try clear hb2); (try clear hk); (try clear hi)))
      repeat (go_quiet (first | (go_at_call 18; (with_reducible refine (spec_TrendValid.calls k _ _ l0 true _ ?side1 ?side2 A4.out).mono ?_); (case side1 => repeat (first | exact (Kd.C_below HR0.out HB.out) | (with_reducible refine Kd.C_alloc ?_ _) | (with_reducible refine Kd.C_drewN ?_ _) | (with_reducible refine Kd.C_drew ?_))); (case side2 => exact HC0.out); rintro e w6 ⟨rfl, hb⟩; have n0_ := Aside0.mk (below_step (by repeat (first | (with_reducible first | exact HB.out | apply below_alloc | apply pw_below_drewN | apply below_drew1) | exact HB.out)) hb); clear HB; have HB := n0_; clear n0_; (try clear hb); (try clear hb2); (try clear hk); (try clear hi))); try go_wp2_with (first | (go_at_call 18; (with_reducible refine (spec_TrendValid.calls k _ _ l0 true _ ?side1 ?side2 A4.out).mono ?_); (case side1 => repeat (first | exact (Kd.C_below HR0.out HB.out) | (with_reducible refine Kd.C_alloc ?_ _) | (with_reducible refine Kd.C_drewN ?_ _) | (with_reducible refine Kd.C_drew ?_))); (case side2 => exact HC0.out); rintro e w6 ⟨rfl, hb⟩; have n0_ := Aside0.mk (below_step (by repeat (first | (with_reducible first | exact HB.out | apply below_alloc | apply pw_below_drewN | apply below_drew1) | exact HB.out)) hb); clear HB; have HB := n0_; clear n0_; (try clear hb); (try clear hb2); (try clear hk); (try clear hi))))
      go_meet
      case rel => exact ⟨_, (((l0.length : Int) == 0)), (by first | rfl | (simp; done) | (simp [*]; done)), H', ⟨by first | omega | exact Nat.le_refl _⟩, ⟨by repeat (first | (with_reducible first | exact HB.out | apply below_alloc | apply pw_below_drewN | apply below_drew1) | exact HB.out)⟩⟩
    · replace c5 := Bool.eq_false_iff.mpr c5
      subst c5
      have H1 : (spec_TrendAt.j0 k l0 a1 true) = some r := by rw [if_neg (show ¬ (false = true) by decide)] at H; exact H
      clear H
      have H := H1
      clear H1
      have H' := Aside0.mk H
      clear H
      go_wp2_with (first | (go_at_call 18; (with_reducible refine (spec_TrendValid.calls k _ _ l0 false _ ?side1 ?side2 A4.out).mono ?_); (case side1 => repeat (first | exact (Kd.C_below HR0.out HB.out) | (with_reducible refine Kd.C_alloc ?_ _) | (with_reducible refine Kd.C_drewN ?_ _) | (with_reducible refine Kd.C_drew ?_))); (case side2 => exact HC0.out); rintro e w7 ⟨rfl, hb⟩; have n0_ := Aside0.mk (below_step (by repeat (first | (with_reducible first | exact HB.out | apply below_alloc | apply pw_below_drewN | apply below_drew1) | exact HB.out)) hb); clear HB; have HB := n0_; clear n0_; (try clear hb); (try clear hb2); (try clear hk); (try clear hi)))
      repeat (go_quiet (first | (go_at_call 18; (with_reducible refine (spec_TrendValid.calls k _ _ l0 false _ ?side1 ?side2 A4.out).mono ?_); (case side1 => repeat (first | exact (Kd.C_below HR0.out HB.out) | (with_reducible refine Kd.C_alloc ?_ _) | (with_reducible refine Kd.C_drewN ?_ _) | (with_reducible refine Kd.C_drew ?_))); (case side2 => exact HC0.out); rintro e w7 ⟨rfl, hb⟩; have n0_ := Aside0.mk (below_step (by repeat (first | (with_reducible first | exact HB.out | apply below_alloc | apply pw_below_drewN | apply below_drew1) | exact HB.out)) hb); clear HB; have HB := n0_; clear n0_; (try clear hb); (try clear hb2); (try clear hk); (try clear hi))); try go_wp2_with (first | (go_at_call 18; (with_reducible refine (spec_TrendValid.calls k _ _ l0 false _ ?side1 ?side2 A4.out).mono ?_); (case side1 => repeat (first | exact (Kd.C_below HR0.out HB.out) | (with_reducible refine Kd.C_alloc ?_ _) | (with_reducible refine Kd.C_drewN ?_ _) | (with_reducible refine Kd.C_drew ?_))); (case side2 => exact HC0.out); rintro e w7 ⟨rfl, hb⟩; have n0_ := Aside0.mk (below_step (by repeat (first | (with_reducible first | exact HB.out | apply below_alloc | apply pw_below_drewN | apply below_drew1) | exact HB.out)) hb); clear HB; have HB := n0_; clear n0_; (try clear hb); (try clear hb2); (try clear hk); (try clear hi))))
      go_meet
      case rel => exact ⟨_, (true), (by first | rfl | (simp; done) | (simp [*]; done)), H', ⟨by first | omega | exact Nat.le_refl _⟩, ⟨by repeat (first | (with_reducible first | exact HB.out | apply below_alloc | apply pw_below_drewN | apply below_drew1) | exact HB.out)⟩⟩
  case rest =>
    clear HC3
    try clear p2
    try clear c4
    try clear c5
    obtain ⟨kq, x15_2, rfl, HA, HJ2, HB⟩ := hcut
    cases kq with
    | zero => exact absurd HA.out (by simp [spec_TrendAt.j0])
    | succ kj2 =>
      have H := HA.out
      clear HA
      simp only [spec_TrendAt.j0] at H
      by_cases c8 : x15_2 = true
      · subst c8
        have H1 : (some 0) = some r := by rw [if_pos rfl] at H; exact H
        clear H
        have H := H1
        clear H1
        obtain rfl := Option.some.inj H
        go_wp2
        repeat (go_quiet (fail); try go_wp2)
        go_ret
        exact ⟨by first | rfl | (simp [errW_none, errW_some] <;> rfl) | (simp [*, errW_none, errW_some] <;> rfl), by repeat (first | (with_reducible first | exact HB.out | apply below_alloc | apply pw_below_drewN | apply below_drew1) | exact HB.out)⟩
      · replace c8 := Bool.eq_false_iff.mpr c8
        subst c8
        have H1 : (if 0 < (l0.length : Int) then (if a1 ≤ ((rd_T84 l0 0).f0) then (some ((rd_T84 l0 0).f1)) else (spec_TrendAt.l0 kj2 l0 a1 1)) else (none)) = some r := by rw [if_neg (show ¬ (false = true) by decide)] at H; exact H
        clear H
        have H := H1
        clear H1
        by_cases c9 : 0 < (l0.length : Int)
        · rw [if_pos c9] at H
          have c9b0 : decide (0 < (l0.length : Int)) = true := decide_eq_true c9
          have c9b1 : decide (0 < l0.length) = true := decide_eq_true (by omega)
          clear c9
          by_cases c10 : a1 ≤ ((rd_T84 l0 0).f0)
          · rw [if_pos c10] at H
            have c10b0 : decide (a1 ≤ ((rd_T84 l0 0).f0)) = true := decide_eq_true c10
            clear c10
            obtain rfl := Option.some.inj H
            have p126 : 0 ≤ (0 : Int) := (by omega)
            have q126 : 0 < (l0.length : Int) := of_decide_eq_true (by first | (with_reducible assumption) | assumption)
            obtain ⟨ad126, e126, hx126_0, hx126_1⟩ := at_T84 HR0.out 0 p126 q126
            cases e126
            have qi126 : (0 < l0.length) = True := eq_true (by omega)
            (try rw [show ((0 : Int)).toNat = 0 from rfl] at hx126_0)
            (try rw [show 0 * 2 = 0 from rfl] at hx126_0)
            (try rw [Addr.add_zero'] at hx126_0)
            (try rw [show ((0 : Int)).toNat = 0 from rfl] at hx126_1)
            (try rw [show 0 * 2 = 0 from rfl] at hx126_1)
            (try rw [Addr.add_zero'] at hx126_1)
            replace hx126_0 := (HB.out.cell (World.block_lt_of_cell? w _ hx126_0)).trans hx126_0
            replace hx126_1 := (HB.out.cell (World.block_lt_of_cell? w _ hx126_1)).trans hx126_1
            replace p126 := eq_true p126
            replace q126 := eq_true q126
            have p127 : 0 ≤ (0 : Int) := (by omega)
            have q127 : 0 < (l0.length : Int) := of_decide_eq_true (by first | (with_reducible assumption) | assumption)
            obtain ⟨ad127, e127, hx127_0, hx127_1⟩ := at_T84 HR0.out 0 p127 q127
            obtain rfl : ad126 = ad127 := (by injection e127)
            have qi127 : (0 < l0.length) = True := eq_true (by omega)
            (try rw [show ((0 : Int)).toNat = 0 from rfl] at hx127_0)
            (try rw [show 0 * 2 = 0 from rfl] at hx127_0)
            (try rw [Addr.add_zero'] at hx127_0)
            (try rw [show ((0 : Int)).toNat = 0 from rfl] at hx127_1)
            (try rw [show 0 * 2 = 0 from rfl] at hx127_1)
            (try rw [Addr.add_zero'] at hx127_1)
            replace hx127_0 := (HB.out.cell (World.block_lt_of_cell? w _ hx127_0)).trans hx127_0
            replace hx127_1 := (HB.out.cell (World.block_lt_of_cell? w _ hx127_1)).trans hx127_1
            replace p127 := eq_true p127
            replace q127 := eq_true q127
            go_wp2
            repeat (go_quiet (fail); try go_wp2)
            go_ret
            exact ⟨by first | rfl | (simp [errW_none, errW_some] <;> rfl) | (simp [*, errW_none, errW_some] <;> rfl), by repeat (first | (with_reducible first | exact HB.out | apply below_alloc | apply pw_below_drewN | apply below_drew1) | exact HB.out)⟩
          · rw [if_neg c10] at H
            have c10b0 : decide (a1 ≤ ((rd_T84 l0 0).f0)) = false := decide_eq_false c10
            clear c10
            have H' := Aside0.mk H
            clear H
            have p126 : 0 ≤ (0 : Int) := (by omega)
            have q126 : 0 < (l0.length : Int) := of_decide_eq_true (by first | (with_reducible assumption) | assumption)
            obtain ⟨ad126, e126, hx126_0, hx126_1⟩ := at_T84 HR0.out 0 p126 q126
            cases e126
            have qi126 : (0 < l0.length) = True := eq_true (by omega)
            (try rw [show ((0 : Int)).toNat = 0 from rfl] at hx126_0)
            (try rw [show 0 * 2 = 0 from rfl] at hx126_0)
            (try rw [Addr.add_zero'] at hx126_0)
            (try rw [show ((0 : Int)).toNat = 0 from rfl] at hx126_1)
            (try rw [show 0 * 2 = 0 from rfl] at hx126_1)
            (try rw [Addr.add_zero'] at hx126_1)
            replace hx126_0 := (HB.out.cell (World.block_lt_of_cell? w _ hx126_0)).trans hx126_0
            replace hx126_1 := (HB.out.cell (World.block_lt_of_cell? w _ hx126_1)).trans hx126_1
            replace p126 := eq_true p126
            replace q126 := eq_true q126
            go_wp2
            repeat (go_quiet (fail); try go_wp2)
            go_loopg [5] kj2 (fun kq v5 w' => ∃ (x5_2 : Int), v5 = .int .i64 x5_2 ∧ Aside0 (spec_TrendAt.l0 kq l0 a1 x5_2 = some r) ∧ Aside0 (kq ≤ kj2) ∧ Aside0 (Below w.heap.size w w'))
            case atStart => exact ⟨(1), (by first | rfl | (simp; done) | (simp [*]; done)), H', ⟨Nat.le_refl _⟩, ⟨by repeat (first | (with_reducible first | exact HB.out | apply below_alloc | apply pw_below_drewN | apply below_drew1) | exact HB.out)⟩⟩
            case round =>
              clear H'
              try clear c1
              try clear p1
              try clear q1
              try clear hx1
              try clear qi1
              try clear p2
              try clear c4
              try clear c5
              try clear c8
              try clear c9
              try clear c9b0
              try clear c9b1
              try clear c10
              try clear c10b0
              try clear hx126_0
              try clear hx126_1
              try clear hx127_0
              try clear hx127_1
              try clear p126
              try clear p127
              try clear p2
              try clear q126
              try clear q127
              obtain ⟨x5_2, rfl, HA, HK2, HB⟩ := hrel
              cases gk with
              | zero => exact absurd HA.out (by simp [spec_TrendAt.l0])
              | succ k2 =>
                have H := HA.out
                clear HA
                simp only [spec_TrendAt.l0] at H
                by_cases c11 : x5_2 < (l0.length : Int)
                · rw [if_pos c11] at H
                  have c11b0 : decide (x5_2 < (l0.length : Int)) = true := decide_eq_true c11
                  clear c11
                  by_cases c12 : 0 ≤ x5_2
                  · rw [if_pos c12] at H
                    have c12b0 : decide (0 ≤ x5_2) = true := decide_eq_true c12
                    clear c12
                    by_cases c13 : a1 ≤ ((rd_T84 l0 x5_2).f0)
                    · rw [if_pos c13] at H
                      have c13b0 : decide (a1 ≤ ((rd_T84 l0 x5_2).f0)) = true := decide_eq_true c13
                      clear c13
                      obtain ⟨ji14, hji14⟩ : ∃ j_ : Int, (wrap64 (x5_2 - 1)) = j_ := ⟨_, rfl⟩
                      replace H : (if 0 ≤ (ji14) then (if (ji14) < (l0.length : Int) then ((spec_l7Floor.f (wrap64 ((wrap64 (((rd_T84 l0 x5_2).f1) - ((rd_T84 l0 (ji14)).f1))) * (wrap64 (a1 - ((rd_T84 l0 (ji14)).f0))))) (wrap64 (((rd_T84 l0 x5_2).f0) - ((rd_T84 l0 (ji14)).f0)))).bind fun t133 => (some (wrap64 (((rd_T84 l0 (ji14)).f1) + t133)))) else (none)) else (none)) = some r := by first | (rw [hji14] at H; exact H) | (simp only [hji14] at H ⊢; exact H)
                      have hji14w : (IntKind.i64.wrap (x5_2 - 1)) = ji14 := (i64_w _).trans hji14
                      by_cases c15 : 0 ≤ (ji14)
                      · rw [if_pos c15] at H
                        have c15b0 : decide (0 ≤ (ji14)) = true := decide_eq_true c15
                        clear c15
                        by_cases c16 : (ji14) < (l0.length : Int)
                        · rw [if_pos c16] at H
                          have c16b0 : decide ((ji14) < (l0.length : Int)) = true := decide_eq_true c16
                          clear c16
                          replace H := Option.bind_eq_some_iff.mp H
                          obtain ⟨t133, A170, H⟩ := H
                          replace H : (some (wrap64 (((rd_T84 l0 (ji14)).f1) + t133))) = some r := H
                          have A17 := Aside0.mk A170
                          clear A170
                          obtain rfl := Option.some.inj H
                          have p128 : 0 ≤ (x5_2 : Int) := of_decide_eq_true (by first | (with_reducible assumption) | assumption)
                          have q128 : x5_2 < (l0.length : Int) := of_decide_eq_true (by first | (with_reducible assumption) | assumption)
                          obtain ⟨ad128, e128, hx128_0, hx128_1⟩ := at_T84 HR0.out x5_2 p128 q128
                          obtain rfl : ad126 = ad128 := (by injection e128)
                          replace hx128_0 := (HB.out.cell (World.block_lt_of_cell? w _ hx128_0)).trans hx128_0
                          replace hx128_1 := (HB.out.cell (World.block_lt_of_cell? w _ hx128_1)).trans hx128_1
                          replace p128 := eq_true p128
                          replace q128 := eq_true q128
                          have p129 : 0 ≤ ((ji14) : Int) := of_decide_eq_true (by first | (with_reducible assumption) | assumption)
                          have q129 : (ji14) < (l0.length : Int) := of_decide_eq_true (by first | (with_reducible assumption) | assumption)
                          obtain ⟨ad129, e129, hx129_0, hx129_1⟩ := at_T84 HR0.out (ji14) p129 q129
                          obtain rfl : ad126 = ad129 := (by injection e129)
                          replace hx129_0 := (HB.out.cell (World.block_lt_of_cell? w _ hx129_0)).trans hx129_0
                          replace hx129_1 := (HB.out.cell (World.block_lt_of_cell? w _ hx129_1)).trans hx129_1
                          replace p129 := eq_true p129
                          replace q129 := eq_true q129
                          go_wp2_with (first | ((with_reducible refine gate_dst (N := 6) rfl ?_); (try (refine gate_guard (by rfl) ?_; dsimp only)); refine box_event ?hg (N := 6) ?hd (cs := #[.int .i64 0, .int .i64 0]) (t := 84) ?hr ?_; (case hd => rfl); (case hg => rfl); (case hr => first | (go_simp; done) | (go_simp; rfl)); intro gb130 hg w18 hbox hb; have n0_ := Aside0.mk (below_step (by repeat (first | (with_reducible first | exact HB.out | apply below_alloc | apply pw_below_drewN | apply below_drew1) | exact HB.out)) hb); have n1_ := Aside0.mk (hbox); have n2_ := Aside0.mk ((by rw [hg]; exact (below_size (by repeat (first | (with_reducible first | exact HB.out | apply below_alloc | apply pw_below_drewN | apply below_drew1) | exact HB.out))) : w.heap.size ≤ gb130)); have n3_ := Aside0.mk ((by rw [hg]; exact (below_size (by repeat (first | (with_reducible first | exact HB.out | apply below_alloc | apply pw_below_drewN | apply below_drew1) | exact HB.out))) : w.heap.size ≤ gb130)); clear HB; have HB := n0_; have BK130 := n1_; have GW130 := n2_; have GE130 := n3_; clear n0_ n1_ n2_ n3_; clear hb hbox hg; have hcz19_0 : w18.cell? ⟨gb130, 0, none⟩ = some (.int .i64 0) := (blk_cell BK130.out 0).trans rfl; have hcz19_1 : w18.cell? ⟨gb130, 1, none⟩ = some (.int .i64 0) := (blk_cell BK130.out 1).trans rfl; have hfz19_0 := blk_frozen BK130.out 0; have hfz19_1 := blk_frozen BK130.out 1; have p131 : 0 ≤ (x5_2 : Int) := of_decide_eq_true (by first | (with_reducible assumption) | assumption); have q131 : x5_2 < (l0.length : Int) := of_decide_eq_true (by first | (with_reducible assumption) | assumption); obtain ⟨ad131, e131, hx131_0, hx131_1⟩ := at_T84 HR0.out x5_2 p131 q131; obtain rfl : ad126 = ad131 := (by injection e131); have hn131_0 : ad126.block ≠ gb130 := Nat.ne_of_lt (Nat.lt_of_lt_of_le (by have := World.block_lt_of_cell? _ _ hx131_0; first | rwa [add_block] at this | exact this) GW130.out); have hn131_1 : ad126.block ≠ gb130 := Nat.ne_of_lt (Nat.lt_of_lt_of_le (by have := World.block_lt_of_cell? _ _ hx131_0; first | rwa [add_block] at this | exact this) GW130.out); replace hx131_0 := (HB.out.cell (World.block_lt_of_cell? w _ hx131_0)).trans hx131_0; replace hx131_1 := (HB.out.cell (World.block_lt_of_cell? w _ hx131_1)).trans hx131_1; replace hx131_0 := (cell_far (p := ⟨gb130, 0, none⟩) (by first | (rw [add_block]; exact hn131_0) | (show (Addr.add _ _).block ≠ _; rw [add_block]; exact hn131_0) | exact hn131_0) (.int .i64 ((rd_T84 l0 (ji14)).f0))).trans hx131_0; replace hx131_1 := (cell_far (p := ⟨gb130, 0, none⟩) (by first | (rw [add_block]; exact hn131_0) | (show (Addr.add _ _).block ≠ _; rw [add_block]; exact hn131_0) | exact hn131_0) (.int .i64 ((rd_T84 l0 (ji14)).f0))).trans hx131_1; replace hx131_0 := (cell_far (p := ⟨gb130, 1, none⟩) (by first | (rw [add_block]; exact hn131_1) | (show (Addr.add _ _).block ≠ _; rw [add_block]; exact hn131_1) | exact hn131_1) (.int .i64 ((rd_T84 l0 (ji14)).f1))).trans hx131_0; replace hx131_1 := (cell_far (p := ⟨gb130, 1, none⟩) (by first | (rw [add_block]; exact hn131_1) | (show (Addr.add _ _).block ≠ _; rw [add_block]; exact hn131_1) | exact hn131_1) (.int .i64 ((rd_T84 l0 (ji14)).f1))).trans hx131_1; (try have hy131_0 := fun (n_ : Nat) => (show ((((w18.drewN n_).setCell ⟨gb130, 0, none⟩ (.int .i64 ((rd_T84 l0 (ji14)).f0))).setCell ⟨gb130, 1, none⟩ (.int .i64 ((rd_T84 l0 (ji14)).f1)))).cell? _ = some _ from hx131_0)); (try have hy131_1 := fun (n_ : Nat) => (show ((((w18.drewN n_).setCell ⟨gb130, 0, none⟩ (.int .i64 ((rd_T84 l0 (ji14)).f0))).setCell ⟨gb130, 1, none⟩ (.int .i64 ((rd_T84 l0 (ji14)).f1)))).cell? _ = some _ from hx131_1)); clear hn131_0; clear hn131_1; replace p131 := eq_true p131; replace q131 := eq_true q131) | ((with_reducible refine gate_dst (N := 7) rfl ?_); (try (refine gate_guard (by rfl) ?_; dsimp only)); refine box_event ?hg (N := 7) ?hd (cs := #[.int .i64 0, .int .i64 0]) (t := 84) ?hr ?_; (case hd => rfl); (case hg => rfl); (case hr => first | (go_simp; done) | (go_simp; rfl)); intro gb132 hg w20 hbox hb; have n0_ := Aside0.mk (blk_below (g := gb130) (o := .cells #[.int .i64 ((rd_T84 l0 (ji14)).f0), .int .i64 ((rd_T84 l0 (ji14)).f1)] 84 (0, 0)) (by (with_reducible repeat (first | refine blk_drewN ?_ _ | refine blk_drew ?_ | refine blk_alloc ?_ _)); refine blk_put (cs := #[.int .i64 ((rd_T84 l0 (ji14)).f0), .int .i64 0]) ?_ 1 _ rfl; (with_reducible repeat (first | refine blk_drewN ?_ _ | refine blk_drew ?_ | refine blk_alloc ?_ _)); refine blk_put (cs := #[.int .i64 0, .int .i64 0]) ?_ 0 _ rfl; (with_reducible repeat (first | refine blk_drewN ?_ _ | refine blk_drew ?_ | refine blk_alloc ?_ _)); exact BK130.out) hb); have n1_ := Aside0.mk (below_step (by repeat (first | (with_reducible first | exact HB.out | apply below_alloc | apply pw_below_drewN | apply below_drew1 | refine below_set ?_ GE130.out) | exact HB.out)) hb); have n2_ := Aside0.mk (hbox); have n3_ := Aside0.mk ((by rw [hg]; exact (below_size (by repeat (first | (with_reducible first | exact HB.out | apply below_alloc | apply pw_below_drewN | apply below_drew1 | refine below_set ?_ GE130.out) | exact HB.out))) : w.heap.size ≤ gb132)); have n4_ := Aside0.mk ((by rw [hg]; exact (below_size (by repeat (first | (with_reducible first | exact HB.out | apply below_alloc | apply pw_below_drewN | apply below_drew1 | refine below_set ?_ GE130.out) | exact HB.out))) : w.heap.size ≤ gb132)); have n5_ := Aside0.mk ((by rw [hg]; exact Nat.ne_of_lt (blk_lt (g := gb130) (o := .cells #[.int .i64 ((rd_T84 l0 (ji14)).f0), .int .i64 ((rd_T84 l0 (ji14)).f1)] 84 (0, 0)) (by (with_reducible repeat (first | refine blk_drewN ?_ _ | refine blk_drew ?_ | refine blk_alloc ?_ _)); refine blk_put (cs := #[.int .i64 ((rd_T84 l0 (ji14)).f0), .int .i64 0]) ?_ 1 _ rfl; (with_reducible repeat (first | refine blk_drewN ?_ _ | refine blk_drew ?_ | refine blk_alloc ?_ _)); refine blk_put (cs := #[.int .i64 0, .int .i64 0]) ?_ 0 _ rfl; (with_reducible repeat (first | refine blk_drewN ?_ _ | refine blk_drew ?_ | refine blk_alloc ?_ _)); exact BK130.out)) : gb130 ≠ gb132)); have n6_ := Aside0.mk ((by rw [hg]; exact Nat.ne_of_gt (blk_lt (g := gb130) (o := .cells #[.int .i64 ((rd_T84 l0 (ji14)).f0), .int .i64 ((rd_T84 l0 (ji14)).f1)] 84 (0, 0)) (by (with_reducible repeat (first | refine blk_drewN ?_ _ | refine blk_drew ?_ | refine blk_alloc ?_ _)); refine blk_put (cs := #[.int .i64 ((rd_T84 l0 (ji14)).f0), .int .i64 0]) ?_ 1 _ rfl; (with_reducible repeat (first | refine blk_drewN ?_ _ | refine blk_drew ?_ | refine blk_alloc ?_ _)); refine blk_put (cs := #[.int .i64 0, .int .i64 0]) ?_ 0 _ rfl; (with_reducible repeat (first | refine blk_drewN ?_ _ | refine blk_drew ?_ | refine blk_alloc ?_ _)); exact BK130.out)) : gb132 ≠ gb130)); clear BK130; clear HB; have BK130 := n0_; have HB := n1_; have BK132 := n2_; have GW132 := n3_; have GE132 := n4_; have NB130_132 := n5_; have NB132_130 := n6_; clear n0_ n1_ n2_ n3_ n4_ n5_ n6_; clear hb hbox hg; have hnb21 := NB132_130.out; have hnc21 := NB130_132.out; have hcz22_0 : w20.cell? ⟨gb132, 0, none⟩ = some (.int .i64 0) := (blk_cell BK132.out 0).trans rfl; have hcz22_1 : w20.cell? ⟨gb132, 1, none⟩ = some (.int .i64 0) := (blk_cell BK132.out 1).trans rfl; have hfz22_0 := blk_frozen BK132.out 0; have hfz22_1 := blk_frozen BK132.out 1; have hcz23_0 : w20.cell? ⟨gb130, 0, none⟩ = some (.int .i64 ((rd_T84 l0 (ji14)).f0)) := (blk_cell BK130.out 0).trans rfl; have hcz23_1 : w20.cell? ⟨gb130, 1, none⟩ = some (.int .i64 ((rd_T84 l0 (ji14)).f1)) := (blk_cell BK130.out 1).trans rfl; have hfz23_0 := blk_frozen BK130.out 0; have hfz23_1 := blk_frozen BK130.out 1) | (go_at_call 87; (with_reducible refine (spec_l7Floor.calls (wrap64 ((wrap64 (((rd_T84 l0 x5_2).f1) - ((rd_T84 l0 (ji14)).f1))) * (wrap64 (a1 - ((rd_T84 l0 (ji14)).f0))))) (wrap64 (((rd_T84 l0 x5_2).f0) - ((rd_T84 l0 (ji14)).f0))) t133 _ A17.out).mono ?_); rintro e w' ⟨rfl, ⟨nd, rfl⟩⟩; (try first | exact ⟨rfl, _, World.drewN_drewN _ _ _⟩ | exact ⟨rfl, _, Eq.trans (World.drewN_drewN _ _ _) (congrArg (World.drewN _) (Nat.add_assoc _ _ _))⟩)))
                          repeat (go_quiet (first | ((with_reducible refine gate_dst (N := 6) rfl ?_); (try (refine gate_guard (by rfl) ?_; dsimp only)); refine box_event ?hg (N := 6) ?hd (cs := #[.int .i64 0, .int .i64 0]) (t := 84) ?hr ?_; (case hd => rfl); (case hg => rfl); (case hr => first | (go_simp; done) | (go_simp; rfl)); intro gb130 hg w18 hbox hb; have n0_ := Aside0.mk (below_step (by repeat (first | (with_reducible first | exact HB.out | apply below_alloc | apply pw_below_drewN | apply below_drew1) | exact HB.out)) hb); have n1_ := Aside0.mk (hbox); have n2_ := Aside0.mk ((by rw [hg]; exact (below_size (by repeat (first | (with_reducible first | exact HB.out | apply below_alloc | apply pw_below_drewN | apply below_drew1) | exact HB.out))) : w.heap.size ≤ gb130)); have n3_ := Aside0.mk ((by rw [hg]; exact (below_size (by repeat (first | (with_reducible first | exact HB.out | apply below_alloc | apply pw_below_drewN | apply below_drew1) | exact HB.out))) : w.heap.size ≤ gb130)); clear HB; have HB := n0_; have BK130 := n1_; have GW130 := n2_; have GE130 := n3_; clear n0_ n1_ n2_ n3_; clear hb hbox hg; have hcz19_0 : w18.cell? ⟨gb130, 0, none⟩ = some (.int .i64 0) := (blk_cell BK130.out 0).trans rfl; have hcz19_1 : w18.cell? ⟨gb130, 1, none⟩ = some (.int .i64 0) := (blk_cell BK130.out 1).trans rfl; have hfz19_0 := blk_frozen BK130.out 0; have hfz19_1 := blk_frozen BK130.out 1; have p131 : 0 ≤ (x5_2 : Int) := of_decide_eq_true (by first | (with_reducible assumption) | assumption); have q131 : x5_2 < (l0.length : Int) := of_decide_eq_true (by first | (with_reducible assumption) | assumption); obtain ⟨ad131, e131, hx131_0, hx131_1⟩ := at_T84 HR0.out x5_2 p131 q131; obtain rfl : ad126 = ad131 := (by injection e131); have hn131_0 : ad126.block ≠ gb130 := Nat.ne_of_lt (Nat.lt_of_lt_of_le (by have := World.block_lt_of_cell? _ _ hx131_0; first | rwa [add_block] at this | exact this) GW130.out); have hn131_1 : ad126.block ≠ gb130 := Nat.ne_of_lt (Nat.lt_of_lt_of_le (by have := World.block_lt_of_cell? _ _ hx131_0; first | rwa [add_block] at this | exact this) GW130.out); replace hx131_0 := (HB.out.cell (World.block_lt_of_cell? w _ hx131_0)).trans hx131_0; replace hx131_1 := (HB.out.cell (World.block_lt_of_cell? w _ hx131_1)).trans hx131_1; replace hx131_0 := (cell_far (p := ⟨gb130, 0, none⟩) (by first | (rw [add_block]; exact hn131_0) | (show (Addr.add _ _).block ≠ _; rw [add_block]; exact hn131_0) | exact hn131_0) (.int .i64 ((rd_T84 l0 (ji14)).f0))).trans hx131_0; replace hx131_1 := (cell_far (p := ⟨gb130, 0, none⟩) (by first | (rw [add_block]; exact hn131_0) | (show (Addr.add _ _).block ≠ _; rw [add_block]; exact hn131_0) | exact hn131_0) (.int .i64 ((rd_T84 l0 (ji14)).f0))).trans hx131_1; replace hx131_0 := (cell_far (p := ⟨gb130, 1, none⟩) (by first | (rw [add_block]; exact hn131_1) | (show (Addr.add _ _).block ≠ _; rw [add_block]; exact hn131_1) | exact hn131_1) (.int .i64 ((rd_T84 l0 (ji14)).f1))).trans hx131_0; replace hx131_1 := (cell_far (p := ⟨gb130, 1, none⟩) (by first | (rw [add_block]; exact hn131_1) | (show (Addr.add _ _).block ≠ _; rw [add_block]; exact hn131_1) | exact hn131_1) (.int .i64 ((rd_T84 l0 (ji14)).f1))).trans hx131_1; (try have hy131_0 := fun (n_ : Nat) => (show ((((w18.drewN n_).setCell ⟨gb130, 0, none⟩ (.int .i64 ((rd_T84 l0 (ji14)).f0))).setCell ⟨gb130, 1, none⟩ (.int .i64 ((rd_T84 l0 (ji14)).f1)))).cell? _ = some _ from hx131_0)); (try have hy131_1 := fun (n_ : Nat) => (show ((((w18.drewN n_).setCell ⟨gb130, 0, none⟩ (.int .i64 ((rd_T84 l0 (ji14)).f0))).setCell ⟨gb130, 1, none⟩ (.int .i64 ((rd_T84 l0 (ji14)).f1)))).cell? _ = some _ from hx131_1)); clear hn131_0; clear hn131_1; replace p131 := eq_true p131; replace q131 := eq_true q131) | ((with_reducible refine gate_dst (N := 7) rfl ?_); (try (refine gate_guard (by rfl) ?_; dsimp only)); refine box_event ?hg (N := 7) ?hd (cs := #[.int .i64 0, .int .i64 0]) (t := 84) ?hr ?_; (case hd => rfl); (case hg => rfl); (case hr => first | (go_simp; done) | (go_simp; rfl)); intro gb132 hg w20 hbox hb; have n0_ := Aside0.mk (blk_below (g := gb130) (o := .cells #[.int .i64 ((rd_T84 l0 (ji14)).f0), .int .i64 ((rd_T84 l0 (ji14)).f1)] 84 (0, 0)) (by (with_reducible repeat (first | refine blk_drewN ?_ _ | refine blk_drew ?_ | refine blk_alloc ?_ _)); refine blk_put (cs := #[.int .i64 ((rd_T84 l0 (ji14)).f0), .int .i64 0]) ?_ 1 _ rfl; (with_reducible repeat (first | refine blk_drewN ?_ _ | refine blk_drew ?_ | refine blk_alloc ?_ _)); refine blk_put (cs := #[.int .i64 0, .int .i64 0]) ?_ 0 _ rfl; (with_reducible repeat (first | refine blk_drewN ?_ _ | refine blk_drew ?_ | refine blk_alloc ?_ _)); exact BK130.out) hb); have n1_ := Aside0.mk (below_step (by repeat (first | (with_reducible first | exact HB.out | apply below_alloc | apply pw_below_drewN | apply below_drew1 | refine below_set ?_ GE130.out) | exact HB.out)) hb); have n2_ := Aside0.mk (hbox); have n3_ := Aside0.mk ((by rw [hg]; exact (below_size (by repeat (first | (with_reducible first | exact HB.out | apply below_alloc | apply pw_below_drewN | apply below_drew1 | refine below_set ?_ GE130.out) | exact HB.out))) : w.heap.size ≤ gb132)); have n4_ := Aside0.mk ((by rw [hg]; exact (below_size (by repeat (first | (with_reducible first | exact HB.out | apply below_alloc | apply pw_below_drewN | apply below_drew1 | refine below_set ?_ GE130.out) | exact HB.out))) : w.heap.size ≤ gb132)); have n5_ := Aside0.mk ((by rw [hg]; exact Nat.ne_of_lt (blk_lt (g := gb130) (o := .cells #[.int .i64 ((rd_T84 l0 (ji14)).f0), .int .i64 ((rd_T84 l0 (ji14)).f1)] 84 (0, 0)) (by (with_reducible repeat (first | refine blk_drewN ?_ _ | refine blk_drew ?_ | refine blk_alloc ?_ _)); refine blk_put (cs := #[.int .i64 ((rd_T84 l0 (ji14)).f0), .int .i64 0]) ?_ 1 _ rfl; (with_reducible repeat (first | refine blk_drewN ?_ _ | refine blk_drew ?_ | refine blk_alloc ?_ _)); refine blk_put (cs := #[.int .i64 0, .int .i64 0]) ?_ 0 _ rfl; (with_reducible repeat (first | refine blk_drewN ?_ _ | refine blk_drew ?_ | refine blk_alloc ?_ _)); exact BK130.out)) : gb130 ≠ gb132)); have n6_ := Aside0.mk ((by rw [hg]; exact Nat.ne_of_gt (blk_lt (g := gb130) (o := .cells #[.int .i64 ((rd_T84 l0 (ji14)).f0), .int .i64 ((rd_T84 l0 (ji14)).f1)] 84 (0, 0)) (by (with_reducible repeat (first | refine blk_drewN ?_ _ | refine blk_drew ?_ | refine blk_alloc ?_ _)); refine blk_put (cs := #[.int .i64 ((rd_T84 l0 (ji14)).f0), .int .i64 0]) ?_ 1 _ rfl; (with_reducible repeat (first | refine blk_drewN ?_ _ | refine blk_drew ?_ | refine blk_alloc ?_ _)); refine blk_put (cs := #[.int .i64 0, .int .i64 0]) ?_ 0 _ rfl; (with_reducible repeat (first | refine blk_drewN ?_ _ | refine blk_drew ?_ | refine blk_alloc ?_ _)); exact BK130.out)) : gb132 ≠ gb130)); clear BK130; clear HB; have BK130 := n0_; have HB := n1_; have BK132 := n2_; have GW132 := n3_; have GE132 := n4_; have NB130_132 := n5_; have NB132_130 := n6_; clear n0_ n1_ n2_ n3_ n4_ n5_ n6_; clear hb hbox hg; have hnb21 := NB132_130.out; have hnc21 := NB130_132.out; have hcz22_0 : w20.cell? ⟨gb132, 0, none⟩ = some (.int .i64 0) := (blk_cell BK132.out 0).trans rfl; have hcz22_1 : w20.cell? ⟨gb132, 1, none⟩ = some (.int .i64 0) := (blk_cell BK132.out 1).trans rfl; have hfz22_0 := blk_frozen BK132.out 0; have hfz22_1 := blk_frozen BK132.out 1; have hcz23_0 : w20.cell? ⟨gb130, 0, none⟩ = some (.int .i64 ((rd_T84 l0 (ji14)).f0)) := (blk_cell BK130.out 0).trans rfl; have hcz23_1 : w20.cell? ⟨gb130, 1, none⟩ = some (.int .i64 ((rd_T84 l0 (ji14)).f1)) := (blk_cell BK130.out 1).trans rfl; have hfz23_0 := blk_frozen BK130.out 0; have hfz23_1 := blk_frozen BK130.out 1) | (go_at_call 87; (with_reducible refine (spec_l7Floor.calls (wrap64 ((wrap64 (((rd_T84 l0 x5_2).f1) - ((rd_T84 l0 (ji14)).f1))) * (wrap64 (a1 - ((rd_T84 l0 (ji14)).f0))))) (wrap64 (((rd_T84 l0 x5_2).f0) - ((rd_T84 l0 (ji14)).f0))) t133 _ A17.out).mono ?_); rintro e w' ⟨rfl, ⟨nd, rfl⟩⟩; (try first | exact ⟨rfl, _, World.drewN_drewN _ _ _⟩ | exact ⟨rfl, _, Eq.trans (World.drewN_drewN _ _ _) (congrArg (World.drewN _) (Nat.add_assoc _ _ _))⟩))); try go_wp2_with (first | ((with_reducible refine gate_dst (N := 6) rfl ?_); (try (refine gate_guard (by rfl) ?_; dsimp only)); refine box_event ?hg (N := 6) ?hd (cs := #[.int .i64 0, .int .i64 0]) (t := 84) ?hr ?_; (case hd => rfl); (case hg => rfl); (case hr => first | (go_simp; done) | (go_simp; rfl)); intro gb130 hg w18 hbox hb; have n0_ := Aside0.mk (below_step (by repeat (first | (with_reducible first | exact HB.out | apply below_alloc | apply pw_below_drewN | apply below_drew1) | exact HB.out)) hb); have n1_ := Aside0.mk (hbox); have n2_ := Aside0.mk ((by rw [hg]; exact (below_size (by repeat (first | (with_reducible first | exact HB.out | apply below_alloc | apply pw_below_drewN | apply below_drew1) | exact HB.out))) : w.heap.size ≤ gb130)); have n3_ := Aside0.mk ((by rw [hg]; exact (below_size (by repeat (first | (with_reducible first | exact HB.out | apply below_alloc | apply pw_below_drewN | apply below_drew1) | exact HB.out))) : w.heap.size ≤ gb130)); clear HB; have HB := n0_; have BK130 := n1_; have GW130 := n2_; have GE130 := n3_; clear n0_ n1_ n2_ n3_; clear hb hbox hg; have hcz19_0 : w18.cell? ⟨gb130, 0, none⟩ = some (.int .i64 0) := (blk_cell BK130.out 0).trans rfl; have hcz19_1 : w18.cell? ⟨gb130, 1, none⟩ = some (.int .i64 0) := (blk_cell BK130.out 1).trans rfl; have hfz19_0 := blk_frozen BK130.out 0; have hfz19_1 := blk_frozen BK130.out 1; have p131 : 0 ≤ (x5_2 : Int) := of_decide_eq_true (by first | (with_reducible assumption) | assumption); have q131 : x5_2 < (l0.length : Int) := of_decide_eq_true (by first | (with_reducible assumption) | assumption); obtain ⟨ad131, e131, hx131_0, hx131_1⟩ := at_T84 HR0.out x5_2 p131 q131; obtain rfl : ad126 = ad131 := (by injection e131); have hn131_0 : ad126.block ≠ gb130 := Nat.ne_of_lt (Nat.lt_of_lt_of_le (by have := World.block_lt_of_cell? _ _ hx131_0; first | rwa [add_block] at this | exact this) GW130.out); have hn131_1 : ad126.block ≠ gb130 := Nat.ne_of_lt (Nat.lt_of_lt_of_le (by have := World.block_lt_of_cell? _ _ hx131_0; first | rwa [add_block] at this | exact this) GW130.out); replace hx131_0 := (HB.out.cell (World.block_lt_of_cell? w _ hx131_0)).trans hx131_0; replace hx131_1 := (HB.out.cell (World.block_lt_of_cell? w _ hx131_1)).trans hx131_1; replace hx131_0 := (cell_far (p := ⟨gb130, 0, none⟩) (by first | (rw [add_block]; exact hn131_0) | (show (Addr.add _ _).block ≠ _; rw [add_block]; exact hn131_0) | exact hn131_0) (.int .i64 ((rd_T84 l0 (ji14)).f0))).trans hx131_0; replace hx131_1 := (cell_far (p := ⟨gb130, 0, none⟩) (by first | (rw [add_block]; exact hn131_0) | (show (Addr.add _ _).block ≠ _; rw [add_block]; exact hn131_0) | exact hn131_0) (.int .i64 ((rd_T84 l0 (ji14)).f0))).trans hx131_1; replace hx131_0 := (cell_far (p := ⟨gb130, 1, none⟩) (by first | (rw [add_block]; exact hn131_1) | (show (Addr.add _ _).block ≠ _; rw [add_block]; exact hn131_1) | exact hn131_1) (.int .i64 ((rd_T84 l0 (ji14)).f1))).trans hx131_0; replace hx131_1 := (cell_far (p := ⟨gb130, 1, none⟩) (by first | (rw [add_block]; exact hn131_1) | (show (Addr.add _ _).block ≠ _; rw [add_block]; exact hn131_1) | exact hn131_1) (.int .i64 ((rd_T84 l0 (ji14)).f1))).trans hx131_1; (try have hy131_0 := fun (n_ : Nat) => (show ((((w18.drewN n_).setCell ⟨gb130, 0, none⟩ (.int .i64 ((rd_T84 l0 (ji14)).f0))).setCell ⟨gb130, 1, none⟩ (.int .i64 ((rd_T84 l0 (ji14)).f1)))).cell? _ = some _ from hx131_0)); (try have hy131_1 := fun (n_ : Nat) => (show ((((w18.drewN n_).setCell ⟨gb130, 0, none⟩ (.int .i64 ((rd_T84 l0 (ji14)).f0))).setCell ⟨gb130, 1, none⟩ (.int .i64 ((rd_T84 l0 (ji14)).f1)))).cell? _ = some _ from hx131_1)); clear hn131_0; clear hn131_1; replace p131 := eq_true p131; replace q131 := eq_true q131) | ((with_reducible refine gate_dst (N := 7) rfl ?_); (try (refine gate_guard (by rfl) ?_; dsimp only)); refine box_event ?hg (N := 7) ?hd (cs := #[.int .i64 0, .int .i64 0]) (t := 84) ?hr ?_; (case hd => rfl); (case hg => rfl); (case hr => first | (go_simp; done) | (go_simp; rfl)); intro gb132 hg w20 hbox hb; have n0_ := Aside0.mk (blk_below (g := gb130) (o := .cells #[.int .i64 ((rd_T84 l0 (ji14)).f0), .int .i64 ((rd_T84 l0 (ji14)).f1)] 84 (0, 0)) (by (with_reducible repeat (first | refine blk_drewN ?_ _ | refine blk_drew ?_ | refine blk_alloc ?_ _)); refine blk_put (cs := #[.int .i64 ((rd_T84 l0 (ji14)).f0), .int .i64 0]) ?_ 1 _ rfl; (with_reducible repeat (first | refine blk_drewN ?_ _ | refine blk_drew ?_ | refine blk_alloc ?_ _)); refine blk_put (cs := #[.int .i64 0, .int .i64 0]) ?_ 0 _ rfl; (with_reducible repeat (first | refine blk_drewN ?_ _ | refine blk_drew ?_ | refine blk_alloc ?_ _)); exact BK130.out) hb); have n1_ := Aside0.mk (below_step (by repeat (first | (with_reducible first | exact HB.out | apply below_alloc | apply pw_below_drewN | apply below_drew1 | refine below_set ?_ GE130.out) | exact HB.out)) hb); have n2_ := Aside0.mk (hbox); have n3_ := Aside0.mk ((by rw [hg]; exact (below_size (by repeat (first | (with_reducible first | exact HB.out | apply below_alloc | apply pw_below_drewN | apply below_drew1 | refine below_set ?_ GE130.out) | exact HB.out))) : w.heap.size ≤ gb132)); have n4_ := Aside0.mk ((by rw [hg]; exact (below_size (by repeat (first | (with_reducible first | exact HB.out | apply below_alloc | apply pw_below_drewN | apply below_drew1 | refine below_set ?_ GE130.out) | exact HB.out))) : w.heap.size ≤ gb132)); have n5_ := Aside0.mk ((by rw [hg]; exact Nat.ne_of_lt (blk_lt (g := gb130) (o := .cells #[.int .i64 ((rd_T84 l0 (ji14)).f0), .int .i64 ((rd_T84 l0 (ji14)).f1)] 84 (0, 0)) (by (with_reducible repeat (first | refine blk_drewN ?_ _ | refine blk_drew ?_ | refine blk_alloc ?_ _)); refine blk_put (cs := #[.int .i64 ((rd_T84 l0 (ji14)).f0), .int .i64 0]) ?_ 1 _ rfl; (with_reducible repeat (first | refine blk_drewN ?_ _ | refine blk_drew ?_ | refine blk_alloc ?_ _)); refine blk_put (cs := #[.int .i64 0, .int .i64 0]) ?_ 0 _ rfl; (with_reducible repeat (first | refine blk_drewN ?_ _ | refine blk_drew ?_ | refine blk_alloc ?_ _)); exact BK130.out)) : gb130 ≠ gb132)); have n6_ := Aside0.mk ((by rw [hg]; exact Nat.ne_of_gt (blk_lt (g := gb130) (o := .cells #[.int .i64 ((rd_T84 l0 (ji14)).f0), .int .i64 ((rd_T84 l0 (ji14)).f1)] 84 (0, 0)) (by (with_reducible repeat (first | refine blk_drewN ?_ _ | refine blk_drew ?_ | refine blk_alloc ?_ _)); refine blk_put (cs := #[.int .i64 ((rd_T84 l0 (ji14)).f0), .int .i64 0]) ?_ 1 _ rfl; (with_reducible repeat (first | refine blk_drewN ?_ _ | refine blk_drew ?_ | refine blk_alloc ?_ _)); refine blk_put (cs := #[.int .i64 0, .int .i64 0]) ?_ 0 _ rfl; (with_reducible repeat (first | refine blk_drewN ?_ _ | refine blk_drew ?_ | refine blk_alloc ?_ _)); exact BK130.out)) : gb132 ≠ gb130)); clear BK130; clear HB; have BK130 := n0_; have HB := n1_; have BK132 := n2_; have GW132 := n3_; have GE132 := n4_; have NB130_132 := n5_; have NB132_130 := n6_; clear n0_ n1_ n2_ n3_ n4_ n5_ n6_; clear hb hbox hg; have hnb21 := NB132_130.out; have hnc21 := NB130_132.out; have hcz22_0 : w20.cell? ⟨gb132, 0, none⟩ = some (.int .i64 0) := (blk_cell BK132.out 0).trans rfl; have hcz22_1 : w20.cell? ⟨gb132, 1, none⟩ = some (.int .i64 0) := (blk_cell BK132.out 1).trans rfl; have hfz22_0 := blk_frozen BK132.out 0; have hfz22_1 := blk_frozen BK132.out 1; have hcz23_0 : w20.cell? ⟨gb130, 0, none⟩ = some (.int .i64 ((rd_T84 l0 (ji14)).f0)) := (blk_cell BK130.out 0).trans rfl; have hcz23_1 : w20.cell? ⟨gb130, 1, none⟩ = some (.int .i64 ((rd_T84 l0 (ji14)).f1)) := (blk_cell BK130.out 1).trans rfl; have hfz23_0 := blk_frozen BK130.out 0; have hfz23_1 := blk_frozen BK130.out 1) | (go_at_call 87; (with_reducible refine (spec_l7Floor.calls (wrap64 ((wrap64 (((rd_T84 l0 x5_2).f1) - ((rd_T84 l0 (ji14)).f1))) * (wrap64 (a1 - ((rd_T84 l0 (ji14)).f0))))) (wrap64 (((rd_T84 l0 x5_2).f0) - ((rd_T84 l0 (ji14)).f0))) t133 _ A17.out).mono ?_); rintro e w' ⟨rfl, ⟨nd, rfl⟩⟩; (try first | exact ⟨rfl, _, World.drewN_drewN _ _ _⟩ | exact ⟨rfl, _, Eq.trans (World.drewN_drewN _ _ _) (congrArg (World.drewN _) (Nat.add_assoc _ _ _))⟩))))
                          go_ret
                          exact ⟨by first | rfl | (simp [errW_none, errW_some] <;> rfl) | (simp only [← hji14]; first | rfl | (simp [errW_none, errW_some] <;> rfl)) | (simp [*, errW_none, errW_some] <;> rfl), by repeat (first | (with_reducible first | exact HB.out | apply below_alloc | apply pw_below_drewN | apply below_drew1 | refine below_set ?_ GE130.out | refine below_set ?_ GE132.out) | exact HB.out)⟩
                        · rw [if_neg c16] at H
                          exact absurd H (by simp)
                      · rw [if_neg c15] at H
                        exact absurd H (by simp)
                    · rw [if_neg c13] at H
                      have c13b0 : decide (a1 ≤ ((rd_T84 l0 x5_2).f0)) = false := decide_eq_false c13
                      clear c13
                      have H' := Aside0.mk H
                      clear H
                      have p128 : 0 ≤ (x5_2 : Int) := of_decide_eq_true (by first | (with_reducible assumption) | assumption)
                      have q128 : x5_2 < (l0.length : Int) := of_decide_eq_true (by first | (with_reducible assumption) | assumption)
                      obtain ⟨ad128, e128, hx128_0, hx128_1⟩ := at_T84 HR0.out x5_2 p128 q128
                      obtain rfl : ad126 = ad128 := (by injection e128)
                      replace hx128_0 := (HB.out.cell (World.block_lt_of_cell? w _ hx128_0)).trans hx128_0
                      replace hx128_1 := (HB.out.cell (World.block_lt_of_cell? w _ hx128_1)).trans hx128_1
                      replace p128 := eq_true p128
                      replace q128 := eq_true q128
                      go_wp2
                      repeat (go_quiet (fail); try go_wp2)
                      go_roundg k2
                      case measure => have := HJ2.out; have := HK2.out; omega
                      case rel => exact ⟨(wrap64 (x5_2 + 1)), (by first | rfl | (simp; done) | (simp [*]; done)), H', ⟨by have := HJ2.out; have := HK2.out; omega⟩, ⟨by repeat (first | (with_reducible first | exact HB.out | apply below_alloc | apply pw_below_drewN | apply below_drew1) | exact HB.out)⟩⟩
                  · rw [if_neg c12] at H
                    exact absurd H (by simp)
                · rw [if_neg c11] at H
                  have c11b0 : decide (x5_2 < (l0.length : Int)) = false := decide_eq_false c11
                  clear c11
                  obtain ⟨ji24, hji24⟩ : ∃ j_ : Int, (wrap64 ((l0.length : Int) - 1)) = j_ := ⟨_, rfl⟩
                  replace H : (if 0 ≤ (ji24) then (if (ji24) < (l0.length : Int) then (some ((rd_T84 l0 (ji24)).f1)) else (none)) else (none)) = some r := by first | (rw [hji24] at H; exact H) | (simp only [hji24] at H ⊢; exact H)
                  have hji24w : (IntKind.i64.wrap ((l0.length : Int) - 1)) = ji24 := (i64_w _).trans hji24
                  by_cases c25 : 0 ≤ (ji24)
                  · rw [if_pos c25] at H
                    have c25b0 : decide (0 ≤ (ji24)) = true := decide_eq_true c25
                    clear c25
                    by_cases c26 : (ji24) < (l0.length : Int)
                    · rw [if_pos c26] at H
                      have c26b0 : decide ((ji24) < (l0.length : Int)) = true := decide_eq_true c26
                      clear c26
                      obtain rfl := Option.some.inj H
                      have p134 : 0 ≤ ((ji24) : Int) := of_decide_eq_true (by first | (with_reducible assumption) | assumption)
                      have q134 : (ji24) < (l0.length : Int) := of_decide_eq_true (by first | (with_reducible assumption) | assumption)
                      obtain ⟨ad134, e134, hx134_0, hx134_1⟩ := at_T84 HR0.out (ji24) p134 q134
                      obtain rfl : ad126 = ad134 := (by injection e134)
                      replace hx134_0 := (HB.out.cell (World.block_lt_of_cell? w _ hx134_0)).trans hx134_0
                      replace hx134_1 := (HB.out.cell (World.block_lt_of_cell? w _ hx134_1)).trans hx134_1
                      replace p134 := eq_true p134
                      replace q134 := eq_true q134
                      go_wp2
                      repeat (go_quiet (fail); try go_wp2)
                      go_ret
                      exact ⟨by first | rfl | (simp [errW_none, errW_some] <;> rfl) | (simp only [← hji24]; first | rfl | (simp [errW_none, errW_some] <;> rfl)) | (simp [*, errW_none, errW_some] <;> rfl), by repeat (first | (with_reducible first | exact HB.out | apply below_alloc | apply pw_below_drewN | apply below_drew1) | exact HB.out)⟩
                    · rw [if_neg c26] at H
                      exact absurd H (by simp)
                  · rw [if_neg c25] at H
                    exact absurd H (by simp)
        · rw [if_neg c9] at H
          exact absurd H (by simp)

/-! ### spec_TrendError: function 43 -/
mutual
def spec_TrendError.j0 : Nat → List (S84) → List (S84) → Bool → Option (Int)
  | 0, _, _, _ => none
  | k + 1, x0, x1, x20 => if x20 = true then (some (-1)) else (spec_TrendError.l0 k x0 x1 0 0)
def spec_TrendError.l0 : Nat → List (S84) → List (S84) → Int → Int → Option (Int)
  | 0, _, _, _, _ => none
  | k + 1, x0, x1, x5, x6 => if x6 < (x0.length : Int) then (if 0 ≤ x6 then ((spec_TrendAt.f k x1 ((rd_T84 x0 x6).f0)).bind fun t139 => (spec_TrendError.l0 k x0 x1 (mx x5 (mx (wrap64 (((rd_T84 x0 x6).f1) - t139)) (wrap64 (-(wrap64 (((rd_T84 x0 x6).f1) - t139)))))) (wrap64 (x6 + 1)))) else (none)) else (some x5)
end
def spec_TrendError.f (k : Nat) (l0 : List (S84)) (l1 : List (S84)) : Option (Int) := (spec_TrendValid.f k l0).bind fun t135 => (if t135 = true then ((spec_TrendValid.f k l1).bind fun t136 => (if t136 = true then (spec_TrendError.j0 k l0 l1 ((l1.length : Int) == 0)) else (spec_TrendError.j0 k l0 l1 true))) else (spec_TrendError.j0 k l0 l1 true))
theorem spec_TrendError.mono_l : ∀ k, (∀ y0 y1 y2, LeO (spec_TrendError.j0 k y0 y1 y2) (spec_TrendError.j0 (k + 1) y0 y1 y2)) ∧ (∀ y0 y1 y2 y3, LeO (spec_TrendError.l0 k y0 y1 y2 y3) (spec_TrendError.l0 (k + 1) y0 y1 y2 y3))
  | 0 => ⟨fun _ _ _ r h => by simp [spec_TrendError.j0] at h, fun _ _ _ _ r h => by simp [spec_TrendError.l0] at h⟩
  | k + 1 => by
    obtain ⟨ih0, ih1⟩ := spec_TrendError.mono_l k
    refine ⟨?_, ?_⟩
    · intro y0 y1 y2
      unfold spec_TrendError.j0
      repeat' first
      | (with_reducible exact ih0 _ _ _)
      | (with_reducible exact ih1 _ _ _ _)
      | (with_reducible exact spec_TrendAt.mono _ _ _)
      | (with_reducible exact spec_TrendValid.mono _ _)
      | (with_reducible exact LeO.refl _)
      | (with_reducible exact LeO.none _)
      | (with_reducible refine LeO.ite ?_ ?_)
      | (with_reducible refine LeO.bind ?_ (fun _ => ?_))
      | exact ih0 _ _ _
      | exact ih1 _ _ _ _
      | exact spec_TrendAt.mono _ _ _
      | exact spec_TrendValid.mono _ _
      | exact LeO.none _
      | refine LeO.ite ?_ ?_
      | refine LeO.bind ?_ (fun _ => ?_)
    · intro y0 y1 y2 y3
      unfold spec_TrendError.l0
      repeat' first
      | (with_reducible exact ih0 _ _ _)
      | (with_reducible exact ih1 _ _ _ _)
      | (with_reducible exact spec_TrendAt.mono _ _ _)
      | (with_reducible exact spec_TrendValid.mono _ _)
      | (with_reducible exact LeO.refl _)
      | (with_reducible exact LeO.none _)
      | (with_reducible refine LeO.ite ?_ ?_)
      | (with_reducible refine LeO.bind ?_ (fun _ => ?_))
      | exact ih0 _ _ _
      | exact ih1 _ _ _ _
      | exact spec_TrendAt.mono _ _ _
      | exact spec_TrendValid.mono _ _
      | exact LeO.none _
      | refine LeO.ite ?_ ?_
      | refine LeO.bind ?_ (fun _ => ?_)
theorem spec_TrendError.mono : ∀ a0 a1 k, LeO (spec_TrendError.f k a0 a1) (spec_TrendError.f (k + 1) a0 a1) := by
  intro a0 a1 k
  obtain ⟨ih0, ih1⟩ := spec_TrendError.mono_l k
  unfold spec_TrendError.f
  repeat' first
      | (with_reducible exact ih0 _ _ _)
      | (with_reducible exact ih1 _ _ _ _)
      | (with_reducible exact spec_TrendAt.mono _ _ _)
      | (with_reducible exact spec_TrendValid.mono _ _)
      | (with_reducible exact LeO.refl _)
      | (with_reducible exact LeO.none _)
      | (with_reducible refine LeO.ite ?_ ?_)
      | (with_reducible refine LeO.bind ?_ (fun _ => ?_))
      | exact ih0 _ _ _
      | exact ih1 _ _ _ _
      | exact spec_TrendAt.mono _ _ _
      | exact spec_TrendValid.mono _ _
      | exact LeO.none _
      | refine LeO.ite ?_ ?_
      | refine LeO.bind ?_ (fun _ => ?_)
def spec_TrendError.T7 : Bool × List (List Nat × List Nat) := (true, [([], []), ([], []), ([0, 1], [0, 1]), ([2], [2]), ([3], [3]), ([], []), ([], []), ([], []), ([6, 7], [6, 7]), ([8], [8]), ([9], [9]), ([5, 10], [5, 10]), ([4, 11], [4, 11]), ([12, 11, 0, 1, 2, 3, 4, 5, 6, 7, 8, 9, 10, 11, 12], [12])])
def spec_TrendError.B7 : List Nat := [0, 0, 3, 7, 15, 0, 0, 0, 192, 448, 960, 2016, 4095, 8191]
theorem spec_TrendError.tab7 : rtab .any (opsOf Try.f43 7) = spec_TrendError.T7 := by kernel_rfl
theorem spec_TrendError.bits7 : waitsOk spec_TrendError.T7.2 spec_TrendError.B7 = true := by kernel_rfl
set_option maxHeartbeats 8000000 in
set_option maxRecDepth 100000 in
theorem spec_TrendError.calls (k : Nat) (A0 : Option Addr) (c0 : Nat) (l0 : List (S84)) (A1 : Option Addr) (c1 : Nat) (l1 : List (S84)) (r : Int) (w : World) (hr0 : Kd.C k84 w A0 l0.length l0) (hc0 : l0.length ≤ c0) (hr1 : Kd.C k84 w A1 l1.length l1) (hc1 : l1.length ≤ c1) (h : spec_TrendError.f k l0 l1 = some r) :
    Calls Try.prog 43 #[.slice A0 l0.length c0, .slice A1 l1.length c1] w fun e w' => e = .returned (.int .i64 r) ∧ Below w.heap.size w w' := by
  have HR0 := Aside0.mk hr0
  have HC0 := Aside0.mk hc0
  clear hr0 hc0
  have HR1 := Aside0.mk hr1
  have HC1 := Aside0.mk hc1
  clear hr1 hc1
  have HB := Aside0.mk (Below.refl w.heap.size w)
  have H : ((spec_TrendValid.f k l0).bind fun t135 => (if t135 = true then ((spec_TrendValid.f k l1).bind fun t136 => (if t136 = true then (spec_TrendError.j0 k l0 l1 ((l1.length : Int) == 0)) else (spec_TrendError.j0 k l0 l1 true))) else (spec_TrendError.j0 k l0 l1 true))) = some r := h
  clear h
  have HC3 := Aside0.mk H
  clear H
  go_enter Try.func43, Try.ntmps43
  go_upto_region 1 with (fail)
  go_cut [20] (fun v20 wc => ∃ (kq : Nat) (x20_2 : Bool), v20 = .bool x20_2 ∧ Aside0 (spec_TrendError.j0 kq l0 l1 x20_2 = some r) ∧ Aside0 (kq ≤ k) ∧ Aside0 (Below w.heap.size w wc))
  case first =>
    have H := HC3.out
    clear HC3
    replace H := Option.bind_eq_some_iff.mp H
    obtain ⟨t135, A40, H⟩ := H
    replace H : (if t135 = true then ((spec_TrendValid.f k l1).bind fun t136 => (if t136 = true then (spec_TrendError.j0 k l0 l1 ((l1.length : Int) == 0)) else (spec_TrendError.j0 k l0 l1 true))) else (spec_TrendError.j0 k l0 l1 true)) = some r := H
    have A4 := Aside0.mk A40
    clear A40
    by_cases c5 : t135 = true
    · subst c5
      have H1 : ((spec_TrendValid.f k l1).bind fun t136 => (if t136 = true then (spec_TrendError.j0 k l0 l1 ((l1.length : Int) == 0)) else (spec_TrendError.j0 k l0 l1 true))) = some r := by rw [if_pos rfl] at H; exact H
      clear H
      have H := H1
      clear H1
      replace H := Option.bind_eq_some_iff.mp H
      obtain ⟨t136, A60, H⟩ := H
      replace H : (if t136 = true then (spec_TrendError.j0 k l0 l1 ((l1.length : Int) == 0)) else (spec_TrendError.j0 k l0 l1 true)) = some r := H
      have A6 := Aside0.mk A60
      clear A60
      by_cases c7 : t136 = true
      · subst c7
        have H1 : (spec_TrendError.j0 k l0 l1 ((l1.length : Int) == 0)) = some r := by rw [if_pos rfl] at H; exact H
        clear H
        have H := H1
        clear H1
        have H' := Aside0.mk H
        clear H
        go_wp2_with (first | ((with_reducible refine gate_callee (f := 18) rfl ?_); refine goesL_ (some 9) rfl rfl Try.func18 (by kernel_rfl) rfl #[.slice A0 l0.length c0] rfl (by (try simp only [List.map_toArray, List.map_cons, List.map_nil]); first | done | rfl | (simp only [List.length_drop, List.length_take]; rfl)) ?_; (with_reducible refine (spec_TrendValid.calls k _ _ l0 true _ ?side1 ?side2 A4.out).mono ?_); (case side1 => repeat (first | exact (Kd.C_below HR0.out HB.out) | (with_reducible refine Kd.C_alloc ?_ _) | (with_reducible refine Kd.C_drewN ?_ _) | (with_reducible refine Kd.C_drew ?_))); (case side2 => exact HC0.out); rintro e w8 ⟨rfl, hb⟩; refine ⟨_, rfl, ?_⟩; have n0_ := Aside0.mk (below_step (by repeat (first | (with_reducible first | exact HB.out | apply below_alloc | apply pw_below_drewN | apply below_drew1) | exact HB.out)) hb); clear HB; have HB := n0_; clear n0_; (try clear hb); (try clear hb2); (try clear hk); (try clear hi)) | (go_at_call 18; (with_reducible refine (spec_TrendValid.calls k _ _ l1 true _ ?side1 ?side2 A6.out).mono ?_); (case side1 => repeat (first | exact (Kd.C_below HR1.out HB.out) | (with_reducible refine Kd.C_alloc ?_ _) | (with_reducible refine Kd.C_drewN ?_ _) | (with_reducible refine Kd.C_drew ?_))); (case side2 => exact HC1.out); rintro e w9 ⟨rfl, hb⟩; have n0_ := Aside0.mk (below_step (by repeat (first | (with_reducible first | exact HB.out | apply below_alloc | apply pw_below_drewN | apply below_drew1) | exact HB.out)) hb); clear HB; have HB := n0_; clear n0_; (try clear hb); (try clear hb2); (try clear hk); (try clear hi)))
        go_meet
        case rel => exact ⟨_, (((l1.length : Int) == 0)), (by first | rfl | (simp; done) | (simp [*]; done)), H', ⟨by first | omega | exact Nat.le_refl _⟩, ⟨by repeat (first | (with_reducible first | exact HB.out | apply below_alloc | apply pw_below_drewN | apply below_drew1) | exact HB.out)⟩⟩
      · replace c7 := Bool.eq_false_iff.mpr c7
        subst c7
        have H1 : (spec_TrendError.j0 k l0 l1 true) = some r := by rw [if_neg (show ¬ (false = true) by decide)] at H; exact H
        clear H
        have H := H1
        clear H1
        have H' := Aside0.mk H
        clear H
        go_wp2_with (first | ((with_reducible refine gate_callee (f := 18) rfl ?_); refine goesL_ (some 9) rfl rfl Try.func18 (by kernel_rfl) rfl #[.slice A0 l0.length c0] rfl (by (try simp only [List.map_toArray, List.map_cons, List.map_nil]); first | done | rfl | (simp only [List.length_drop, List.length_take]; rfl)) ?_; (with_reducible refine (spec_TrendValid.calls k _ _ l0 true _ ?side1 ?side2 A4.out).mono ?_); (case side1 => repeat (first | exact (Kd.C_below HR0.out HB.out) | (with_reducible refine Kd.C_alloc ?_ _) | (with_reducible refine Kd.C_drewN ?_ _) | (with_reducible refine Kd.C_drew ?_))); (case side2 => exact HC0.out); rintro e w10 ⟨rfl, hb⟩; refine ⟨_, rfl, ?_⟩; have n0_ := Aside0.mk (below_step (by repeat (first | (with_reducible first | exact HB.out | apply below_alloc | apply pw_below_drewN | apply below_drew1) | exact HB.out)) hb); clear HB; have HB := n0_; clear n0_; (try clear hb); (try clear hb2); (try clear hk); (try clear hi)) | (go_at_call 18; (with_reducible refine (spec_TrendValid.calls k _ _ l1 false _ ?side1 ?side2 A6.out).mono ?_); (case side1 => repeat (first | exact (Kd.C_below HR1.out HB.out) | (with_reducible refine Kd.C_alloc ?_ _) | (with_reducible refine Kd.C_drewN ?_ _) | (with_reducible refine Kd.C_drew ?_))); (case side2 => exact HC1.out); rintro e w11 ⟨rfl, hb⟩; have n0_ := Aside0.mk (below_step (by repeat (first | (with_reducible first | exact HB.out | apply below_alloc | apply pw_below_drewN | apply below_drew1) | exact HB.out)) hb); clear HB; have HB := n0_; clear n0_; (try clear hb); (try clear hb2); (try clear hk); (try clear hi)))
        go_meet
        case rel => exact ⟨_, (true), (by first | rfl | (simp; done) | (simp [*]; done)), H', ⟨by first | omega | exact Nat.le_refl _⟩, ⟨by repeat (first | (with_reducible first | exact HB.out | apply below_alloc | apply pw_below_drewN | apply below_drew1) | exact HB.out)⟩⟩
    · replace c5 := Bool.eq_false_iff.mpr c5
      subst c5
      have H1 : (spec_TrendError.j0 k l0 l1 true) = some r := by rw [if_neg (show ¬ (false = true) by decide)] at H; exact H
      clear H
      have H := H1
      clear H1
      have H' := Aside0.mk H
      clear H
      go_wp2_with (first | ((with_reducible refine gate_callee (f := 18) rfl ?_); refine goesL_ (some 9) rfl rfl Try.func18 (by kernel_rfl) rfl #[.slice A0 l0.length c0] rfl (by (try simp only [List.map_toArray, List.map_cons, List.map_nil]); first | done | rfl | (simp only [List.length_drop, List.length_take]; rfl)) ?_; (with_reducible refine (spec_TrendValid.calls k _ _ l0 false _ ?side1 ?side2 A4.out).mono ?_); (case side1 => repeat (first | exact (Kd.C_below HR0.out HB.out) | (with_reducible refine Kd.C_alloc ?_ _) | (with_reducible refine Kd.C_drewN ?_ _) | (with_reducible refine Kd.C_drew ?_))); (case side2 => exact HC0.out); rintro e w12 ⟨rfl, hb⟩; refine ⟨_, rfl, ?_⟩; have n0_ := Aside0.mk (below_step (by repeat (first | (with_reducible first | exact HB.out | apply below_alloc | apply pw_below_drewN | apply below_drew1) | exact HB.out)) hb); clear HB; have HB := n0_; clear n0_; (try clear hb); (try clear hb2); (try clear hk); (try clear hi)))
      go_meet
      case rel => exact ⟨_, (true), (by first | rfl | (simp; done) | (simp [*]; done)), H', ⟨by first | omega | exact Nat.le_refl _⟩, ⟨by repeat (first | (with_reducible first | exact HB.out | apply below_alloc | apply pw_below_drewN | apply below_drew1) | exact HB.out)⟩⟩
  case rest =>
    clear HC3
    try clear c1
    try clear p2
    try clear c4
    try clear c5
    try clear c7
    obtain ⟨kq, x20_2, rfl, HA, HJ2, HB⟩ := hcut
    cases kq with
    | zero => exact absurd HA.out (by simp [spec_TrendError.j0])
    | succ kj2 =>
      have H := HA.out
      clear HA
      simp only [spec_TrendError.j0] at H
      by_cases c13 : x20_2 = true
      · subst c13
        have H1 : (some (-1)) = some r := by rw [if_pos rfl] at H; exact H
        clear H
        have H := H1
        clear H1
        obtain rfl := Option.some.inj H
        go_wp2
        go_ret
        exact ⟨by first | rfl | (simp [errW_none, errW_some] <;> rfl) | (simp [*, errW_none, errW_some] <;> rfl), by repeat (first | (with_reducible first | exact HB.out | apply below_alloc | apply pw_below_drewN | apply below_drew1) | exact HB.out)⟩
      · replace c13 := Bool.eq_false_iff.mpr c13
        subst c13
        have H1 : (spec_TrendError.l0 kj2 l0 l1 0 0) = some r := by rw [if_neg (show ¬ (false = true) by decide)] at H; exact H
        clear H
        have H := H1
        clear H1
        have H' := Aside0.mk H
        clear H
        go_wp2
        go_loopg [5, 6] kj2 (fun kq v5 v6 w' => ∃ (x5_2 : Int) (x6_2 : Int), v5 = .int .i64 x5_2 ∧ v6 = .int .i64 x6_2 ∧ Aside0 (spec_TrendError.l0 kq l0 l1 x5_2 x6_2 = some r) ∧ Aside0 (kq ≤ kj2) ∧ Aside0 (Below w.heap.size w w'))
        case atStart => exact ⟨(0), (0), (by first | rfl | (simp; done) | (simp [*]; done)), (by first | rfl | (simp; done) | (simp [*]; done)), H', ⟨Nat.le_refl _⟩, ⟨by repeat (first | (with_reducible first | exact HB.out | apply below_alloc | apply pw_below_drewN | apply below_drew1) | exact HB.out)⟩⟩
        case round =>
          clear H'
          try clear c1
          try clear p2
          try clear c4
          try clear c5
          try clear c7
          try clear c13
          try clear p2
          obtain ⟨x5_2, x6_2, rfl, rfl, HA, HK2, HB⟩ := hrel
          cases gk with
          | zero => exact absurd HA.out (by simp [spec_TrendError.l0])
          | succ k2 =>
            have H := HA.out
            clear HA
            simp only [spec_TrendError.l0] at H
            by_cases c14 : x6_2 < (l0.length : Int)
            · rw [if_pos c14] at H
              have c14b0 : decide (x6_2 < (l0.length : Int)) = true := decide_eq_true c14
              clear c14
              by_cases c15 : 0 ≤ x6_2
              · rw [if_pos c15] at H
                have c15b0 : decide (0 ≤ x6_2) = true := decide_eq_true c15
                clear c15
                replace H := Option.bind_eq_some_iff.mp H
                obtain ⟨t139, A160, H⟩ := H
                replace H : (spec_TrendError.l0 k2 l0 l1 (mx x5_2 (mx (wrap64 (((rd_T84 l0 x6_2).f1) - t139)) (wrap64 (-(wrap64 (((rd_T84 l0 x6_2).f1) - t139)))))) (wrap64 (x6_2 + 1))) = some r := H
                have A16 := Aside0.mk A160
                clear A160
                obtain ⟨ji17, hji17⟩ : ∃ j_ : Int, (mx (wrap64 (((rd_T84 l0 x6_2).f1) - t139)) (wrap64 (-(wrap64 (((rd_T84 l0 x6_2).f1) - t139))))) = j_ := ⟨_, rfl⟩
                replace H : (spec_TrendError.l0 k2 l0 l1 (mx x5_2 (ji17)) (wrap64 (x6_2 + 1))) = some r := by first | (rw [hji17] at H; exact H) | (simp only [hji17] at H ⊢; exact H)
                (try rw [hji17] at A16)
                have hji17_ : (if (wrap64 (((rd_T84 l0 x6_2).f1) - t139)) < (wrap64 (-(wrap64 (((rd_T84 l0 x6_2).f1) - t139)))) then (wrap64 (-(wrap64 (((rd_T84 l0 x6_2).f1) - t139)))) else (wrap64 (((rd_T84 l0 x6_2).f1) - t139))) = ji17 := hji17
                obtain ⟨ji18, hji18⟩ : ∃ j_ : Int, (mx x5_2 (ji17)) = j_ := ⟨_, rfl⟩
                replace H : (spec_TrendError.l0 k2 l0 l1 ji18 (wrap64 (x6_2 + 1))) = some r := by first | (rw [hji18] at H; exact H) | (simp only [hji18] at H ⊢; exact H)
                (try rw [hji18] at A16)
                have hji18_ : (if x5_2 < (ji17) then (ji17) else x5_2) = ji18 := hji18
                have H' := Aside0.mk H
                clear H
                try go_wp2
                have n0_ := Aside0.mk (below_drew1 HB.out)
                clear HB
                have HB := n0_
                clear n0_
                have p137 : 0 ≤ (x6_2 : Int) := of_decide_eq_true (by first | (with_reducible assumption) | assumption)
                have q137 : x6_2 < (l0.length : Int) := of_decide_eq_true (by first | (with_reducible assumption) | assumption)
                obtain ⟨ad137, e137, hx137_0, hx137_1⟩ := at_T84 HR0.out x6_2 p137 q137
                have hw137_1 := hx137_1
                have hw137_0 := hx137_0
                cases e137
                replace hx137_0 := (HB.out.cell (World.block_lt_of_cell? w _ hx137_0)).trans hx137_0
                replace hx137_1 := (HB.out.cell (World.block_lt_of_cell? w _ hx137_1)).trans hx137_1
                replace p137 := eq_true p137
                replace q137 := eq_true q137
                have p138 : 0 ≤ (x6_2 : Int) := of_decide_eq_true (by first | (with_reducible assumption) | assumption)
                have q138 : x6_2 < (l0.length : Int) := of_decide_eq_true (by first | (with_reducible assumption) | assumption)
                obtain ⟨ad138, e138, hx138_0, hx138_1⟩ := at_T84 HR0.out x6_2 p138 q138
                have hw138_1 := hx138_1
                have hw138_0 := hx138_0
                obtain rfl : ad137 = ad138 := (by injection e138)
                replace hx138_0 := (HB.out.cell (World.block_lt_of_cell? w _ hx138_0)).trans hx138_0
                replace hx138_1 := (HB.out.cell (World.block_lt_of_cell? w _ hx138_1)).trans hx138_1
                replace p138 := eq_true p138
                replace q138 := eq_true q138
                refine start_ (n := 14) (S := fun w' => w'.cell? (ad137.add ((x6_2).toNat * 2)) = some (.int .i64 ((rd_T84 l0 x6_2).f0)) ∧ w'.cell? ⟨(ad137.add ((x6_2).toNat * 2)).block, (ad137.add ((x6_2).toNat * 2)).off + 1, none⟩ = some (.int .i64 ((rd_T84 l0 x6_2).f1)) ∧ w'.cell? (ad137.add ((x6_2).toNat * 2)) = some (.int .i64 ((rd_T84 l0 x6_2).f0)) ∧ w'.cell? ⟨(ad137.add ((x6_2).toNat * 2)).block, (ad137.add ((x6_2).toNat * 2)).off + 1, none⟩ = some (.int .i64 ((rd_T84 l0 x6_2).f1))) (ds := []) #[false, false, false, false, false, false, false, false, false, false, false, false, false, false] (by kernel_rfl) rfl rfl ⟨((HB.out.cell (World.block_lt_of_cell? w _ hw137_0)).trans hw137_0), ((HB.out.cell (World.block_lt_of_cell? w _ hw137_1)).trans hw137_1), ((HB.out.cell (World.block_lt_of_cell? w _ hw138_0)).trans hw138_0), ((HB.out.cell (World.block_lt_of_cell? w _ hw138_1)).trans hw138_1)⟩ (fun hHeld => ?_); refine with_tabW spec_TrendError.tab7 spec_TrendError.bits7 (fun HT_ HW_ => ?_)
                generalize wr.drew = w19 at HB hx137_0 hx137_1 hx138_0 hx138_1 hHeld ⊢
                refine pure_ (i := 0) (N := some 27) (v := ?_) (a' := ?_) #[true, false, false, false, false, false, false, false, false, false, false, false, false, false] rfl rfl (any_of HT_.out (by kernel_rfl)) (fun _ _ _ h => h) (Or.inl ⟨by rfl, ?_⟩) ?_ ?_
                rotate_left
                · intro w'
                  go_simp
                  with_reducible rfl
                rotate_left
                · simp only [Act.put, List.setIfInBounds_toArray, List.set_cons_zero, List.set_cons_succ, i64_w, i32_w]
                  rfl
                refine pure_ (i := 1) (N := some 28) (v := ?_) (a' := ?_) #[true, true, false, false, false, false, false, false, false, false, false, false, false, false] rfl rfl (any_of HT_.out (by kernel_rfl)) (fun _ _ _ h => h) (Or.inl ⟨by rfl, ?_⟩) ?_ ?_
                rotate_left
                · intro w'
                  go_simp
                  with_reducible rfl
                rotate_left
                · simp only [Act.put, List.setIfInBounds_toArray, List.set_cons_zero, List.set_cons_succ, i64_w, i32_w]
                  rfl
                refine pure_ (i := 2) (N := some 29) (v := ?_) (a' := ?_) #[true, true, true, false, false, false, false, false, false, false, false, false, false, false] rfl rfl (any_of HT_.out (by kernel_rfl)) (fun _ _ _ h => h) (Or.inl ⟨by rfl, ?_⟩) ?_ ?_
                rotate_left
                · intro w'
                  go_simp
                  with_reducible rfl
                rotate_left
                · simp only [Act.put, List.setIfInBounds_toArray, List.set_cons_zero, List.set_cons_succ, i64_w, i32_w]
                  rfl
                refine pure_ (i := 3) (N := some 30) (v := ?_) (a' := ?_) #[true, true, true, true, false, false, false, false, false, false, false, false, false, false] rfl rfl (any_of HT_.out (by kernel_rfl)) (fun _ _ _ h => h) (Or.inl ⟨by rfl, ?_⟩) ?_ ?_
                rotate_left
                · intro w'
                  go_simp
                  with_reducible rfl
                rotate_left
                · simp only [Act.put, List.setIfInBounds_toArray, List.set_cons_zero, List.set_cons_succ, i64_w, i32_w]
                  rfl
                refine pure_ (i := 5) (N := some 32) (v := ?_) (a' := ?_) #[true, true, true, true, false, true, false, false, false, false, false, false, false, false] rfl rfl (any_of HT_.out (by kernel_rfl)) (fun _ _ _ h => h) (Or.inl ⟨by rfl, ?_⟩) ?_ ?_
                rotate_left
                · intro w'
                  go_simp
                  with_reducible rfl
                rotate_left
                · simp only [Act.put, List.setIfInBounds_toArray, List.set_cons_zero, List.set_cons_succ, i64_w, i32_w]
                  rfl
                refine pure_ (i := 6) (N := some 33) (v := ?_) (a' := ?_) #[true, true, true, true, false, true, true, false, false, false, false, false, false, false] rfl rfl (any_of HT_.out (by kernel_rfl)) (fun _ _ _ h => h) (Or.inl ⟨by rfl, ?_⟩) ?_ ?_
                rotate_left
                · intro w'
                  go_simp
                  with_reducible rfl
                rotate_left
                · simp only [Act.put, List.setIfInBounds_toArray, List.set_cons_zero, List.set_cons_succ, i64_w, i32_w]
                  rfl
                refine pure_ (i := 7) (N := some 34) (v := ?_) (a' := ?_) #[true, true, true, true, false, true, true, true, false, false, false, false, false, false] rfl rfl (any_of HT_.out (by kernel_rfl)) (fun _ _ _ h => h) (Or.inl ⟨by rfl, ?_⟩) ?_ ?_
                rotate_left
                · intro w'
                  go_simp
                  with_reducible rfl
                rotate_left
                · simp only [Act.put, List.setIfInBounds_toArray, List.set_cons_zero, List.set_cons_succ, i64_w, i32_w]
                  rfl
                refine pure_ (i := 8) (N := some 35) (v := ?_) (a' := ?_) #[true, true, true, true, false, true, true, true, true, false, false, false, false, false] rfl rfl (any_of HT_.out (by kernel_rfl)) (fun _ _ _ h => h) (Or.inl ⟨by rfl, ?_⟩) ?_ ?_
                rotate_left
                · intro w'
                  go_simp
                  with_reducible rfl
                rotate_left
                · simp only [Act.put, List.setIfInBounds_toArray, List.set_cons_zero, List.set_cons_succ, i64_w, i32_w]
                  rfl
                refine pure_ (i := 9) (N := some 36) (v := ?_) (a' := ?_) #[true, true, true, true, false, true, true, true, true, true, false, false, false, false] rfl rfl (any_of HT_.out (by kernel_rfl)) (fun _ _ _ h => h) (Or.inl ⟨by rfl, ?_⟩) ?_ ?_
                rotate_left
                · intro w'
                  go_simp
                  with_reducible rfl
                rotate_left
                · simp only [Act.put, List.setIfInBounds_toArray, List.set_cons_zero, List.set_cons_succ, i64_w, i32_w]
                  rfl
                refine take_ (i := 4) (N := some 31) (v := ?_) (a' := ?_) #[true, true, true, true, true, true, true, true, true, true, false, false, false, false] rfl rfl (take_ofW HT_.out HW_.out (by kernel_rfl)) (fun _ _ _ h => h) (Or.inl ⟨by rfl, ?_⟩) hHeld ?_ ?_
                rotate_left
                · rintro w' ⟨s0, s1, s2, s3⟩
                  go_simp
                  with_reducible rfl
                rotate_left
                · simp only [Act.put, List.setIfInBounds_toArray, List.set_cons_zero, List.set_cons_succ, i64_w, i32_w]
                  rfl
                refine take_ (i := 10) (N := some 37) (v := ?_) (a' := ?_) #[true, true, true, true, true, true, true, true, true, true, true, false, false, false] rfl rfl (take_ofW HT_.out HW_.out (by kernel_rfl)) (fun _ _ _ h => h) (Or.inl ⟨by rfl, ?_⟩) hHeld ?_ ?_
                rotate_left
                · rintro w' ⟨s0, s1, s2, s3⟩
                  go_simp
                  with_reducible rfl
                rotate_left
                · simp only [Act.put, List.setIfInBounds_toArray, List.set_cons_zero, List.set_cons_succ, i64_w, i32_w]
                  rfl
                refine one_ (i := 11) (N := some 38) #[true, true, true, true, true, true, true, true, true, true, true, true, false, false] rfl rfl (one_of HT_.out (by kernel_rfl)) (by decide) (fun K hK => ?_)
                refine goes_ Try.func41 (by kernel_rfl) rfl #[.slice A1 l1.length c1, .int .i64 ((rd_T84 l0 x6_2).f0)] (by rfl) rfl rfl (by (try simp only [List.map_toArray, List.map_cons, List.map_nil]); first | done | rfl | (simp only [List.length_drop, List.length_take]; rfl)) ?_
                with_reducible refine (spec_TrendAt.calls k2 _ _ l1 ((rd_T84 l0 x6_2).f0) t139 _ ?side1 ?side2 A16.out).mono ?_
                (case side1 => repeat (first | exact (Kd.C_below HR1.out HB.out) | (with_reducible refine Kd.C_alloc ?_ _) | (with_reducible refine Kd.C_drewN ?_ _) | (with_reducible refine Kd.C_drew ?_)))
                (case side2 => exact HC1.out)
                rintro e w20 ⟨rfl, hb⟩
                refine ⟨_, rfl, ?_⟩
                have n0_ := Aside0.mk (below_step (by repeat (first | (with_reducible first | exact HB.out | apply below_alloc | apply pw_below_drewN | apply below_drew1) | exact HB.out)) hb)
                clear HB
                have HB := n0_
                clear n0_
                (try clear hb)
                (try clear hb2)
                (try clear hk)
                (try clear hi)
                refine hK.out _ _ ⟨((HB.out.cell (World.block_lt_of_cell? w _ hw137_0)).trans hw137_0), ((HB.out.cell (World.block_lt_of_cell? w _ hw137_1)).trans hw137_1), ((HB.out.cell (World.block_lt_of_cell? w _ hw138_0)).trans hw138_0), ((HB.out.cell (World.block_lt_of_cell? w _ hw138_1)).trans hw138_1)⟩ (fun hHeld => ?_)
                clear hK K
                refine norm_ (a' := ?_) ?_ ?_
                rotate_left
                · show Act.put _ (some 38) _ = _
                  simp only [Act.put, List.setIfInBounds_toArray, List.set_cons_zero, List.set_cons_succ, i64_w, i32_w]
                  rfl
                refine pure_ (i := 12) (N := some 39) (v := ?_) (a' := ?_) #[true, true, true, true, true, true, true, true, true, true, true, true, true, false] rfl rfl (any_of HT_.out (by kernel_rfl)) (fun _ _ _ h => h) (Or.inl ⟨by rfl, ?_⟩) ?_ ?_
                rotate_left
                · intro w'
                  go_simp
                  with_reducible rfl
                rotate_left
                · simp only [Act.put, List.setIfInBounds_toArray, List.set_cons_zero, List.set_cons_succ, i64_w, i32_w]
                  rfl
                refine pure_ (i := 13) (N := some 7) (v := ?_) (a' := ?_) #[true, true, true, true, true, true, true, true, true, true, true, true, true, true] rfl rfl (any_of HT_.out (by kernel_rfl)) (fun _ _ _ h => h) (Or.inl ⟨by rfl, ?_⟩) ?_ ?_
                rotate_left
                · intro w'
                  go_simp
                  with_reducible rfl
                rotate_left
                · simp only [Act.put, List.setIfInBounds_toArray, List.set_cons_zero, List.set_cons_succ, i64_w, i32_w]
                  rfl
                refine done_ (done_of HT_.out (by kernel_rfl)) ?_
                try go_wp2
                go_roundg k2
                case measure => have := HJ2.out; have := HK2.out; omega
                case rel => exact ⟨(ji18), (wrap64 (x6_2 + 1)), (by first | rfl | (simp; done) | (simp only [← hji18] <;> (first | rfl | simp)) | (simp [*]; done)), (by first | rfl | (simp; done) | (simp [*]; done)), H', ⟨by have := HJ2.out; have := HK2.out; omega⟩, ⟨by repeat (first | (with_reducible first | exact HB.out | apply below_alloc | apply pw_below_drewN | apply below_drew1) | exact HB.out)⟩⟩
              · rw [if_neg c15] at H
                exact absurd H (by simp)
            · rw [if_neg c14] at H
              have c14b0 : decide (x6_2 < (l0.length : Int)) = false := decide_eq_false c14
              clear c14
              obtain rfl := Option.some.inj H
              go_wp2
              go_ret
              exact ⟨by first | rfl | (simp [errW_none, errW_some] <;> rfl) | (simp [*, errW_none, errW_some] <;> rfl), by repeat (first | (with_reducible first | exact HB.out | apply below_alloc | apply pw_below_drewN | apply below_drew1) | exact HB.out)⟩

/-! ### impl_in: function 74 -/
def impl_in.f (a0 : Int) (a1 : Int) (a2 : Int) : Option (Bool) := if a0 ≥ a1 then (some (decide (a0 ≤ a2))) else (some false)
set_option maxHeartbeats 8000000 in
set_option maxRecDepth 100000 in
theorem impl_in.calls (a0 : Int) (a1 : Int) (a2 : Int) (r : Bool) (w : World) (h : impl_in.f a0 a1 a2 = some r) :
    Calls Try.prog 74 #[.int .i64 a0, .int .i64 a1, .int .i64 a2] w fun e w' => e = .returned (.bool r) ∧ Drawn0 w w' := by
  have H : (if a0 ≥ a1 then (some (decide (a0 ≤ a2))) else (some false)) = some r := h
  clear h
  by_cases c4 : a0 ≥ a1
  · rw [if_pos c4] at H
    have c4b0 : decide (a1 ≤ a0) = true := decide_eq_true c4
    clear c4
    obtain rfl := Option.some.inj H
    go_enter Try.func74, Try.ntmps74
    go_wp2
    go_ret
    exact ⟨by first | rfl | (simp; done) | (simp [*]; done), by repeat (first | exact Drawn0.refl _ | apply Drawn0.step)⟩
  · rw [if_neg c4] at H
    have c4b0 : decide (a1 ≤ a0) = false := decide_eq_false c4
    clear c4
    obtain rfl := Option.some.inj H
    go_enter Try.func74, Try.ntmps74
    go_wp2
    go_ret
    exact ⟨by first | rfl | (simp; done) | (simp [*]; done), by repeat (first | exact Drawn0.refl _ | apply Drawn0.step)⟩

/-! ### impl_isWord: function 75 -/
def impl_isWord.f (a0 : Int) : Option (Bool) := (impl_in.f a0 (-32768) 32767).bind fun t140 => (some t140)
set_option maxHeartbeats 8000000 in
set_option maxRecDepth 100000 in
theorem impl_isWord.calls (a0 : Int) (r : Bool) (w : World) (h : impl_isWord.f a0 = some r) :
    Calls Try.prog 75 #[.int .i64 a0] w fun e w' => e = .returned (.bool r) ∧ Drawn0 w w' := by
  have H : ((impl_in.f a0 (-32768) 32767).bind fun t140 => (some t140)) = some r := h
  clear h
  replace H := Option.bind_eq_some_iff.mp H
  obtain ⟨t140, A20, H⟩ := H
  replace H : (some t140) = some r := H
  have A2 := Aside0.mk A20
  clear A20
  obtain rfl := Option.some.inj H
  go_enter Try.func75, Try.ntmps75
  go_wp2_with (first | ((with_reducible refine gate_callee (f := 74) rfl ?_); refine goesL_ (some 4) rfl rfl Try.func74 (by kernel_rfl) rfl #[.int .i64 a0, .int .i64 (-32768), .int .i64 32767] rfl (by (try simp only [List.map_toArray, List.map_cons, List.map_nil]); first | done | rfl | (simp only [List.length_drop, List.length_take]; rfl)) ?_; (with_reducible refine (impl_in.calls a0 (-32768) 32767 t140 _ A2.out).mono ?_); rintro e w' ⟨rfl, ⟨nd, rfl⟩⟩; refine ⟨_, rfl, ?_⟩))
  go_ret
  exact ⟨by first | rfl | (simp; done) | (simp [*]; done), by repeat (first | exact Drawn0.refl _ | apply Drawn0.step)⟩

end Go.Proofs.Ythbbhdadioiefaa.QFnExactTrendError
