-- Written by wip/pr2.py: a program of this session's own, which runs the kit's print over contracts of its own.
import Derived.Test.YthbbhdadioiefaaQFnExactModeDistancex0
namespace Go.Proofs.Ythbbhdadioiefaa.QFnExactModeDistance
open Go.RowKit Go.Proofs.YthbbhdadioiefaaW.PrintWords Go.Proofs.YthbbhdadioiefaaW.PrintLast Go.Proofs.YthbbhdadioiefaaW.PrintMore
attribute [local go_sem] max2_int min2_int max_two min_two max_three min_three max_four min_four   -- for this text's walks alone
set_option linter.unusedVariables false
set_option linter.unusedSimpArgs false

/-! ### spec_l1In: function 71 -/
def spec_l1In.f (a0 : Int) (a1 : Int) (a2 : Int) : Option (Bool) := if a0 ≥ a1 then (some (decide (a0 ≤ a2))) else (some false)
set_option maxHeartbeats 8000000 in
set_option maxRecDepth 100000 in
theorem spec_l1In.calls (a0 : Int) (a1 : Int) (a2 : Int) (r : Bool) (w : World) (h : spec_l1In.f a0 a1 a2 = some r) :
    Calls Try.prog 71 #[.int .i64 a0, .int .i64 a1, .int .i64 a2] w fun e w' => e = .returned (.bool r) ∧ Drawn0 w w' := by
  have H : (if a0 ≥ a1 then (some (decide (a0 ≤ a2))) else (some false)) = some r := h
  clear h
  by_cases c4 : a0 ≥ a1
  · rw [if_pos c4] at H
    have c4b0 : decide (a1 ≤ a0) = true := decide_eq_true c4
    clear c4
    obtain rfl := Option.some.inj H
    go_enter Try.func71, Try.ntmps71
    go_wp2
    go_ret
    exact ⟨by first | rfl | (simp; done) | (simp [*]; done), by repeat (first | exact Drawn0.refl _ | apply Drawn0.step)⟩
  · rw [if_neg c4] at H
    have c4b0 : decide (a1 ≤ a0) = false := decide_eq_false c4
    clear c4
    obtain rfl := Option.some.inj H
    go_enter Try.func71, Try.ntmps71
    go_wp2
    go_ret
    exact ⟨by first | rfl | (simp; done) | (simp [*]; done), by repeat (first | exact Drawn0.refl _ | apply Drawn0.step)⟩

/-! ### spec_ModeStep: function 85 -/
mutual
def spec_ModeStep.j0 : Nat → Int → Int → Bool → Bool → Bool → Option (Int)
  | 0, _, _, _, _, _ => none
  | k + 1, x0, x1, x2, x3, x16 => if x16 = true then (some (-1)) else (if x3 = true then (some 5) else (if x0 = 0 then (spec_ModeStep.j1 k x0 x1 x2 (x1 == 1)) else (spec_ModeStep.j1 k x0 x1 x2 false)))
def spec_ModeStep.j1 : Nat → Int → Int → Bool → Bool → Option (Int)
  | 0, _, _, _, _ => none
  | k + 1, x0, x1, x2, x19 => if x19 = true then (some 1) else (if x0 = 1 then (spec_ModeStep.j2 k x0 x1 x2 (x1 == 2)) else (if x0 = 2 then (spec_ModeStep.j2 k x0 x1 x2 (x1 == 2)) else (if x0 = 4 then (spec_ModeStep.j2 k x0 x1 x2 (x1 == 2)) else (spec_ModeStep.j2 k x0 x1 x2 false))))
def spec_ModeStep.j2 : Nat → Int → Int → Bool → Bool → Option (Int)
  | 0, _, _, _, _ => none
  | k + 1, x0, x1, x2, x26 => if x26 = true then (some 3) else (if x0 = 1 then (spec_ModeStep.j3 k x0 x1 x2 x2) else (spec_ModeStep.j3 k x0 x1 x2 false))
def spec_ModeStep.j3 : Nat → Int → Int → Bool → Bool → Option (Int)
  | 0, _, _, _, _ => none
  | k + 1, x0, x1, x2, x41 => if x41 = true then (spec_ModeStep.j4 k x0 x1 x2 x41) else (if x0 = 4 then (spec_ModeStep.j4 k x0 x1 x2 (x1 == 1)) else (spec_ModeStep.j4 k x0 x1 x2 false))
def spec_ModeStep.j4 : Nat → Int → Int → Bool → Bool → Option (Int)
  | 0, _, _, _, _ => none
  | k + 1, x0, x1, x2, x41 => if x41 = true then (some 2) else (if x0 = 2 then (spec_ModeStep.j5 k x0 x1 x2 (x1 == 3)) else (spec_ModeStep.j5 k x0 x1 x2 false))
def spec_ModeStep.j5 : Nat → Int → Int → Bool → Bool → Option (Int)
  | 0, _, _, _, _ => none
  | k + 1, x0, x1, x2, x53 => if x53 = true then (some 4) else (if x0 = 3 then (spec_ModeStep.j6 k x0 x1 x2) else (spec_ModeStep.j6 k x0 x1 false))
def spec_ModeStep.j6 : Nat → Int → Int → Bool → Option (Int)
  | 0, _, _, _ => none
  | k + 1, x0, x1, x60 => if x60 = true then (some 0) else (if x0 = 5 then (if x1 = 4 then (some 0) else (some x0)) else (some x0))
end
def spec_ModeStep.f (k : Nat) (a0 : Int) (a1 : Int) (a2 : Bool) (a3 : Bool) : Option (Int) := (spec_l1In.f a0 0 5).bind fun t101 => (if t101 = true then ((spec_l1In.f a1 0 4).bind fun t102 => (spec_ModeStep.j0 k a0 a1 a2 a3 (!t102))) else (spec_ModeStep.j0 k a0 a1 a2 a3 true))
theorem spec_ModeStep.mono_l : ∀ k, (∀ y0 y1 y2 y3 y4, LeO (spec_ModeStep.j0 k y0 y1 y2 y3 y4) (spec_ModeStep.j0 (k + 1) y0 y1 y2 y3 y4)) ∧ (∀ y0 y1 y2 y3, LeO (spec_ModeStep.j1 k y0 y1 y2 y3) (spec_ModeStep.j1 (k + 1) y0 y1 y2 y3)) ∧ (∀ y0 y1 y2 y3, LeO (spec_ModeStep.j2 k y0 y1 y2 y3) (spec_ModeStep.j2 (k + 1) y0 y1 y2 y3)) ∧ (∀ y0 y1 y2 y3, LeO (spec_ModeStep.j3 k y0 y1 y2 y3) (spec_ModeStep.j3 (k + 1) y0 y1 y2 y3)) ∧ (∀ y0 y1 y2 y3, LeO (spec_ModeStep.j4 k y0 y1 y2 y3) (spec_ModeStep.j4 (k + 1) y0 y1 y2 y3)) ∧ (∀ y0 y1 y2 y3, LeO (spec_ModeStep.j5 k y0 y1 y2 y3) (spec_ModeStep.j5 (k + 1) y0 y1 y2 y3)) ∧ (∀ y0 y1 y2, LeO (spec_ModeStep.j6 k y0 y1 y2) (spec_ModeStep.j6 (k + 1) y0 y1 y2))
  | 0 => ⟨fun _ _ _ _ _ r h => by simp [spec_ModeStep.j0] at h, fun _ _ _ _ r h => by simp [spec_ModeStep.j1] at h, fun _ _ _ _ r h => by simp [spec_ModeStep.j2] at h, fun _ _ _ _ r h => by simp [spec_ModeStep.j3] at h, fun _ _ _ _ r h => by simp [spec_ModeStep.j4] at h, fun _ _ _ _ r h => by simp [spec_ModeStep.j5] at h, fun _ _ _ r h => by simp [spec_ModeStep.j6] at h⟩
  | k + 1 => by
    obtain ⟨ih0, ih1, ih2, ih3, ih4, ih5, ih6⟩ := spec_ModeStep.mono_l k
    refine ⟨?_, ?_, ?_, ?_, ?_, ?_, ?_⟩
    · intro y0 y1 y2 y3 y4
      unfold spec_ModeStep.j0
      repeat' first
      | (with_reducible exact ih0 _ _ _ _ _)
      | (with_reducible exact ih1 _ _ _ _)
      | (with_reducible exact ih2 _ _ _ _)
      | (with_reducible exact ih3 _ _ _ _)
      | (with_reducible exact ih4 _ _ _ _)
      | (with_reducible exact ih5 _ _ _ _)
      | (with_reducible exact ih6 _ _ _)
      | (with_reducible exact LeO.refl _)
      | (with_reducible exact LeO.none _)
      | (with_reducible refine LeO.ite ?_ ?_)
      | (with_reducible refine LeO.bind ?_ (fun _ => ?_))
      | exact ih0 _ _ _ _ _
      | exact ih1 _ _ _ _
      | exact ih2 _ _ _ _
      | exact ih3 _ _ _ _
      | exact ih4 _ _ _ _
      | exact ih5 _ _ _ _
      | exact ih6 _ _ _
      | exact LeO.none _
      | refine LeO.ite ?_ ?_
      | refine LeO.bind ?_ (fun _ => ?_)
    · intro y0 y1 y2 y3
      unfold spec_ModeStep.j1
      repeat' first
      | (with_reducible exact ih0 _ _ _ _ _)
      | (with_reducible exact ih1 _ _ _ _)
      | (with_reducible exact ih2 _ _ _ _)
      | (with_reducible exact ih3 _ _ _ _)
      | (with_reducible exact ih4 _ _ _ _)
      | (with_reducible exact ih5 _ _ _ _)
      | (with_reducible exact ih6 _ _ _)
      | (with_reducible exact LeO.refl _)
      | (with_reducible exact LeO.none _)
      | (with_reducible refine LeO.ite ?_ ?_)
      | (with_reducible refine LeO.bind ?_ (fun _ => ?_))
      | exact ih0 _ _ _ _ _
      | exact ih1 _ _ _ _
      | exact ih2 _ _ _ _
      | exact ih3 _ _ _ _
      | exact ih4 _ _ _ _
      | exact ih5 _ _ _ _
      | exact ih6 _ _ _
      | exact LeO.none _
      | refine LeO.ite ?_ ?_
      | refine LeO.bind ?_ (fun _ => ?_)
    · intro y0 y1 y2 y3
      unfold spec_ModeStep.j2
      repeat' first
      | (with_reducible exact ih0 _ _ _ _ _)
      | (with_reducible exact ih1 _ _ _ _)
      | (with_reducible exact ih2 _ _ _ _)
      | (with_reducible exact ih3 _ _ _ _)
      | (with_reducible exact ih4 _ _ _ _)
      | (with_reducible exact ih5 _ _ _ _)
      | (with_reducible exact ih6 _ _ _)
      | (with_reducible exact LeO.refl _)
      | (with_reducible exact LeO.none _)
      | (with_reducible refine LeO.ite ?_ ?_)
      | (with_reducible refine LeO.bind ?_ (fun _ => ?_))
      | exact ih0 _ _ _ _ _
      | exact ih1 _ _ _ _
      | exact ih2 _ _ _ _
      | exact ih3 _ _ _ _
      | exact ih4 _ _ _ _
      | exact ih5 _ _ _ _
      | exact ih6 _ _ _
      | exact LeO.none _
      | refine LeO.ite ?_ ?_
      | refine LeO.bind ?_ (fun _ => ?_)
    · intro y0 y1 y2 y3
      unfold spec_ModeStep.j3
      repeat' first
      | (with_reducible exact ih0 _ _ _ _ _)
      | (with_reducible exact ih1 _ _ _ _)
      | (with_reducible exact ih2 _ _ _ _)
      | (with_reducible exact ih3 _ _ _ _)
      | (with_reducible exact ih4 _ _ _ _)
      | (with_reducible exact ih5 _ _ _ _)
      | (with_reducible exact ih6 _ _ _)
      | (with_reducible exact LeO.refl _)
      | (with_reducible exact LeO.none _)
      | (with_reducible refine LeO.ite ?_ ?_)
      | (with_reducible refine LeO.bind ?_ (fun _ => ?_))
      | exact ih0 _ _ _ _ _
      | exact ih1 _ _ _ _
      | exact ih2 _ _ _ _
      | exact ih3 _ _ _ _
      | exact ih4 _ _ _ _
      | exact ih5 _ _ _ _
      | exact ih6 _ _ _
      | exact LeO.none _
      | refine LeO.ite ?_ ?_
      | refine LeO.bind ?_ (fun _ => ?_)
    · intro y0 y1 y2 y3
      unfold spec_ModeStep.j4
      repeat' first
      | (with_reducible exact ih0 _ _ _ _ _)
      | (with_reducible exact ih1 _ _ _ _)
      | (with_reducible exact ih2 _ _ _ _)
      | (with_reducible exact ih3 _ _ _ _)
      | (with_reducible exact ih4 _ _ _ _)
      | (with_reducible exact ih5 _ _ _ _)
      | (with_reducible exact ih6 _ _ _)
      | (with_reducible exact LeO.refl _)
      | (with_reducible exact LeO.none _)
      | (with_reducible refine LeO.ite ?_ ?_)
      | (with_reducible refine LeO.bind ?_ (fun _ => ?_))
      | exact ih0 _ _ _ _ _
      | exact ih1 _ _ _ _
      | exact ih2 _ _ _ _
      | exact ih3 _ _ _ _
      | exact ih4 _ _ _ _
      | exact ih5 _ _ _ _
      | exact ih6 _ _ _
      | exact LeO.none _
      | refine LeO.ite ?_ ?_
      | refine LeO.bind ?_ (fun _ => ?_)
    · intro y0 y1 y2 y3
      unfold spec_ModeStep.j5
      repeat' first
      | (with_reducible exact ih0 _ _ _ _ _)
      | (with_reducible exact ih1 _ _ _ _)
      | (with_reducible exact ih2 _ _ _ _)
      | (with_reducible exact ih3 _ _ _ _)
      | (with_reducible exact ih4 _ _ _ _)
      | (with_reducible exact ih5 _ _ _ _)
      | (with_reducible exact ih6 _ _ _)
      | (with_reducible exact LeO.refl _)
      | (with_reducible exact LeO.none _)
      | (with_reducible refine LeO.ite ?_ ?_)
      | (with_reducible refine LeO.bind ?_ (fun _ => ?_))
      | exact ih0 _ _ _ _ _
      | exact ih1 _ _ _ _
      | exact ih2 _ _ _ _
      | exact ih3 _ _ _ _
      | exact ih4 _ _ _ _
      | exact ih5 _ _ _ _
      | exact ih6 _ _ _
      | exact LeO.none _
      | refine LeO.ite ?_ ?_
      | refine LeO.bind ?_ (fun _ => ?_)
    · intro y0 y1 y2
      unfold spec_ModeStep.j6
      repeat' first
      | (with_reducible exact ih0 _ _ _ _ _)
      | (with_reducible exact ih1 _ _ _ _)
      | (with_reducible exact ih2 _ _ _ _)
      | (with_reducible exact ih3 _ _ _ _)
      | (with_reducible exact ih4 _ _ _ _)
      | (with_reducible exact ih5 _ _ _ _)
      | (with_reducible exact ih6 _ _ _)
      | (with_reducible exact LeO.refl _)
      | (with_reducible exact LeO.none _)
      | (with_reducible refine LeO.ite ?_ ?_)
      | (with_reducible refine LeO.bind ?_ (fun _ => ?_))
      | exact ih0 _ _ _ _ _
      | exact ih1 _ _ _ _
      | exact ih2 _ _ _ _
      | exact ih3 _ _ _ _
      | exact ih4 _ _ _ _
      | exact ih5 _ _ _ _
      | exact ih6 _ _ _
      | exact LeO.none _
      | refine LeO.ite ?_ ?_
      | refine LeO.bind ?_ (fun _ => ?_)
theorem spec_ModeStep.mono : ∀ a0 a1 a2 a3 k, LeO (spec_ModeStep.f k a0 a1 a2 a3) (spec_ModeStep.f (k + 1) a0 a1 a2 a3) := by
  intro a0 a1 a2 a3 k
  obtain ⟨ih0, ih1, ih2, ih3, ih4, ih5, ih6⟩ := spec_ModeStep.mono_l k
  unfold spec_ModeStep.f
  repeat' first
      | (with_reducible exact ih0 _ _ _ _ _)
      | (with_reducible exact ih1 _ _ _ _)
      | (with_reducible exact ih2 _ _ _ _)
      | (with_reducible exact ih3 _ _ _ _)
      | (with_reducible exact ih4 _ _ _ _)
      | (with_reducible exact ih5 _ _ _ _)
      | (with_reducible exact ih6 _ _ _)
      | (with_reducible exact LeO.refl _)
      | (with_reducible exact LeO.none _)
      | (with_reducible refine LeO.ite ?_ ?_)
      | (with_reducible refine LeO.bind ?_ (fun _ => ?_))
      | exact ih0 _ _ _ _ _
      | exact ih1 _ _ _ _
      | exact ih2 _ _ _ _
      | exact ih3 _ _ _ _
      | exact ih4 _ _ _ _
      | exact ih5 _ _ _ _
      | exact ih6 _ _ _
      | exact LeO.none _
      | refine LeO.ite ?_ ?_
      | refine LeO.bind ?_ (fun _ => ?_)
set_option maxHeartbeats 8000000 in
set_option maxRecDepth 100000 in
theorem spec_ModeStep.calls (k : Nat) (a0 : Int) (a1 : Int) (a2 : Bool) (a3 : Bool) (r : Int) (w : World) (h : spec_ModeStep.f k a0 a1 a2 a3 = some r) :
    Calls Try.prog 85 #[.int .i64 a0, .int .i64 a1, .bool a2, .bool a3] w fun e w' => e = .returned (.int .i64 r) ∧ Drawn0 w w' := by
  have H : ((spec_l1In.f a0 0 5).bind fun t101 => (if t101 = true then ((spec_l1In.f a1 0 4).bind fun t102 => (spec_ModeStep.j0 k a0 a1 a2 a3 (!t102))) else (spec_ModeStep.j0 k a0 a1 a2 a3 true))) = some r := h
  clear h
  have HC5 := Aside0.mk H
  clear H
  go_enter Try.func85, Try.ntmps85
  go_upto_region 1 with (fail)
  go_cut [16] (fun v16 wc => ∃ (kq : Nat) (x16_4 : Bool), v16 = .bool x16_4 ∧ Aside0 (spec_ModeStep.j0 kq a0 a1 a2 a3 x16_4 = some r) ∧ Aside0 (kq ≤ k) ∧ Drawn0 w wc)
  case first =>
    have H := HC5.out
    clear HC5
    replace H := Option.bind_eq_some_iff.mp H
    obtain ⟨t101, A60, H⟩ := H
    replace H : (if t101 = true then ((spec_l1In.f a1 0 4).bind fun t102 => (spec_ModeStep.j0 k a0 a1 a2 a3 (!t102))) else (spec_ModeStep.j0 k a0 a1 a2 a3 true)) = some r := H
    have A6 := Aside0.mk A60
    clear A60
    by_cases c7 : t101 = true
    · subst c7
      have H1 : ((spec_l1In.f a1 0 4).bind fun t102 => (spec_ModeStep.j0 k a0 a1 a2 a3 (!t102))) = some r := by rw [if_pos rfl] at H; exact H
      clear H
      have H := H1
      clear H1
      replace H := Option.bind_eq_some_iff.mp H
      obtain ⟨t102, A80, H⟩ := H
      replace H : (spec_ModeStep.j0 k a0 a1 a2 a3 (!t102)) = some r := H
      have A8 := Aside0.mk A80
      clear A80
      have H' := Aside0.mk H
      clear H
      go_wp2_with (first | ((with_reducible refine gate_callee (f := 71) rfl ?_); refine goesL_ (some 10) rfl rfl Try.func71 (by kernel_rfl) rfl #[.int .i64 a0, .int .i64 0, .int .i64 5] rfl (by (try simp only [List.map_toArray, List.map_cons, List.map_nil]); first | done | rfl | (simp only [List.length_drop, List.length_take]; rfl)) ?_; (with_reducible refine (spec_l1In.calls a0 0 5 true _ A6.out).mono ?_); rintro e w' ⟨rfl, ⟨nd, rfl⟩⟩; refine ⟨_, rfl, ?_⟩) | (go_at_call 71; (with_reducible refine (spec_l1In.calls a1 0 4 t102 _ A8.out).mono ?_); rintro e w' ⟨rfl, ⟨nd, rfl⟩⟩))
      go_meet
      case rel => exact ⟨_, (!t102), (by first | rfl | (simp; done) | (simp [*]; done)), H', ⟨by first | omega | exact Nat.le_refl _⟩, by repeat (first | exact Drawn0.refl _ | apply Drawn0.step)⟩
    · replace c7 := Bool.eq_false_iff.mpr c7
      subst c7
      have H1 : (spec_ModeStep.j0 k a0 a1 a2 a3 true) = some r := by rw [if_neg (show ¬ (false = true) by decide)] at H; exact H
      clear H
      have H := H1
      clear H1
      have H' := Aside0.mk H
      clear H
      go_wp2_with (first | ((with_reducible refine gate_callee (f := 71) rfl ?_); refine goesL_ (some 10) rfl rfl Try.func71 (by kernel_rfl) rfl #[.int .i64 a0, .int .i64 0, .int .i64 5] rfl (by (try simp only [List.map_toArray, List.map_cons, List.map_nil]); first | done | rfl | (simp only [List.length_drop, List.length_take]; rfl)) ?_; (with_reducible refine (spec_l1In.calls a0 0 5 false _ A6.out).mono ?_); rintro e w' ⟨rfl, ⟨nd, rfl⟩⟩; refine ⟨_, rfl, ?_⟩))
      go_meet
      case rel => exact ⟨_, (true), (by first | rfl | (simp; done) | (simp [*]; done)), H', ⟨by first | omega | exact Nat.le_refl _⟩, by repeat (first | exact Drawn0.refl _ | apply Drawn0.step)⟩
  case rest =>
    clear HC5
    try clear p2
    try clear c7
    try clear c8
    obtain ⟨kq, x16_4, rfl, HA, HJ4, ⟨mc4, rfl⟩⟩ := hcut
    cases kq with
    | zero => exact absurd HA.out (by simp [spec_ModeStep.j0])
    | succ kj4 =>
      have H := HA.out
      clear HA
      simp only [spec_ModeStep.j0] at H
      by_cases c9 : x16_4 = true
      · subst c9
        have H1 : (some (-1)) = some r := by rw [if_pos rfl] at H; exact H
        clear H
        have H := H1
        clear H1
        obtain rfl := Option.some.inj H
        go_wp2
        go_ret
        exact ⟨by first | rfl | (simp; done) | (simp [*]; done), by repeat (first | exact Drawn0.refl _ | apply Drawn0.step)⟩
      · replace c9 := Bool.eq_false_iff.mpr c9
        subst c9
        have H1 : (if a3 = true then (some 5) else (if a0 = 0 then (spec_ModeStep.j1 kj4 a0 a1 a2 (a1 == 1)) else (spec_ModeStep.j1 kj4 a0 a1 a2 false))) = some r := by rw [if_neg (show ¬ (false = true) by decide)] at H; exact H
        clear H
        have H := H1
        clear H1
        by_cases c10 : a3 = true
        · subst c10
          have H1 : (some 5) = some r := by rw [if_pos rfl] at H; exact H
          clear H
          have H := H1
          clear H1
          obtain rfl := Option.some.inj H
          go_wp2
          go_ret
          exact ⟨by first | rfl | (simp; done) | (simp [*]; done), by repeat (first | exact Drawn0.refl _ | apply Drawn0.step)⟩
        · replace c10 := Bool.eq_false_iff.mpr c10
          subst c10
          have H1 : (if a0 = 0 then (spec_ModeStep.j1 kj4 a0 a1 a2 (a1 == 1)) else (spec_ModeStep.j1 kj4 a0 a1 a2 false)) = some r := by rw [if_neg (show ¬ (false = true) by decide)] at H; exact H
          clear H
          have H := H1
          clear H1
          have HC11 := Aside0.mk H
          clear H
          go_upto_region 5 with (fail)
          go_cut [19] (fun v19 wc => ∃ (kq : Nat) (x19_10 : Bool), v19 = .bool x19_10 ∧ Aside0 (spec_ModeStep.j1 kq a0 a1 a2 x19_10 = some r) ∧ Aside0 (kq ≤ kj4) ∧ Drawn0 w wc)
          case first =>
            have H := HC11.out
            clear HC11
            by_cases c12 : a0 = 0
            · rw [if_pos c12] at H
              have c12b0 : (a0 == 0) = true := beq_iff_eq.mpr c12
              have c12b1 : (a0 != 0) = false := bne_eq_false_iff_eq.mpr c12
              clear c12
              (first | rw [c12b0] | (simp only [i64_w, i32_w]; rw [c12b0]) | skip)
              have H' := Aside0.mk H
              clear H
              go_wp2
              go_meet
              case rel => exact ⟨_, ((a1 == 1)), (by first | rfl | (simp; done) | (simp [*]; done)), H', ⟨by have := HJ4.out; first | omega | exact Nat.le_refl _⟩, by repeat (first | exact Drawn0.refl _ | apply Drawn0.step)⟩
            · rw [if_neg c12] at H
              have c12b0 : (a0 == 0) = false := beq_eq_false_iff_ne.mpr c12
              have c12b1 : (a0 != 0) = true := bne_iff_ne.mpr c12
              (first | rw [c12b0] | (simp only [i64_w, i32_w]; rw [c12b0]) | skip)
              have H' := Aside0.mk H
              clear H
              go_wp2
              go_meet
              case rel => exact ⟨_, (false), (by first | rfl | (simp; done) | (simp [*]; done)), H', ⟨by have := HJ4.out; first | omega | exact Nat.le_refl _⟩, by repeat (first | exact Drawn0.refl _ | apply Drawn0.step)⟩
          case rest =>
            clear HC11
            try clear c1
            try clear p2
            try clear c4
            try clear c7
            try clear c8
            try clear c9
            try clear c10
            try clear c12
            try clear c12b0
            try clear c12b1
            try clear p2
            obtain ⟨kq, x19_10, rfl, HA, HJ10, ⟨mc10, rfl⟩⟩ := hcut
            cases kq with
            | zero => exact absurd HA.out (by simp [spec_ModeStep.j1])
            | succ kj10 =>
              have H := HA.out
              clear HA
              simp only [spec_ModeStep.j1] at H
              by_cases c13 : x19_10 = true
              · subst c13
                have H1 : (some 1) = some r := by rw [if_pos rfl] at H; exact H
                clear H
                have H := H1
                clear H1
                obtain rfl := Option.some.inj H
                go_wp2
                go_ret
                exact ⟨by first | rfl | (simp; done) | (simp [*]; done), by repeat (first | exact Drawn0.refl _ | apply Drawn0.step)⟩
              · replace c13 := Bool.eq_false_iff.mpr c13
                subst c13
                have H1 : (if a0 = 1 then (spec_ModeStep.j2 kj10 a0 a1 a2 (a1 == 2)) else (if a0 = 2 then (spec_ModeStep.j2 kj10 a0 a1 a2 (a1 == 2)) else (if a0 = 4 then (spec_ModeStep.j2 kj10 a0 a1 a2 (a1 == 2)) else (spec_ModeStep.j2 kj10 a0 a1 a2 false)))) = some r := by rw [if_neg (show ¬ (false = true) by decide)] at H; exact H
                clear H
                have H := H1
                clear H1
                have HC14 := Aside0.mk H
                clear H
                go_upto_region 7 with (fail)
                go_cut [26] (fun v26 wc => ∃ (kq : Nat) (x26_13 : Bool), v26 = .bool x26_13 ∧ Aside0 (spec_ModeStep.j2 kq a0 a1 a2 x26_13 = some r) ∧ Aside0 (kq ≤ kj10) ∧ Drawn0 w wc)
                case first =>
                  have H := HC14.out
                  clear HC14
                  by_cases c15 : a0 = 1
                  · rw [if_pos c15] at H
                    have c15b0 : (a0 == 1) = true := beq_iff_eq.mpr c15
                    have c15b1 : (a0 != 1) = false := bne_eq_false_iff_eq.mpr c15
                    clear c15
                    (first | rw [c15b0] | (simp only [i64_w, i32_w]; rw [c15b0]) | skip)
                    have H' := Aside0.mk H
                    clear H
                    go_wp2
                    go_meet
                    case rel => exact ⟨_, ((a1 == 2)), (by first | rfl | (simp; done) | (simp [*]; done)), H', ⟨by have := HJ4.out; have := HJ10.out; first | omega | exact Nat.le_refl _⟩, by repeat (first | exact Drawn0.refl _ | apply Drawn0.step)⟩
                  · rw [if_neg c15] at H
                    have c15b0 : (a0 == 1) = false := beq_eq_false_iff_ne.mpr c15
                    have c15b1 : (a0 != 1) = true := bne_iff_ne.mpr c15
                    (first | rw [c15b0] | (simp only [i64_w, i32_w]; rw [c15b0]) | skip)
                    by_cases c16 : a0 = 2
                    · rw [if_pos c16] at H
                      have c16b0 : (a0 == 2) = true := beq_iff_eq.mpr c16
                      have c16b1 : (a0 != 2) = false := bne_eq_false_iff_eq.mpr c16
                      clear c16
                      have H' := Aside0.mk H
                      clear H
                      go_wp2
                      go_meet
                      case rel => exact ⟨_, ((a1 == 2)), (by first | rfl | (simp; done) | (simp [*]; done)), H', ⟨by have := HJ4.out; have := HJ10.out; first | omega | exact Nat.le_refl _⟩, by repeat (first | exact Drawn0.refl _ | apply Drawn0.step)⟩
                    · rw [if_neg c16] at H
                      have c16b0 : (a0 == 2) = false := beq_eq_false_iff_ne.mpr c16
                      have c16b1 : (a0 != 2) = true := bne_iff_ne.mpr c16
                      by_cases c17 : a0 = 4
                      · rw [if_pos c17] at H
                        have c17b0 : (a0 == 4) = true := beq_iff_eq.mpr c17
                        have c17b1 : (a0 != 4) = false := bne_eq_false_iff_eq.mpr c17
                        clear c17
                        have H' := Aside0.mk H
                        clear H
                        go_wp2
                        go_meet
                        case rel => exact ⟨_, ((a1 == 2)), (by first | rfl | (simp; done) | (simp [*]; done)), H', ⟨by have := HJ4.out; have := HJ10.out; first | omega | exact Nat.le_refl _⟩, by repeat (first | exact Drawn0.refl _ | apply Drawn0.step)⟩
                      · rw [if_neg c17] at H
                        have c17b0 : (a0 == 4) = false := beq_eq_false_iff_ne.mpr c17
                        have c17b1 : (a0 != 4) = true := bne_iff_ne.mpr c17
                        have H' := Aside0.mk H
                        clear H
                        go_wp2
                        go_meet
                        case rel => exact ⟨_, (false), (by first | rfl | (simp; done) | (simp [*]; done)), H', ⟨by have := HJ4.out; have := HJ10.out; first | omega | exact Nat.le_refl _⟩, by repeat (first | exact Drawn0.refl _ | apply Drawn0.step)⟩
                case rest =>
                  clear HC14
                  try clear c1
                  try clear p2
                  try clear c4
                  try clear c7
                  try clear c8
                  try clear c9
                  try clear c10
                  try clear c12
                  try clear c12b0
                  try clear c12b1
                  try clear c13
                  try clear c15
                  try clear c15b0
                  try clear c15b1
                  try clear c16
                  try clear c16b0
                  try clear c16b1
                  try clear c17
                  try clear c17b0
                  try clear c17b1
                  try clear p2
                  obtain ⟨kq, x26_13, rfl, HA, HJ13, ⟨mc13, rfl⟩⟩ := hcut
                  cases kq with
                  | zero => exact absurd HA.out (by simp [spec_ModeStep.j2])
                  | succ kj13 =>
                    have H := HA.out
                    clear HA
                    simp only [spec_ModeStep.j2] at H
                    by_cases c18 : x26_13 = true
                    · subst c18
                      have H1 : (some 3) = some r := by rw [if_pos rfl] at H; exact H
                      clear H
                      have H := H1
                      clear H1
                      obtain rfl := Option.some.inj H
                      go_wp2
                      go_ret
                      exact ⟨by first | rfl | (simp; done) | (simp [*]; done), by repeat (first | exact Drawn0.refl _ | apply Drawn0.step)⟩
                    · replace c18 := Bool.eq_false_iff.mpr c18
                      subst c18
                      have H1 : (if a0 = 1 then (spec_ModeStep.j3 kj13 a0 a1 a2 a2) else (spec_ModeStep.j3 kj13 a0 a1 a2 false)) = some r := by rw [if_neg (show ¬ (false = true) by decide)] at H; exact H
                      clear H
                      have H := H1
                      clear H1
                      have HC19 := Aside0.mk H
                      clear H
                      go_upto_region 9 with (fail)
                      go_cut [41] (fun v41 wc => ∃ (kq : Nat) (x41_18 : Bool), v41 = .bool x41_18 ∧ Aside0 (spec_ModeStep.j3 kq a0 a1 a2 x41_18 = some r) ∧ Aside0 (kq ≤ kj13) ∧ Drawn0 w wc)
                      case first =>
                        have H := HC19.out
                        clear HC19
                        by_cases c20 : a0 = 1
                        · rw [if_pos c20] at H
                          have c20b0 : (a0 == 1) = true := beq_iff_eq.mpr c20
                          have c20b1 : (a0 != 1) = false := bne_eq_false_iff_eq.mpr c20
                          clear c20
                          (first | rw [c20b0] | (simp only [i64_w, i32_w]; rw [c20b0]) | skip)
                          have H' := Aside0.mk H
                          clear H
                          go_wp2
                          go_meet
                          case rel => exact ⟨_, (a2), (by first | rfl | (simp; done) | (simp [*]; done)), H', ⟨by have := HJ4.out; have := HJ10.out; have := HJ13.out; first | omega | exact Nat.le_refl _⟩, by repeat (first | exact Drawn0.refl _ | apply Drawn0.step)⟩
                        · rw [if_neg c20] at H
                          have c20b0 : (a0 == 1) = false := beq_eq_false_iff_ne.mpr c20
                          have c20b1 : (a0 != 1) = true := bne_iff_ne.mpr c20
                          (first | rw [c20b0] | (simp only [i64_w, i32_w]; rw [c20b0]) | skip)
                          have H' := Aside0.mk H
                          clear H
                          go_wp2
                          go_meet
                          case rel => exact ⟨_, (false), (by first | rfl | (simp; done) | (simp [*]; done)), H', ⟨by have := HJ4.out; have := HJ10.out; have := HJ13.out; first | omega | exact Nat.le_refl _⟩, by repeat (first | exact Drawn0.refl _ | apply Drawn0.step)⟩
                      case rest =>
                        clear HC19
                        try clear c1
                        try clear c2
                        try clear p2
                        try clear c4
                        try clear c7
                        try clear c8
                        try clear c9
                        try clear c10
                        try clear c12
                        try clear c12b0
                        try clear c12b1
                        try clear c13
                        try clear c15
                        try clear c15b0
                        try clear c15b1
                        try clear c16
                        try clear c16b0
                        try clear c16b1
                        try clear c17
                        try clear c17b0
                        try clear c17b1
                        try clear c18
                        try clear c20
                        try clear c20b0
                        try clear c20b1
                        try clear p2
                        obtain ⟨kq, x41_18, rfl, HA, HJ18, ⟨mc18, rfl⟩⟩ := hcut
                        cases kq with
                        | zero => exact absurd HA.out (by simp [spec_ModeStep.j3])
                        | succ kj18 =>
                          have H := HA.out
                          clear HA
                          simp only [spec_ModeStep.j3] at H
                          have HC21 := Aside0.mk H
                          clear H
                          go_upto_if 41 with (fail)
                          go_cut [41] (fun v41 wc => ∃ (kq : Nat) (x41_20 : Bool), v41 = .bool x41_20 ∧ Aside0 (spec_ModeStep.j4 kq a0 a1 a2 x41_20 = some r) ∧ Aside0 (kq ≤ kj18) ∧ Drawn0 w wc)
                          case first =>
                            have H := HC21.out
                            clear HC21
                            by_cases c22 : x41_18 = true
                            · subst c22
                              have H1 : (spec_ModeStep.j4 kj18 a0 a1 a2 true) = some r := by rw [if_pos rfl] at H; exact H
                              clear H
                              have H := H1
                              clear H1
                              have H' := Aside0.mk H
                              clear H
                              go_wp2
                              go_meet
                              case rel => exact ⟨_, (true), (by first | rfl | (simp; done) | (simp [*]; done)), H', ⟨by have := HJ4.out; have := HJ10.out; have := HJ13.out; have := HJ18.out; first | omega | exact Nat.le_refl _⟩, by repeat (first | exact Drawn0.refl _ | apply Drawn0.step)⟩
                            · replace c22 := Bool.eq_false_iff.mpr c22
                              subst c22
                              have H1 : (if a0 = 4 then (spec_ModeStep.j4 kj18 a0 a1 a2 (a1 == 1)) else (spec_ModeStep.j4 kj18 a0 a1 a2 false)) = some r := by rw [if_neg (show ¬ (false = true) by decide)] at H; exact H
                              clear H
                              have H := H1
                              clear H1
                              by_cases c23 : a0 = 4
                              · rw [if_pos c23] at H
                                have c23b0 : (a0 == 4) = true := beq_iff_eq.mpr c23
                                have c23b1 : (a0 != 4) = false := bne_eq_false_iff_eq.mpr c23
                                clear c23
                                (first | rw [c23b0] | (simp only [i64_w, i32_w]; rw [c23b0]) | skip)
                                have H' := Aside0.mk H
                                clear H
                                go_wp2
                                go_meet
                                case rel => exact ⟨_, ((a1 == 1)), (by first | rfl | (simp; done) | (simp [*]; done)), H', ⟨by have := HJ4.out; have := HJ10.out; have := HJ13.out; have := HJ18.out; first | omega | exact Nat.le_refl _⟩, by repeat (first | exact Drawn0.refl _ | apply Drawn0.step)⟩
                              · rw [if_neg c23] at H
                                have c23b0 : (a0 == 4) = false := beq_eq_false_iff_ne.mpr c23
                                have c23b1 : (a0 != 4) = true := bne_iff_ne.mpr c23
                                (first | rw [c23b0] | (simp only [i64_w, i32_w]; rw [c23b0]) | skip)
                                have H' := Aside0.mk H
                                clear H
                                go_wp2
                                go_meet
                                case rel => exact ⟨_, (false), (by first | rfl | (simp; done) | (simp [*]; done)), H', ⟨by have := HJ4.out; have := HJ10.out; have := HJ13.out; have := HJ18.out; first | omega | exact Nat.le_refl _⟩, by repeat (first | exact Drawn0.refl _ | apply Drawn0.step)⟩
                          case rest =>
                            clear HC21
                            try clear c1
                            try clear c2
                            try clear p2
                            try clear c4
                            try clear c7
                            try clear c8
                            try clear c9
                            try clear c10
                            try clear c12
                            try clear c12b0
                            try clear c12b1
                            try clear c13
                            try clear c15
                            try clear c15b0
                            try clear c15b1
                            try clear c16
                            try clear c16b0
                            try clear c16b1
                            try clear c17
                            try clear c17b0
                            try clear c17b1
                            try clear c18
                            try clear c20
                            try clear c20b0
                            try clear c20b1
                            try clear c22
                            try clear c23
                            try clear c23b0
                            try clear c23b1
                            try clear p2
                            obtain ⟨kq, x41_20, rfl, HA, HJ20, ⟨mc20, rfl⟩⟩ := hcut
                            cases kq with
                            | zero => exact absurd HA.out (by simp [spec_ModeStep.j4])
                            | succ kj20 =>
                              have H := HA.out
                              clear HA
                              simp only [spec_ModeStep.j4] at H
                              by_cases c24 : x41_20 = true
                              · subst c24
                                have H1 : (some 2) = some r := by rw [if_pos rfl] at H; exact H
                                clear H
                                have H := H1
                                clear H1
                                obtain rfl := Option.some.inj H
                                go_wp2
                                go_ret
                                exact ⟨by first | rfl | (simp; done) | (simp [*]; done), by repeat (first | exact Drawn0.refl _ | apply Drawn0.step)⟩
                              · replace c24 := Bool.eq_false_iff.mpr c24
                                subst c24
                                have H1 : (if a0 = 2 then (spec_ModeStep.j5 kj20 a0 a1 a2 (a1 == 3)) else (spec_ModeStep.j5 kj20 a0 a1 a2 false)) = some r := by rw [if_neg (show ¬ (false = true) by decide)] at H; exact H
                                clear H
                                have H := H1
                                clear H1
                                have HC25 := Aside0.mk H
                                clear H
                                go_upto_region 12 with (fail)
                                go_cut [53] (fun v53 wc => ∃ (kq : Nat) (x53_24 : Bool), v53 = .bool x53_24 ∧ Aside0 (spec_ModeStep.j5 kq a0 a1 a2 x53_24 = some r) ∧ Aside0 (kq ≤ kj20) ∧ Drawn0 w wc)
                                case first =>
                                  have H := HC25.out
                                  clear HC25
                                  by_cases c26 : a0 = 2
                                  · rw [if_pos c26] at H
                                    have c26b0 : (a0 == 2) = true := beq_iff_eq.mpr c26
                                    have c26b1 : (a0 != 2) = false := bne_eq_false_iff_eq.mpr c26
                                    clear c26
                                    (first | rw [c26b0] | (simp only [i64_w, i32_w]; rw [c26b0]) | skip)
                                    have H' := Aside0.mk H
                                    clear H
                                    go_wp2
                                    go_meet
                                    case rel => exact ⟨_, ((a1 == 3)), (by first | rfl | (simp; done) | (simp [*]; done)), H', ⟨by have := HJ4.out; have := HJ10.out; have := HJ13.out; have := HJ18.out; have := HJ20.out; first | omega | exact Nat.le_refl _⟩, by repeat (first | exact Drawn0.refl _ | apply Drawn0.step)⟩
                                  · rw [if_neg c26] at H
                                    have c26b0 : (a0 == 2) = false := beq_eq_false_iff_ne.mpr c26
                                    have c26b1 : (a0 != 2) = true := bne_iff_ne.mpr c26
                                    (first | rw [c26b0] | (simp only [i64_w, i32_w]; rw [c26b0]) | skip)
                                    have H' := Aside0.mk H
                                    clear H
                                    go_wp2
                                    go_meet
                                    case rel => exact ⟨_, (false), (by first | rfl | (simp; done) | (simp [*]; done)), H', ⟨by have := HJ4.out; have := HJ10.out; have := HJ13.out; have := HJ18.out; have := HJ20.out; first | omega | exact Nat.le_refl _⟩, by repeat (first | exact Drawn0.refl _ | apply Drawn0.step)⟩
                                case rest =>
                                  clear HC25
                                  try clear c1
                                  try clear c2
                                  try clear p2
                                  try clear c4
                                  try clear c7
                                  try clear c8
                                  try clear c9
                                  try clear c10
                                  try clear c12
                                  try clear c12b0
                                  try clear c12b1
                                  try clear c13
                                  try clear c15
                                  try clear c15b0
                                  try clear c15b1
                                  try clear c16
                                  try clear c16b0
                                  try clear c16b1
                                  try clear c17
                                  try clear c17b0
                                  try clear c17b1
                                  try clear c18
                                  try clear c20
                                  try clear c20b0
                                  try clear c20b1
                                  try clear c22
                                  try clear c23
                                  try clear c23b0
                                  try clear c23b1
                                  try clear c24
                                  try clear c26
                                  try clear c26b0
                                  try clear c26b1
                                  try clear p2
                                  obtain ⟨kq, x53_24, rfl, HA, HJ24, ⟨mc24, rfl⟩⟩ := hcut
                                  cases kq with
                                  | zero => exact absurd HA.out (by simp [spec_ModeStep.j5])
                                  | succ kj24 =>
                                    have H := HA.out
                                    clear HA
                                    simp only [spec_ModeStep.j5] at H
                                    by_cases c27 : x53_24 = true
                                    · subst c27
                                      have H1 : (some 4) = some r := by rw [if_pos rfl] at H; exact H
                                      clear H
                                      have H := H1
                                      clear H1
                                      obtain rfl := Option.some.inj H
                                      go_wp2
                                      go_ret
                                      exact ⟨by first | rfl | (simp; done) | (simp [*]; done), by repeat (first | exact Drawn0.refl _ | apply Drawn0.step)⟩
                                    · replace c27 := Bool.eq_false_iff.mpr c27
                                      subst c27
                                      have H1 : (if a0 = 3 then (spec_ModeStep.j6 kj24 a0 a1 a2) else (spec_ModeStep.j6 kj24 a0 a1 false)) = some r := by rw [if_neg (show ¬ (false = true) by decide)] at H; exact H
                                      clear H
                                      have H := H1
                                      clear H1
                                      have HC28 := Aside0.mk H
                                      clear H
                                      go_upto_region 14 with (fail)
                                      go_cut [60] (fun v60 wc => ∃ (kq : Nat) (x60_27 : Bool), v60 = .bool x60_27 ∧ Aside0 (spec_ModeStep.j6 kq a0 a1 x60_27 = some r) ∧ Aside0 (kq ≤ kj24) ∧ Drawn0 w wc)
                                      case first =>
                                        have H := HC28.out
                                        clear HC28
                                        by_cases c29 : a0 = 3
                                        · rw [if_pos c29] at H
                                          have c29b0 : (a0 == 3) = true := beq_iff_eq.mpr c29
                                          have c29b1 : (a0 != 3) = false := bne_eq_false_iff_eq.mpr c29
                                          clear c29
                                          (first | rw [c29b0] | (simp only [i64_w, i32_w]; rw [c29b0]) | skip)
                                          have H' := Aside0.mk H
                                          clear H
                                          go_wp2
                                          go_meet
                                          case rel => exact ⟨_, (a2), (by first | rfl | (simp; done) | (simp [*]; done)), H', ⟨by have := HJ4.out; have := HJ10.out; have := HJ13.out; have := HJ18.out; have := HJ20.out; have := HJ24.out; first | omega | exact Nat.le_refl _⟩, by repeat (first | exact Drawn0.refl _ | apply Drawn0.step)⟩
                                        · rw [if_neg c29] at H
                                          have c29b0 : (a0 == 3) = false := beq_eq_false_iff_ne.mpr c29
                                          have c29b1 : (a0 != 3) = true := bne_iff_ne.mpr c29
                                          (first | rw [c29b0] | (simp only [i64_w, i32_w]; rw [c29b0]) | skip)
                                          have H' := Aside0.mk H
                                          clear H
                                          go_wp2
                                          go_meet
                                          case rel => exact ⟨_, (false), (by first | rfl | (simp; done) | (simp [*]; done)), H', ⟨by have := HJ4.out; have := HJ10.out; have := HJ13.out; have := HJ18.out; have := HJ20.out; have := HJ24.out; first | omega | exact Nat.le_refl _⟩, by repeat (first | exact Drawn0.refl _ | apply Drawn0.step)⟩
                                      case rest =>
                                        clear HC28
                                        try clear c1
                                        try clear c2
                                        try clear p2
                                        try clear c4
                                        try clear c7
                                        try clear c8
                                        try clear c9
                                        try clear c10
                                        try clear c12
                                        try clear c12b0
                                        try clear c12b1
                                        try clear c13
                                        try clear c15
                                        try clear c15b0
                                        try clear c15b1
                                        try clear c16
                                        try clear c16b0
                                        try clear c16b1
                                        try clear c17
                                        try clear c17b0
                                        try clear c17b1
                                        try clear c18
                                        try clear c20
                                        try clear c20b0
                                        try clear c20b1
                                        try clear c22
                                        try clear c23
                                        try clear c23b0
                                        try clear c23b1
                                        try clear c24
                                        try clear c26
                                        try clear c26b0
                                        try clear c26b1
                                        try clear c27
                                        try clear c29
                                        try clear c29b0
                                        try clear c29b1
                                        try clear p2
                                        obtain ⟨kq, x60_27, rfl, HA, HJ27, ⟨mc27, rfl⟩⟩ := hcut
                                        cases kq with
                                        | zero => exact absurd HA.out (by simp [spec_ModeStep.j6])
                                        | succ kj27 =>
                                          have H := HA.out
                                          clear HA
                                          simp only [spec_ModeStep.j6] at H
                                          by_cases c30 : x60_27 = true
                                          · subst c30
                                            have H1 : (some 0) = some r := by rw [if_pos rfl] at H; exact H
                                            clear H
                                            have H := H1
                                            clear H1
                                            obtain rfl := Option.some.inj H
                                            go_wp2
                                            go_ret
                                            exact ⟨by first | rfl | (simp; done) | (simp [*]; done), by repeat (first | exact Drawn0.refl _ | apply Drawn0.step)⟩
                                          · replace c30 := Bool.eq_false_iff.mpr c30
                                            subst c30
                                            have H1 : (if a0 = 5 then (if a1 = 4 then (some 0) else (some a0)) else (some a0)) = some r := by rw [if_neg (show ¬ (false = true) by decide)] at H; exact H
                                            clear H
                                            have H := H1
                                            clear H1
                                            by_cases c31 : a0 = 5
                                            · rw [if_pos c31] at H
                                              have c31b0 : (a0 == 5) = true := beq_iff_eq.mpr c31
                                              have c31b1 : (a0 != 5) = false := bne_eq_false_iff_eq.mpr c31
                                              clear c31
                                              by_cases c32 : a1 = 4
                                              · rw [if_pos c32] at H
                                                have c32b0 : (a1 == 4) = true := beq_iff_eq.mpr c32
                                                have c32b1 : (a1 != 4) = false := bne_eq_false_iff_eq.mpr c32
                                                clear c32
                                                obtain rfl := Option.some.inj H
                                                go_wp2
                                                go_ret
                                                exact ⟨by first | rfl | (simp; done) | (simp [*]; done), by repeat (first | exact Drawn0.refl _ | apply Drawn0.step)⟩
                                              · rw [if_neg c32] at H
                                                have c32b0 : (a1 == 4) = false := beq_eq_false_iff_ne.mpr c32
                                                have c32b1 : (a1 != 4) = true := bne_iff_ne.mpr c32
                                                obtain rfl := Option.some.inj H
                                                go_wp2
                                                go_ret
                                                exact ⟨by first | rfl | (simp; done) | (simp [*]; done), by repeat (first | exact Drawn0.refl _ | apply Drawn0.step)⟩
                                            · rw [if_neg c31] at H
                                              have c31b0 : (a0 == 5) = false := beq_eq_false_iff_ne.mpr c31
                                              have c31b1 : (a0 != 5) = true := bne_iff_ne.mpr c31
                                              obtain rfl := Option.some.inj H
                                              go_wp2
                                              go_ret
                                              exact ⟨by first | rfl | (simp; done) | (simp [*]; done), by repeat (first | exact Drawn0.refl _ | apply Drawn0.step)⟩

/-! ### spec_ModeDistance: function 39 -/
mutual
def spec_ModeDistance.j0 : Nat → Int → Int → Bool → Option (Int)
  | 0, _, _, _ => none
  | k + 1, x0, x1, x20 => if x20 = true then (some (-1)) else (spec_ModeDistance.l0 k x1 (([x0] : List Int)) (([0] : List Int)) 0)
def spec_ModeDistance.l0 : Nat → Int → List Int → List Int → Int → Option (Int)
  | 0, _, _, _, _ => none
  | k + 1, x1, x5, x6, x7 => if x7 < (x5.length : Int) then (if 0 ≤ x7 then (if (rd x5 x7) = x1 then (if x7 < (x6.length : Int) then (some (rd x6 x7)) else (none)) else (spec_ModeDistance.l1 k x1 x5 x6 x7 0)) else (none)) else (some (-1))
def spec_ModeDistance.l1 : Nat → Int → List Int → List Int → Int → Int → Option (Int)
  | 0, _, _, _, _, _ => none
  | k + 1, x1, x5, x6, x7, x8 => if x8 ≤ 4 then (spec_ModeDistance.l2 k x1 x5 x6 x7 x8 0) else (spec_ModeDistance.l0 k x1 x5 x6 (wrap64 (x7 + 1)))
def spec_ModeDistance.l2 : Nat → Int → List Int → List Int → Int → Int → Int → Option (Int)
  | 0, _, _, _, _, _, _ => none
  | k + 1, x1, x5, x6, x7, x8, x9 => if x9 < 2 then (if 0 ≤ x7 then (if x7 < (x5.length : Int) then ((spec_ModeStep.f k (rd x5 x7) x8 (x9 == 1) false).bind fun t114 => (spec_ModeDistance.l3 k x1 x5 x6 x7 x8 x9 t114 false 0)) else (none)) else (none)) else (spec_ModeDistance.l1 k x1 x5 x6 x7 (wrap64 (x8 + 1)))
def spec_ModeDistance.l3 : Nat → Int → List Int → List Int → Int → Int → Int → Int → Bool → Int → Option (Int)
  | 0, _, _, _, _, _, _, _, _, _ => none
  | k + 1, x1, x5, x6, x7, x8, x9, x10, x11, x12 => if x12 < (x5.length : Int) then (if x11 = true then (spec_ModeDistance.l3 k x1 x5 x6 x7 x8 x9 x10 true (wrap64 (x12 + 1))) else (if 0 ≤ x12 then (spec_ModeDistance.l3 k x1 x5 x6 x7 x8 x9 x10 ((rd x5 x12) == x10) (wrap64 (x12 + 1))) else (none))) else (if x11 = true then (spec_ModeDistance.l2 k x1 x5 x6 x7 x8 (wrap64 (x9 + 1))) else (if x5.length < 17592186044416 then (if 0 ≤ x7 then (if x7 < (x6.length : Int) then (if x6.length < 17592186044416 then (spec_ModeDistance.l2 k x1 (x5 ++ [x10]) (x6 ++ [wrap64 ((rd x6 x7) + 1)]) x7 x8 (wrap64 (x9 + 1))) else (none)) else (none)) else (none)) else (none)))
end
def spec_ModeDistance.f (k : Nat) (a0 : Int) (a1 : Int) : Option (Int) := (spec_l1In.f a0 0 5).bind fun t103 => (if t103 = true then ((spec_l1In.f a1 0 5).bind fun t104 => (spec_ModeDistance.j0 k a0 a1 (!t104))) else (spec_ModeDistance.j0 k a0 a1 true))
theorem spec_ModeDistance.mono_l : ∀ k, (∀ y0 y1 y2, LeO (spec_ModeDistance.j0 k y0 y1 y2) (spec_ModeDistance.j0 (k + 1) y0 y1 y2)) ∧ (∀ y0 y1 y2 y3, LeO (spec_ModeDistance.l0 k y0 y1 y2 y3) (spec_ModeDistance.l0 (k + 1) y0 y1 y2 y3)) ∧ (∀ y0 y1 y2 y3 y4, LeO (spec_ModeDistance.l1 k y0 y1 y2 y3 y4) (spec_ModeDistance.l1 (k + 1) y0 y1 y2 y3 y4)) ∧ (∀ y0 y1 y2 y3 y4 y5, LeO (spec_ModeDistance.l2 k y0 y1 y2 y3 y4 y5) (spec_ModeDistance.l2 (k + 1) y0 y1 y2 y3 y4 y5)) ∧ (∀ y0 y1 y2 y3 y4 y5 y6 y7 y8, LeO (spec_ModeDistance.l3 k y0 y1 y2 y3 y4 y5 y6 y7 y8) (spec_ModeDistance.l3 (k + 1) y0 y1 y2 y3 y4 y5 y6 y7 y8))
  | 0 => ⟨fun _ _ _ r h => by simp [spec_ModeDistance.j0] at h, fun _ _ _ _ r h => by simp [spec_ModeDistance.l0] at h, fun _ _ _ _ _ r h => by simp [spec_ModeDistance.l1] at h, fun _ _ _ _ _ _ r h => by simp [spec_ModeDistance.l2] at h, fun _ _ _ _ _ _ _ _ _ r h => by simp [spec_ModeDistance.l3] at h⟩
  | k + 1 => by
    obtain ⟨ih0, ih1, ih2, ih3, ih4⟩ := spec_ModeDistance.mono_l k
    refine ⟨?_, ?_, ?_, ?_, ?_⟩
    · intro y0 y1 y2
      unfold spec_ModeDistance.j0
      repeat' first
      | (with_reducible exact ih0 _ _ _)
      | (with_reducible exact ih1 _ _ _ _)
      | (with_reducible exact ih2 _ _ _ _ _)
      | (with_reducible exact ih3 _ _ _ _ _ _)
      | (with_reducible exact ih4 _ _ _ _ _ _ _ _ _)
      | (with_reducible exact spec_ModeStep.mono _ _ _ _ _)
      | (with_reducible exact LeO.refl _)
      | (with_reducible exact LeO.none _)
      | (with_reducible refine LeO.ite ?_ ?_)
      | (with_reducible refine LeO.bind ?_ (fun _ => ?_))
      | exact ih0 _ _ _
      | exact ih1 _ _ _ _
      | exact ih2 _ _ _ _ _
      | exact ih3 _ _ _ _ _ _
      | exact ih4 _ _ _ _ _ _ _ _ _
      | exact spec_ModeStep.mono _ _ _ _ _
      | exact LeO.none _
      | refine LeO.ite ?_ ?_
      | refine LeO.bind ?_ (fun _ => ?_)
    · intro y0 y1 y2 y3
      unfold spec_ModeDistance.l0
      repeat' first
      | (with_reducible exact ih0 _ _ _)
      | (with_reducible exact ih1 _ _ _ _)
      | (with_reducible exact ih2 _ _ _ _ _)
      | (with_reducible exact ih3 _ _ _ _ _ _)
      | (with_reducible exact ih4 _ _ _ _ _ _ _ _ _)
      | (with_reducible exact spec_ModeStep.mono _ _ _ _ _)
      | (with_reducible exact LeO.refl _)
      | (with_reducible exact LeO.none _)
      | (with_reducible refine LeO.ite ?_ ?_)
      | (with_reducible refine LeO.bind ?_ (fun _ => ?_))
      | exact ih0 _ _ _
      | exact ih1 _ _ _ _
      | exact ih2 _ _ _ _ _
      | exact ih3 _ _ _ _ _ _
      | exact ih4 _ _ _ _ _ _ _ _ _
      | exact spec_ModeStep.mono _ _ _ _ _
      | exact LeO.none _
      | refine LeO.ite ?_ ?_
      | refine LeO.bind ?_ (fun _ => ?_)
    · intro y0 y1 y2 y3 y4
      unfold spec_ModeDistance.l1
      repeat' first
      | (with_reducible exact ih0 _ _ _)
      | (with_reducible exact ih1 _ _ _ _)
      | (with_reducible exact ih2 _ _ _ _ _)
      | (with_reducible exact ih3 _ _ _ _ _ _)
      | (with_reducible exact ih4 _ _ _ _ _ _ _ _ _)
      | (with_reducible exact spec_ModeStep.mono _ _ _ _ _)
      | (with_reducible exact LeO.refl _)
      | (with_reducible exact LeO.none _)
      | (with_reducible refine LeO.ite ?_ ?_)
      | (with_reducible refine LeO.bind ?_ (fun _ => ?_))
      | exact ih0 _ _ _
      | exact ih1 _ _ _ _
      | exact ih2 _ _ _ _ _
      | exact ih3 _ _ _ _ _ _
      | exact ih4 _ _ _ _ _ _ _ _ _
      | exact spec_ModeStep.mono _ _ _ _ _
      | exact LeO.none _
      | refine LeO.ite ?_ ?_
      | refine LeO.bind ?_ (fun _ => ?_)
    · intro y0 y1 y2 y3 y4 y5
      unfold spec_ModeDistance.l2
      repeat' first
      | (with_reducible exact ih0 _ _ _)
      | (with_reducible exact ih1 _ _ _ _)
      | (with_reducible exact ih2 _ _ _ _ _)
      | (with_reducible exact ih3 _ _ _ _ _ _)
      | (with_reducible exact ih4 _ _ _ _ _ _ _ _ _)
      | (with_reducible exact spec_ModeStep.mono _ _ _ _ _)
      | (with_reducible exact LeO.refl _)
      | (with_reducible exact LeO.none _)
      | (with_reducible refine LeO.ite ?_ ?_)
      | (with_reducible refine LeO.bind ?_ (fun _ => ?_))
      | exact ih0 _ _ _
      | exact ih1 _ _ _ _
      | exact ih2 _ _ _ _ _
      | exact ih3 _ _ _ _ _ _
      | exact ih4 _ _ _ _ _ _ _ _ _
      | exact spec_ModeStep.mono _ _ _ _ _
      | exact LeO.none _
      | refine LeO.ite ?_ ?_
      | refine LeO.bind ?_ (fun _ => ?_)
    · intro y0 y1 y2 y3 y4 y5 y6 y7 y8
      unfold spec_ModeDistance.l3
      repeat' first
      | (with_reducible exact ih0 _ _ _)
      | (with_reducible exact ih1 _ _ _ _)
      | (with_reducible exact ih2 _ _ _ _ _)
      | (with_reducible exact ih3 _ _ _ _ _ _)
      | (with_reducible exact ih4 _ _ _ _ _ _ _ _ _)
      | (with_reducible exact spec_ModeStep.mono _ _ _ _ _)
      | (with_reducible exact LeO.refl _)
      | (with_reducible exact LeO.none _)
      | (with_reducible refine LeO.ite ?_ ?_)
      | (with_reducible refine LeO.bind ?_ (fun _ => ?_))
      | exact ih0 _ _ _
      | exact ih1 _ _ _ _
      | exact ih2 _ _ _ _ _
      | exact ih3 _ _ _ _ _ _
      | exact ih4 _ _ _ _ _ _ _ _ _
      | exact spec_ModeStep.mono _ _ _ _ _
      | exact LeO.none _
      | refine LeO.ite ?_ ?_
      | refine LeO.bind ?_ (fun _ => ?_)
theorem spec_ModeDistance.mono : ∀ a0 a1 k, LeO (spec_ModeDistance.f k a0 a1) (spec_ModeDistance.f (k + 1) a0 a1) := by
  intro a0 a1 k
  obtain ⟨ih0, ih1, ih2, ih3, ih4⟩ := spec_ModeDistance.mono_l k
  unfold spec_ModeDistance.f
  repeat' first
      | (with_reducible exact ih0 _ _ _)
      | (with_reducible exact ih1 _ _ _ _)
      | (with_reducible exact ih2 _ _ _ _ _)
      | (with_reducible exact ih3 _ _ _ _ _ _)
      | (with_reducible exact ih4 _ _ _ _ _ _ _ _ _)
      | (with_reducible exact spec_ModeStep.mono _ _ _ _ _)
      | (with_reducible exact LeO.refl _)
      | (with_reducible exact LeO.none _)
      | (with_reducible refine LeO.ite ?_ ?_)
      | (with_reducible refine LeO.bind ?_ (fun _ => ?_))
      | exact ih0 _ _ _
      | exact ih1 _ _ _ _
      | exact ih2 _ _ _ _ _
      | exact ih3 _ _ _ _ _ _
      | exact ih4 _ _ _ _ _ _ _ _ _
      | exact spec_ModeStep.mono _ _ _ _ _
      | exact LeO.none _
      | refine LeO.ite ?_ ?_
      | refine LeO.bind ?_ (fun _ => ?_)
set_option maxHeartbeats 8000000 in
set_option maxRecDepth 100000 in
theorem spec_ModeDistance.calls (k : Nat) (a0 : Int) (a1 : Int) (r : Int) (w : World) (h : spec_ModeDistance.f k a0 a1 = some r) :
    Calls Try.prog 39 #[.int .i64 a0, .int .i64 a1] w fun e w' => e = .returned (.int .i64 r) ∧ Below w.heap.size w w' := by
  have HB := Aside0.mk (Below.refl w.heap.size w)
  have H : ((spec_l1In.f a0 0 5).bind fun t103 => (if t103 = true then ((spec_l1In.f a1 0 5).bind fun t104 => (spec_ModeDistance.j0 k a0 a1 (!t104))) else (spec_ModeDistance.j0 k a0 a1 true))) = some r := h
  clear h
  have HC3 := Aside0.mk H
  clear H
  go_enter Try.func39, Try.ntmps39
  go_upto_region 1 with (fail)
  go_cut [20] (fun v20 wc => ∃ (kq : Nat) (x20_2 : Bool), v20 = .bool x20_2 ∧ Aside0 (spec_ModeDistance.j0 kq a0 a1 x20_2 = some r) ∧ Aside0 (kq ≤ k) ∧ Aside0 (Below w.heap.size w wc))
  case first =>
    have H := HC3.out
    clear HC3
    replace H := Option.bind_eq_some_iff.mp H
    obtain ⟨t103, A40, H⟩ := H
    replace H : (if t103 = true then ((spec_l1In.f a1 0 5).bind fun t104 => (spec_ModeDistance.j0 k a0 a1 (!t104))) else (spec_ModeDistance.j0 k a0 a1 true)) = some r := H
    have A4 := Aside0.mk A40
    clear A40
    by_cases c5 : t103 = true
    · subst c5
      have H1 : ((spec_l1In.f a1 0 5).bind fun t104 => (spec_ModeDistance.j0 k a0 a1 (!t104))) = some r := by rw [if_pos rfl] at H; exact H
      clear H
      have H := H1
      clear H1
      replace H := Option.bind_eq_some_iff.mp H
      obtain ⟨t104, A60, H⟩ := H
      replace H : (spec_ModeDistance.j0 k a0 a1 (!t104)) = some r := H
      have A6 := Aside0.mk A60
      clear A60
      have H' := Aside0.mk H
      clear H
      go_wp2_with (first | ((with_reducible refine gate_callee (f := 71) rfl ?_); refine goesL_ (some 14) rfl rfl Try.func71 (by kernel_rfl) rfl #[.int .i64 a0, .int .i64 0, .int .i64 5] rfl (by (try simp only [List.map_toArray, List.map_cons, List.map_nil]); first | done | rfl | (simp only [List.length_drop, List.length_take]; rfl)) ?_; (with_reducible refine (spec_l1In.calls a0 0 5 true _ A4.out).mono ?_); rintro e w' ⟨rfl, ⟨nd, rfl⟩⟩; refine ⟨_, rfl, ?_⟩) | (go_at_call 71; (with_reducible refine (spec_l1In.calls a1 0 5 t104 _ A6.out).mono ?_); rintro e w' ⟨rfl, ⟨nd, rfl⟩⟩))
      go_meet
      case rel => exact ⟨_, (!t104), (by first | rfl | (simp; done) | (simp [*]; done)), H', ⟨by first | omega | exact Nat.le_refl _⟩, ⟨by repeat (first | (with_reducible first | exact HB.out | apply below_alloc | apply pw_below_drewN | apply below_drew1) | exact HB.out)⟩⟩
    · replace c5 := Bool.eq_false_iff.mpr c5
      subst c5
      have H1 : (spec_ModeDistance.j0 k a0 a1 true) = some r := by rw [if_neg (show ¬ (false = true) by decide)] at H; exact H
      clear H
      have H := H1
      clear H1
      have H' := Aside0.mk H
      clear H
      go_wp2_with (first | ((with_reducible refine gate_callee (f := 71) rfl ?_); refine goesL_ (some 14) rfl rfl Try.func71 (by kernel_rfl) rfl #[.int .i64 a0, .int .i64 0, .int .i64 5] rfl (by (try simp only [List.map_toArray, List.map_cons, List.map_nil]); first | done | rfl | (simp only [List.length_drop, List.length_take]; rfl)) ?_; (with_reducible refine (spec_l1In.calls a0 0 5 false _ A4.out).mono ?_); rintro e w' ⟨rfl, ⟨nd, rfl⟩⟩; refine ⟨_, rfl, ?_⟩))
      go_meet
      case rel => exact ⟨_, (true), (by first | rfl | (simp; done) | (simp [*]; done)), H', ⟨by first | omega | exact Nat.le_refl _⟩, ⟨by repeat (first | (with_reducible first | exact HB.out | apply below_alloc | apply pw_below_drewN | apply below_drew1) | exact HB.out)⟩⟩
  case rest =>
    clear HC3
    try clear p2
    try clear c3
    try clear c5
    obtain ⟨kq, x20_2, rfl, HA, HJ2, HB⟩ := hcut
    cases kq with
    | zero => exact absurd HA.out (by simp [spec_ModeDistance.j0])
    | succ kj2 =>
      have H := HA.out
      clear HA
      simp only [spec_ModeDistance.j0] at H
      by_cases c7 : x20_2 = true
      · subst c7
        have H1 : (some (-1)) = some r := by rw [if_pos rfl] at H; exact H
        clear H
        have H := H1
        clear H1
        obtain rfl := Option.some.inj H
        go_wp2
        go_ret
        exact ⟨by first | rfl | (simp [errW_none, errW_some] <;> rfl) | (simp [*, errW_none, errW_some] <;> rfl), by repeat (first | (with_reducible first | exact HB.out | apply below_alloc | apply pw_below_drewN | apply below_drew1) | exact HB.out)⟩
      · replace c7 := Bool.eq_false_iff.mpr c7
        subst c7
        have H1 : (spec_ModeDistance.l0 kj2 a1 (([a0] : List Int)) (([0] : List Int)) 0) = some r := by rw [if_neg (show ¬ (false = true) by decide)] at H; exact H
        clear H
        have H := H1
        clear H1
        obtain ⟨y105, hy105⟩ : ∃ y_ : List Int, y_ = (([a0] : List Int)) := ⟨_, rfl⟩
        replace H : (spec_ModeDistance.l0 kj2 a1 y105 (([0] : List Int)) 0) = some r := by first | (rw [hy105]; with_reducible exact H) | (have H2_ := (Option.bind_some _ _).symm.trans H; rw [hy105]; with_reducible exact H2_) | (have H2_ := (Option.bind_some _ _).symm.trans H; with_reducible exact H2_) | with_reducible exact H | (rw [hy105]; exact H) | exact H
        have Ny105 := Aside0.mk hy105
        clear hy105
        obtain ⟨y108, hy108⟩ : ∃ y_ : List Int, y_ = (([0] : List Int)) := ⟨_, rfl⟩
        replace H : (spec_ModeDistance.l0 kj2 a1 y105 y108 0) = some r := by first | (rw [hy108]; with_reducible exact H) | (have H2_ := (Option.bind_some _ _).symm.trans H; rw [hy108]; with_reducible exact H2_) | (have H2_ := (Option.bind_some _ _).symm.trans H; with_reducible exact H2_) | with_reducible exact H | (rw [hy108]; exact H) | exact H
        have Ny108 := Aside0.mk hy108
        clear hy108
        have H' := Aside0.mk H
        clear H
        go_wp2_with (first | ((with_reducible refine gate_dst (N := 22) rfl ?_); refine Kd.R_lit (Kd.int .i64) _ 3 ?hg (N := 22) ?hd (xs := ([a0] : List Int)) (inner := [.int .i64 a0]) (ok := fun _ => True) (okp := fun _ => True) ?hr ?hp (fun _ hk => hk) trivial (Below.refl _ _) (Nat.le_refl _) (by simp) ?_; (case hd => rfl); (case hg => rfl); (case hr => first | (go_simp; done) | (go_simp; rfl)); (case hp => exact (Reps.one (show Kd.M (Kd.int .i64) _ _ _ a0 [.int .i64 a0] from rfl) (Reps.none _ _))); intro v106 w8 ho9 hb hg_ hnew_; clear hg_ hnew_; (first | rw [← Ny105.out] at ho9 | (simp only [Int.reduceToNat] at ho9; rw [← Ny105.out] at ho9)); have n0_ := Aside0.mk (Kd.R_lower ho9 (below_size (by repeat (first | (with_reducible first | exact HB.out | apply below_alloc | apply pw_below_drewN | apply below_drew1) | exact HB.out)))); have n1_ := Aside0.mk (below_step (by repeat (first | (with_reducible first | exact HB.out | apply below_alloc | apply pw_below_drewN | apply below_drew1) | exact HB.out)) hb); clear HB; have HO107 := n0_; have HB := n1_; clear n0_ n1_; clear hb ho9) | ((with_reducible refine gate_dst (N := 23) rfl ?_); refine Kd.R_lit (Kd.int .i64) _ 3 ?hg (N := 23) ?hd (xs := ([0] : List Int)) (inner := [.int .i64 0]) (ok := fun _ => True) (okp := fun _ => True) ?hr ?hp (fun _ hk => hk) trivial (Below.refl _ _) (Nat.le_refl _) (by simp) ?_; (case hd => rfl); (case hg => rfl); (case hr => first | (go_simp; done) | (go_simp; rfl)); (case hp => exact (Reps.one (show Kd.M (Kd.int .i64) _ _ _ 0 [.int .i64 0] from rfl) (Reps.none _ _))); intro v109 w10 ho11 hb hg_ hnew_; clear hg_ hnew_; (first | rw [← Ny108.out] at ho11 | (simp only [Int.reduceToNat] at ho11; rw [← Ny108.out] at ho11)); have n0_ := Aside0.mk (Kd.R_elder' (by (with_reducible repeat (first | apply Kd.R_alloc | apply Kd.R_drewN | apply Kd.R_drew)); exact HO107.out) (Kd.R_base ho11) hb); have n1_ := Aside0.mk (Kd.R_lower (Kd.R_new' ho11 (Kd.R_lt (by (with_reducible repeat (first | apply Kd.R_alloc | apply Kd.R_drewN | apply Kd.R_drew)); exact HO107.out))) (below_size (by repeat (first | (with_reducible first | exact HB.out | apply below_alloc | apply pw_below_drewN | apply below_drew1) | exact HB.out)))); have n2_ := Aside0.mk (below_step (by repeat (first | (with_reducible first | exact HB.out | apply below_alloc | apply pw_below_drewN | apply below_drew1) | exact HB.out)) hb); clear HO107; clear HB; have HO107 := n0_; have HO110 := n1_; have HB := n2_; clear n0_ n1_ n2_; clear hb ho11))
        go_loopg [5, 6, 7] kj2 (fun kq v5 v6 v7 w' => ∃ (x5_2 : List Int) (x6_2 : List Int) (x7_2 : Int), v7 = .int .i64 x7_2 ∧ Aside0 (spec_ModeDistance.l0 kq a1 x5_2 x6_2 x7_2 = some r) ∧ Aside0 (kq ≤ kj2) ∧ Aside0 (Kd.R (Kd.int .i64) 3 w' w.heap.size (fun k_ => some k_ ≠ (v6 : Value).ownBlock) v5 x5_2) ∧ Aside0 (Kd.R (Kd.int .i64) 3 w' w.heap.size (fun k_ => some k_ ≠ (v5 : Value).ownBlock) v6 x6_2) ∧ Aside0 (Below w.heap.size w w'))
        case atStart => exact ⟨(y105), (y108), (0), (by first | rfl | (simp; done) | (simp [*]; done)), H', ⟨Nat.le_refl _⟩, ⟨by (with_reducible repeat (first | apply Kd.R_alloc | apply Kd.R_drewN | apply Kd.R_drew)); exact Kd.R_mono HO107.out (fun _ hk => by first | exact hk.2 | exact trivial)⟩, ⟨by (with_reducible repeat (first | apply Kd.R_alloc | apply Kd.R_drewN | apply Kd.R_drew)); exact Kd.R_mono HO110.out (fun _ hk => by first | exact hk.2 | exact trivial)⟩, ⟨by repeat (first | (with_reducible first | exact HB.out | apply below_alloc | apply pw_below_drewN | apply below_drew1) | exact HB.out)⟩⟩
        case round =>
          clear H'
          try clear p2
          try clear c3
          try clear c5
          try clear c7
          try clear p2
          obtain ⟨x5_2, x6_2, x7_2, rfl, HA, HK2, HO_5, HO_6, HB⟩ := hrel
          cases gk with
          | zero => exact absurd HA.out (by simp [spec_ModeDistance.l0])
          | succ k2 =>
            have H := HA.out
            clear HA
            simp only [spec_ModeDistance.l0] at H
            by_cases c12 : x7_2 < (x5_2.length : Int)
            · rw [if_pos c12] at H
              have c12b0 : decide (x7_2 < (x5_2.length : Int)) = true := decide_eq_true c12
              clear c12
              by_cases c13 : 0 ≤ x7_2
              · rw [if_pos c13] at H
                have c13b0 : decide (0 ≤ x7_2) = true := decide_eq_true c13
                clear c13
                by_cases c14 : (rd x5_2 x7_2) = a1
                · rw [if_pos c14] at H
                  have c14b0 : ((rd x5_2 x7_2) == a1) = true := beq_iff_eq.mpr c14
                  have c14b1 : ((rd x5_2 x7_2) != a1) = false := bne_eq_false_iff_eq.mpr c14
                  clear c14
                  by_cases c15 : x7_2 < (x6_2.length : Int)
                  · rw [if_pos c15] at H
                    have c15b0 : decide (x7_2 < (x6_2.length : Int)) = true := decide_eq_true c15
                    clear c15
                    obtain rfl := Option.some.inj H
                    obtain ⟨Ao16, co16, eo16⟩ := Kd.R_slice HO_5.out
                    subst eo16
                    have p111 : 0 ≤ (x7_2 : Int) := of_decide_eq_true (by first | (with_reducible assumption) | assumption)
                    have q111 : x7_2 < (x5_2.length : Int) := of_decide_eq_true (by first | (with_reducible assumption) | assumption)
                    obtain ⟨ad111, e111, hx111_0⟩ := Kd.at_int (Kd.R_reads' HO_5.out).2.2 x7_2 p111 q111
                    cases e111
                    replace p111 := eq_true p111
                    replace q111 := eq_true q111
                    obtain ⟨Ao17, co17, eo17⟩ := Kd.R_slice HO_6.out
                    subst eo17
                    have p112 : 0 ≤ (x7_2 : Int) := of_decide_eq_true (by first | (with_reducible assumption) | assumption)
                    have q112 : x7_2 < (x6_2.length : Int) := of_decide_eq_true (by first | (with_reducible assumption) | assumption)
                    obtain ⟨ad112, e112, hx112_0⟩ := Kd.at_int (Kd.R_reads' HO_6.out).2.2 x7_2 p112 q112
                    cases e112
                    replace p112 := eq_true p112
                    replace q112 := eq_true q112
                    go_wp2
                    go_ret
                    exact ⟨by first | rfl | (simp [errW_none, errW_some] <;> rfl) | (simp [*, errW_none, errW_some] <;> rfl), by repeat (first | (with_reducible first | exact HB.out | apply below_alloc | apply pw_below_drewN | apply below_drew1) | exact HB.out)⟩
                  · rw [if_neg c15] at H
                    exact absurd H (by simp)
                · rw [if_neg c14] at H
                  have c14b0 : ((rd x5_2 x7_2) == a1) = false := beq_eq_false_iff_ne.mpr c14
                  have c14b1 : ((rd x5_2 x7_2) != a1) = true := bne_iff_ne.mpr c14
                  have H' := Aside0.mk H
                  clear H
                  obtain ⟨Ao18, co18, eo18⟩ := Kd.R_slice HO_5.out
                  subst eo18
                  have p111 : 0 ≤ (x7_2 : Int) := of_decide_eq_true (by first | (with_reducible assumption) | assumption)
                  have q111 : x7_2 < (x5_2.length : Int) := of_decide_eq_true (by first | (with_reducible assumption) | assumption)
                  obtain ⟨ad111, e111, hx111_0⟩ := Kd.at_int (Kd.R_reads' HO_5.out).2.2 x7_2 p111 q111
                  cases e111
                  replace p111 := eq_true p111
                  replace q111 := eq_true q111
                  go_wp2
                  go_loopg [5, 6, 8] k2 (fun kq v5 v6 v8 w' => ∃ (x5_3 : List Int) (x6_3 : List Int) (x8_3 : Int), v8 = .int .i64 x8_3 ∧ Aside0 (spec_ModeDistance.l1 kq a1 x5_3 x6_3 x7_2 x8_3 = some r) ∧ Aside0 (kq ≤ k2) ∧ Aside0 (Kd.R (Kd.int .i64) 3 w' w.heap.size (fun k_ => some k_ ≠ (v6 : Value).ownBlock) v5 x5_3) ∧ Aside0 (Kd.R (Kd.int .i64) 3 w' w.heap.size (fun k_ => some k_ ≠ (v5 : Value).ownBlock) v6 x6_3) ∧ Aside0 (Below w.heap.size w w'))
                  case atStart => exact ⟨(x5_2), (x6_2), (0), (by first | rfl | (simp; done) | (simp [*]; done)), H', ⟨Nat.le_refl _⟩, ⟨by (with_reducible repeat (first | apply Kd.R_alloc | apply Kd.R_drewN | apply Kd.R_drew)); exact HO_5.out⟩, ⟨by (with_reducible repeat (first | apply Kd.R_alloc | apply Kd.R_drewN | apply Kd.R_drew)); exact HO_6.out⟩, ⟨by repeat (first | (with_reducible first | exact HB.out | apply below_alloc | apply pw_below_drewN | apply below_drew1) | exact HB.out)⟩⟩
                  case round =>
                    clear H'
                    try clear c1
                    try clear p1
                    try clear q1
                    try clear hx1
                    try clear p2
                    try clear c3
                    try clear c5
                    try clear c7
                    try clear p11
                    try clear q11
                    try clear hx11
                    try clear c12
                    try clear c12b0
                    try clear c13
                    try clear c13b0
                    try clear c14
                    try clear c14b0
                    try clear c14b1
                    try clear c15
                    try clear c15b0
                    try clear hx111_0
                    try clear hx112_0
                    try clear p111
                    try clear p112
                    try clear p2
                    try clear q111
                    try clear q112
                    obtain ⟨x5_3, x6_3, x8_3, rfl, HA, HK3, HO_5, HO_6, HB⟩ := hrel
                    cases gk with
                    | zero => exact absurd HA.out (by simp [spec_ModeDistance.l1])
                    | succ k3 =>
                      have H := HA.out
                      clear HA
                      simp only [spec_ModeDistance.l1] at H
                      by_cases c19 : x8_3 ≤ 4
                      · rw [if_pos c19] at H
                        have c19b0 : decide (x8_3 ≤ 4) = true := decide_eq_true c19
                        clear c19
                        have H' := Aside0.mk H
                        clear H
                        go_wp2
                        go_loopg [5, 6, 9] k3 (fun kq v5 v6 v9 w' => ∃ (x5_4 : List Int) (x6_4 : List Int) (x9_4 : Int), v9 = .int .i64 x9_4 ∧ Aside0 (spec_ModeDistance.l2 kq a1 x5_4 x6_4 x7_2 x8_3 x9_4 = some r) ∧ Aside0 (kq ≤ k3) ∧ Aside0 (Kd.R (Kd.int .i64) 3 w' w.heap.size (fun k_ => some k_ ≠ (v6 : Value).ownBlock) v5 x5_4) ∧ Aside0 (Kd.R (Kd.int .i64) 3 w' w.heap.size (fun k_ => some k_ ≠ (v5 : Value).ownBlock) v6 x6_4) ∧ Aside0 (Below w.heap.size w w'))
                        case atStart => exact ⟨(x5_3), (x6_3), (0), (by first | rfl | (simp; done) | (simp [*]; done)), H', ⟨Nat.le_refl _⟩, ⟨by (with_reducible repeat (first | apply Kd.R_alloc | apply Kd.R_drewN | apply Kd.R_drew)); exact HO_5.out⟩, ⟨by (with_reducible repeat (first | apply Kd.R_alloc | apply Kd.R_drewN | apply Kd.R_drew)); exact HO_6.out⟩, ⟨by repeat (first | (with_reducible first | exact HB.out | apply below_alloc | apply pw_below_drewN | apply below_drew1) | exact HB.out)⟩⟩
                        case round =>
                          clear H'
                          try clear c1
                          try clear p1
                          try clear q1
                          try clear hx1
                          try clear p2
                          try clear c3
                          try clear c5
                          try clear c7
                          try clear p11
                          try clear q11
                          try clear hx11
                          try clear c12
                          try clear c12b0
                          try clear c13
                          try clear c13b0
                          try clear c14
                          try clear c14b0
                          try clear c14b1
                          try clear c15
                          try clear c15b0
                          try clear c19
                          try clear c19b0
                          try clear hx111_0
                          try clear hx112_0
                          try clear p1
                          try clear p11
                          try clear p111
                          try clear p112
                          try clear p2
                          try clear q1
                          try clear q11
                          try clear q111
                          try clear q112
                          obtain ⟨x5_4, x6_4, x9_4, rfl, HA, HK4, HO_5, HO_6, HB⟩ := hrel
                          cases gk with
                          | zero => exact absurd HA.out (by simp [spec_ModeDistance.l2])
                          | succ k4 =>
                            have H := HA.out
                            clear HA
                            simp only [spec_ModeDistance.l2] at H
                            by_cases c20 : x9_4 < 2
                            · rw [if_pos c20] at H
                              have c20b0 : decide (x9_4 < 2) = true := decide_eq_true c20
                              clear c20
                              by_cases c21 : 0 ≤ x7_2
                              · rw [if_pos c21] at H
                                have c21b0 : decide (0 ≤ x7_2) = true := decide_eq_true c21
                                clear c21
                                by_cases c22 : x7_2 < (x5_4.length : Int)
                                · rw [if_pos c22] at H
                                  have c22b0 : decide (x7_2 < (x5_4.length : Int)) = true := decide_eq_true c22
                                  clear c22
                                  replace H := Option.bind_eq_some_iff.mp H
                                  obtain ⟨t114, A230, H⟩ := H
                                  replace H : (spec_ModeDistance.l3 k4 a1 x5_4 x6_4 x7_2 x8_3 x9_4 t114 false 0) = some r := H
                                  have A23 := Aside0.mk A230
                                  clear A230
                                  have H' := Aside0.mk H
                                  clear H
                                  obtain ⟨Ao24, co24, eo24⟩ := Kd.R_slice HO_5.out
                                  subst eo24
                                  have p113 : 0 ≤ (x7_2 : Int) := of_decide_eq_true (by first | (with_reducible assumption) | assumption)
                                  have q113 : x7_2 < (x5_4.length : Int) := of_decide_eq_true (by first | (with_reducible assumption) | assumption)
                                  obtain ⟨ad113, e113, hx113_0⟩ := Kd.at_int (Kd.R_reads' HO_5.out).2.2 x7_2 p113 q113
                                  cases e113
                                  replace p113 := eq_true p113
                                  replace q113 := eq_true q113
                                  go_wp2_with (first | ((with_reducible refine gate_callee (f := 85) rfl ?_); refine goesL_ (some 55) rfl rfl Try.func85 (by kernel_rfl) rfl #[.int .i64 (rd x5_4 x7_2), .int .i64 x8_3, .bool (x9_4 == 1), .bool false] rfl (by (try simp only [List.map_toArray, List.map_cons, List.map_nil]); first | done | rfl | (simp only [List.length_drop, List.length_take]; rfl)) ?_; (with_reducible refine (spec_ModeStep.calls k4 (rd x5_4 x7_2) x8_3 (x9_4 == 1) false t114 _ A23.out).mono ?_); rintro e w' ⟨rfl, ⟨nd, rfl⟩⟩; refine ⟨_, rfl, ?_⟩))
                                  go_loopg [11, 12] k4 (fun kq v11 v12 w' => ∃ (x11_5 : Bool) (x12_5 : Int), v11 = .bool x11_5 ∧ v12 = .int .i64 x12_5 ∧ Aside0 (spec_ModeDistance.l3 kq a1 x5_4 x6_4 x7_2 x8_3 x9_4 t114 x11_5 x12_5 = some r) ∧ Aside0 (kq ≤ k4) ∧ Aside0 (Kd.R (Kd.int .i64) 3 w' w.heap.size (fun k_ => some k_ ≠ (u6 : Value).ownBlock) (.slice (some ad113) x5_4.length co24) x5_4) ∧ Aside0 (Kd.R (Kd.int .i64) 3 w' w.heap.size (fun k_ => some k_ ≠ ((.slice (some ad113) x5_4.length co24) : Value).ownBlock) u6 x6_4) ∧ Aside0 (Below w.heap.size w w'))
                                  case atStart => exact ⟨(false), (0), (by first | rfl | (simp; done) | (simp [*]; done)), (by first | rfl | (simp; done) | (simp [*]; done)), H', ⟨Nat.le_refl _⟩, ⟨by (with_reducible repeat (first | apply Kd.R_alloc | apply Kd.R_drewN | apply Kd.R_drew)); exact HO_5.out⟩, ⟨by (with_reducible repeat (first | apply Kd.R_alloc | apply Kd.R_drewN | apply Kd.R_drew)); exact HO_6.out⟩, ⟨by repeat (first | (with_reducible first | exact HB.out | apply below_alloc | apply pw_below_drewN | apply below_drew1) | exact HB.out)⟩⟩
                                  case round =>
                                    clear H'
                                    try clear c1
                                    try clear p1
                                    try clear q1
                                    try clear hx1
                                    try clear c2
                                    try clear p2
                                    try clear c3
                                    try clear c5
                                    try clear c7
                                    try clear c8
                                    try clear p11
                                    try clear q11
                                    try clear hx11
                                    try clear c12
                                    try clear c12b0
                                    try clear c13
                                    try clear c13b0
                                    try clear c14
                                    try clear c14b0
                                    try clear c14b1
                                    try clear c15
                                    try clear c15b0
                                    try clear c19
                                    try clear c19b0
                                    try clear c20
                                    try clear c20b0
                                    try clear c21
                                    try clear c21b0
                                    try clear c22
                                    try clear c22b0
                                    try clear hx111_0
                                    try clear hx112_0
                                    try clear hx113_0
                                    try clear p1
                                    try clear p11
                                    try clear p111
                                    try clear p112
                                    try clear p113
                                    try clear p2
                                    try clear q1
                                    try clear q11
                                    try clear q111
                                    try clear q112
                                    try clear q113
                                    obtain ⟨x11_5, x12_5, rfl, rfl, HA, HK5, HO_5, HO_6, HB⟩ := hrel
                                    cases gk with
                                    | zero => exact absurd HA.out (by simp [spec_ModeDistance.l3])
                                    | succ k5 =>
                                      have H := HA.out
                                      clear HA
                                      simp only [spec_ModeDistance.l3] at H
                                      by_cases c25 : x12_5 < (x5_4.length : Int)
                                      · rw [if_pos c25] at H
                                        have c25b0 : decide (x12_5 < (x5_4.length : Int)) = true := decide_eq_true c25
                                        clear c25
                                        by_cases c26 : x11_5 = true
                                        · subst c26
                                          have H1 : (spec_ModeDistance.l3 k5 a1 x5_4 x6_4 x7_2 x8_3 x9_4 t114 true (wrap64 (x12_5 + 1))) = some r := by rw [if_pos rfl] at H; exact H
                                          clear H
                                          have H := H1
                                          clear H1
                                          have H' := Aside0.mk H
                                          clear H
                                          go_wp2
                                          go_roundg k5
                                          case measure => have := HJ2.out; have := HK2.out; have := HK3.out; have := HK4.out; have := HK5.out; omega
                                          case rel => exact ⟨(true), (wrap64 (x12_5 + 1)), (by first | rfl | (simp; done) | (simp [*]; done)), (by first | rfl | (simp; done) | (simp [*]; done)), H', ⟨by have := HJ2.out; have := HK2.out; have := HK3.out; have := HK4.out; have := HK5.out; omega⟩, ⟨by (with_reducible repeat (first | apply Kd.R_alloc | apply Kd.R_drewN | apply Kd.R_drew)); exact HO_5.out⟩, ⟨by (with_reducible repeat (first | apply Kd.R_alloc | apply Kd.R_drewN | apply Kd.R_drew)); exact HO_6.out⟩, ⟨by repeat (first | (with_reducible first | exact HB.out | apply below_alloc | apply pw_below_drewN | apply below_drew1) | exact HB.out)⟩⟩
                                        · replace c26 := Bool.eq_false_iff.mpr c26
                                          subst c26
                                          have H1 : (if 0 ≤ x12_5 then (spec_ModeDistance.l3 k5 a1 x5_4 x6_4 x7_2 x8_3 x9_4 t114 ((rd x5_4 x12_5) == t114) (wrap64 (x12_5 + 1))) else (none)) = some r := by rw [if_neg (show ¬ (false = true) by decide)] at H; exact H
                                          clear H
                                          have H := H1
                                          clear H1
                                          by_cases c27 : 0 ≤ x12_5
                                          · rw [if_pos c27] at H
                                            have c27b0 : decide (0 ≤ x12_5) = true := decide_eq_true c27
                                            clear c27
                                            have H' := Aside0.mk H
                                            clear H
                                            have p115 : 0 ≤ (x12_5 : Int) := of_decide_eq_true (by first | (with_reducible assumption) | assumption)
                                            have q115 : x12_5 < (x5_4.length : Int) := of_decide_eq_true (by first | (with_reducible assumption) | assumption)
                                            obtain ⟨ad115, e115, hx115_0⟩ := Kd.at_int (Kd.R_reads' HO_5.out).2.2 x12_5 p115 q115
                                            obtain rfl : ad113 = ad115 := (by injection e115)
                                            replace p115 := eq_true p115
                                            replace q115 := eq_true q115
                                            go_wp2
                                            go_roundg k5
                                            case measure => have := HJ2.out; have := HK2.out; have := HK3.out; have := HK4.out; have := HK5.out; omega
                                            case rel => exact ⟨(((rd x5_4 x12_5) == t114)), (wrap64 (x12_5 + 1)), (by first | rfl | (simp; done) | (simp [*]; done)), (by first | rfl | (simp; done) | (simp [*]; done)), H', ⟨by have := HJ2.out; have := HK2.out; have := HK3.out; have := HK4.out; have := HK5.out; omega⟩, ⟨by (with_reducible repeat (first | apply Kd.R_alloc | apply Kd.R_drewN | apply Kd.R_drew)); exact HO_5.out⟩, ⟨by (with_reducible repeat (first | apply Kd.R_alloc | apply Kd.R_drewN | apply Kd.R_drew)); exact HO_6.out⟩, ⟨by repeat (first | (with_reducible first | exact HB.out | apply below_alloc | apply pw_below_drewN | apply below_drew1) | exact HB.out)⟩⟩
                                          · rw [if_neg c27] at H
                                            exact absurd H (by simp)
                                      · rw [if_neg c25] at H
                                        have c25b0 : decide (x12_5 < (x5_4.length : Int)) = false := decide_eq_false c25
                                        clear c25
                                        by_cases c28 : x11_5 = true
                                        · subst c28
                                          have H1 : (spec_ModeDistance.l2 k5 a1 x5_4 x6_4 x7_2 x8_3 (wrap64 (x9_4 + 1))) = some r := by rw [if_pos rfl] at H; exact H
                                          clear H
                                          have H := H1
                                          clear H1
                                          have H' := Aside0.mk H
                                          clear H
                                          go_wp2
                                          go_roundg k5
                                          case measure => have := HJ2.out; have := HK2.out; have := HK3.out; have := HK4.out; have := HK5.out; omega
                                          case rel => exact ⟨(x5_4), (x6_4), (wrap64 (x9_4 + 1)), (by first | rfl | (simp; done) | (simp [*]; done)), H', ⟨by have := HJ2.out; have := HK2.out; have := HK3.out; have := HK4.out; have := HK5.out; omega⟩, ⟨by (with_reducible repeat (first | apply Kd.R_alloc | apply Kd.R_drewN | apply Kd.R_drew)); exact HO_5.out⟩, ⟨by (with_reducible repeat (first | apply Kd.R_alloc | apply Kd.R_drewN | apply Kd.R_drew)); exact HO_6.out⟩, ⟨by repeat (first | (with_reducible first | exact HB.out | apply below_alloc | apply pw_below_drewN | apply below_drew1) | exact HB.out)⟩⟩
                                        · replace c28 := Bool.eq_false_iff.mpr c28
                                          subst c28
                                          have H1 : (if x5_4.length < 17592186044416 then (if 0 ≤ x7_2 then (if x7_2 < (x6_4.length : Int) then (if x6_4.length < 17592186044416 then (spec_ModeDistance.l2 k5 a1 (x5_4 ++ [t114]) (x6_4 ++ [wrap64 ((rd x6_4 x7_2) + 1)]) x7_2 x8_3 (wrap64 (x9_4 + 1))) else (none)) else (none)) else (none)) else (none)) = some r := by rw [if_neg (show ¬ (false = true) by decide)] at H; exact H
                                          clear H
                                          have H := H1
                                          clear H1
                                          by_cases c29 : x5_4.length < 17592186044416
                                          · rw [if_pos c29] at H
                                            have LMc29 := Aside0.mk c29
                                            clear c29
                                            obtain ⟨y116, hy116⟩ : ∃ y_ : List Int, y_ = (x5_4 ++ [t114]) := ⟨_, rfl⟩
                                            replace H : (if 0 ≤ x7_2 then (if x7_2 < (x6_4.length : Int) then (if x6_4.length < 17592186044416 then (spec_ModeDistance.l2 k5 a1 y116 (x6_4 ++ [wrap64 ((rd x6_4 x7_2) + 1)]) x7_2 x8_3 (wrap64 (x9_4 + 1))) else (none)) else (none)) else (none)) = some r := by first | (rw [hy116]; with_reducible exact H) | (have H2_ := (Option.bind_some _ _).symm.trans H; rw [hy116]; with_reducible exact H2_) | (have H2_ := (Option.bind_some _ _).symm.trans H; with_reducible exact H2_) | with_reducible exact H | (rw [hy116]; exact H) | exact H
                                            have Ny116 := Aside0.mk hy116
                                            clear hy116
                                            by_cases c30 : 0 ≤ x7_2
                                            · rw [if_pos c30] at H
                                              have c30b0 : decide (0 ≤ x7_2) = true := decide_eq_true c30
                                              clear c30
                                              by_cases c31 : x7_2 < (x6_4.length : Int)
                                              · rw [if_pos c31] at H
                                                have c31b0 : decide (x7_2 < (x6_4.length : Int)) = true := decide_eq_true c31
                                                clear c31
                                                by_cases c32 : x6_4.length < 17592186044416
                                                · rw [if_pos c32] at H
                                                  have LMc32 := Aside0.mk c32
                                                  clear c32
                                                  obtain ⟨y120, hy120⟩ : ∃ y_ : List Int, y_ = (x6_4 ++ [wrap64 ((rd x6_4 x7_2) + 1)]) := ⟨_, rfl⟩
                                                  replace H : (spec_ModeDistance.l2 k5 a1 y116 y120 x7_2 x8_3 (wrap64 (x9_4 + 1))) = some r := by first | (rw [hy120]; with_reducible exact H) | (have H2_ := (Option.bind_some _ _).symm.trans H; rw [hy120]; with_reducible exact H2_) | (have H2_ := (Option.bind_some _ _).symm.trans H; with_reducible exact H2_) | with_reducible exact H | (rw [hy120]; exact H) | exact H
                                                  have Ny120 := Aside0.mk hy120
                                                  clear hy120
                                                  have H' := Aside0.mk H
                                                  clear H
                                                  go_wp2_with (first | ((with_reducible refine gate_builtin (b := .append) (xs := #[.tmp 73, .tmp 75]) rfl ?_); at_builtin; refine Kd.R_append (Kd.int .i64) (w0 := w) w.heap.size rfl (.tmp 73) (.tmp 75) 58 3 (.int .i64 0) 8 rfl Try.underlying58 info3 rfl (by decide) (by omega) (.slice (some ad113) x5_4.length co24) x5_4 t114 [.int .i64 t114] (fun k_ => some k_ ≠ (u6 : Value).ownBlock) (fun _ => False) rfl rfl ?aP (fun _ hk => hk.elim) ?aF ?aO ?aB ?aS ?aL ?_; (case aP => exact rfl); (case aB => exact (by repeat (first | (with_reducible first | exact HB.out | apply below_alloc | apply pw_below_drewN | apply below_drew1) | exact HB.out))); (case aF => exact (fun k_ hk => Kd.fresh' (Kd.R_lt (by (with_reducible repeat (first | apply Kd.R_alloc | apply Kd.R_drewN | apply Kd.R_drew)); exact HO_6.out)) k_ hk)); (case aO => exact (by (with_reducible repeat (first | apply Kd.R_alloc | apply Kd.R_drewN | apply Kd.R_drew)); exact HO_5.out)); (case aS => exact (below_size (by repeat (first | (with_reducible first | exact HB.out | apply below_alloc | apply pw_below_drewN | apply below_drew1) | exact HB.out)))); (case aL => have := LMc29.out; omega); intro v117 w33 ho hb hg hat; rw [← Ny116.out] at ho; have n0_ := Aside0.mk (Kd.R_after (ok := (fun _ => True)) (by (with_reducible repeat (first | apply Kd.R_alloc | apply Kd.R_drewN | apply Kd.R_drew)); exact Kd.R_mono HO_6.out (fun _ hk => ⟨trivial, hk⟩)) hg hat); have n1_ := Aside0.mk (hb); have n2_ := Aside0.mk (ho); clear HO_6; clear HB; clear HO_5; have HO_6 := n0_; have HB := n1_; have HO118 := n2_; clear n0_ n1_ n2_; clear ho hb hg hat; obtain ⟨Ao34, co34, eo34⟩ := Kd.R_slice HO_6.out; subst eo34; have p119 : 0 ≤ (x7_2 : Int) := of_decide_eq_true (by first | (with_reducible assumption) | assumption); have q119 : x7_2 < (x6_4.length : Int) := of_decide_eq_true (by first | (with_reducible assumption) | assumption); obtain ⟨ad119, e119, hx119_0⟩ := Kd.at_int (Kd.R_reads' HO_6.out).2.2 x7_2 p119 q119; cases e119; replace p119 := eq_true p119; replace q119 := eq_true q119) | ((with_reducible refine gate_builtin (b := .append) (xs := #[.tmp 77, .tmp 83]) rfl ?_); at_builtin; refine Kd.R_append (Kd.int .i64) (w0 := w) w.heap.size rfl (.tmp 77) (.tmp 83) 58 3 (.int .i64 0) 8 rfl Try.underlying58 info3 rfl (by decide) (by omega) (.slice (some ad119) x6_4.length co34) x6_4 (wrap64 ((rd x6_4 x7_2) + 1)) [.int .i64 (wrap64 ((rd x6_4 x7_2) + 1))] (fun k_ => some k_ ≠ (v117 : Value).ownBlock) (fun _ => False) rfl rfl ?aP (fun _ hk => hk.elim) ?aF ?aO ?aB ?aS ?aL ?_; (case aP => exact rfl); (case aB => exact (by repeat (first | (with_reducible first | exact HB.out | apply below_alloc | apply pw_below_drewN | apply below_drew1) | exact HB.out))); (case aF => exact (fun k_ hk => Kd.fresh' (Kd.R_lt (by (with_reducible repeat (first | apply Kd.R_alloc | apply Kd.R_drewN | apply Kd.R_drew)); exact HO118.out)) k_ hk)); (case aO => exact (by (with_reducible repeat (first | apply Kd.R_alloc | apply Kd.R_drewN | apply Kd.R_drew)); exact Kd.R_mono HO_6.out (fun _ hk => by first | exact hk.2 | exact trivial))); (case aS => exact (below_size (by repeat (first | (with_reducible first | exact HB.out | apply below_alloc | apply pw_below_drewN | apply below_drew1) | exact HB.out)))); (case aL => have := LMc32.out; omega); intro v121 w35 ho hb hg hat; rw [← Ny120.out] at ho; have n0_ := Aside0.mk (Kd.R_after (ok := (fun _ => True)) (by (with_reducible repeat (first | apply Kd.R_alloc | apply Kd.R_drewN | apply Kd.R_drew)); exact Kd.R_mono HO118.out (fun _ hk => ⟨trivial, hk⟩)) hg hat); have n1_ := Aside0.mk (hb); have n2_ := Aside0.mk (ho); clear HO118; clear HB; clear HO_6; have HO118 := n0_; have HB := n1_; have HO122 := n2_; clear n0_ n1_ n2_; clear ho hb hg hat))
                                                  go_roundg k5
                                                  case measure => have := HJ2.out; have := HK2.out; have := HK3.out; have := HK4.out; have := HK5.out; omega
                                                  case rel => exact ⟨(y116), (y120), (wrap64 (x9_4 + 1)), (by first | rfl | (simp; done) | (simp [*]; done)), H', ⟨by have := HJ2.out; have := HK2.out; have := HK3.out; have := HK4.out; have := HK5.out; omega⟩, ⟨by (with_reducible repeat (first | apply Kd.R_alloc | apply Kd.R_drewN | apply Kd.R_drew)); exact Kd.R_mono HO118.out (fun _ hk => by first | exact hk.2 | exact trivial)⟩, ⟨by (with_reducible repeat (first | apply Kd.R_alloc | apply Kd.R_drewN | apply Kd.R_drew)); exact HO122.out⟩, ⟨by repeat (first | (with_reducible first | exact HB.out | apply below_alloc | apply pw_below_drewN | apply below_drew1) | exact HB.out)⟩⟩
                                                · rw [if_neg c32] at H
                                                  exact absurd H (by simp)
                                              · rw [if_neg c31] at H
                                                exact absurd H (by simp)
                                            · rw [if_neg c30] at H
                                              exact absurd H (by simp)
                                          · rw [if_neg c29] at H
                                            exact absurd H (by simp)
                                · rw [if_neg c22] at H
                                  exact absurd H (by simp)
                              · rw [if_neg c21] at H
                                exact absurd H (by simp)
                            · rw [if_neg c20] at H
                              have c20b0 : decide (x9_4 < 2) = false := decide_eq_false c20
                              clear c20
                              have H' := Aside0.mk H
                              clear H
                              go_wp2
                              go_roundg k4
                              case measure => have := HJ2.out; have := HK2.out; have := HK3.out; have := HK4.out; omega
                              case rel => exact ⟨(x5_4), (x6_4), (wrap64 (x8_3 + 1)), (by first | rfl | (simp; done) | (simp [*]; done)), H', ⟨by have := HJ2.out; have := HK2.out; have := HK3.out; have := HK4.out; omega⟩, ⟨by (with_reducible repeat (first | apply Kd.R_alloc | apply Kd.R_drewN | apply Kd.R_drew)); exact HO_5.out⟩, ⟨by (with_reducible repeat (first | apply Kd.R_alloc | apply Kd.R_drewN | apply Kd.R_drew)); exact HO_6.out⟩, ⟨by repeat (first | (with_reducible first | exact HB.out | apply below_alloc | apply pw_below_drewN | apply below_drew1) | exact HB.out)⟩⟩
                      · rw [if_neg c19] at H
                        have c19b0 : decide (x8_3 ≤ 4) = false := decide_eq_false c19
                        clear c19
                        have H' := Aside0.mk H
                        clear H
                        go_wp2
                        go_roundg k3
                        case measure => have := HJ2.out; have := HK2.out; have := HK3.out; omega
                        case rel => exact ⟨(x5_3), (x6_3), (wrap64 (x7_2 + 1)), (by first | rfl | (simp; done) | (simp [*]; done)), H', ⟨by have := HJ2.out; have := HK2.out; have := HK3.out; omega⟩, ⟨by (with_reducible repeat (first | apply Kd.R_alloc | apply Kd.R_drewN | apply Kd.R_drew)); exact HO_5.out⟩, ⟨by (with_reducible repeat (first | apply Kd.R_alloc | apply Kd.R_drewN | apply Kd.R_drew)); exact HO_6.out⟩, ⟨by repeat (first | (with_reducible first | exact HB.out | apply below_alloc | apply pw_below_drewN | apply below_drew1) | exact HB.out)⟩⟩
              · rw [if_neg c13] at H
                exact absurd H (by simp)
            · rw [if_neg c12] at H
              have c12b0 : decide (x7_2 < (x5_2.length : Int)) = false := decide_eq_false c12
              clear c12
              obtain rfl := Option.some.inj H
              obtain ⟨Ao36, co36, eo36⟩ := Kd.R_slice HO_5.out
              subst eo36
              go_wp2
              go_ret
              exact ⟨by first | rfl | (simp [errW_none, errW_some] <;> rfl) | (simp [*, errW_none, errW_some] <;> rfl), by repeat (first | (with_reducible first | exact HB.out | apply below_alloc | apply pw_below_drewN | apply below_drew1) | exact HB.out)⟩

/-! ### impl_in: function 74 -/
def impl_in.f (a0 : Int) (a1 : Int) (a2 : Int) : Option (Bool) := if a0 ≥ a1 then (some (decide (a0 ≤ a2))) else (some false)
set_option maxHeartbeats 8000000 in
set_option maxRecDepth 100000 in
theorem impl_in.calls (a0 : Int) (a1 : Int) (a2 : Int) (r : Bool) (w : World) (h : impl_in.f a0 a1 a2 = some r) :
    Calls Try.prog 74 #[.int .i64 a0, .int .i64 a1, .int .i64 a2] w fun e w' => e = .returned (.bool r) ∧ Drawn0 w w' := by
  have H : (if a0 ≥ a1 then (some (decide (a0 ≤ a2))) else (some false)) = some r := h
  clear h
  by_cases c4 : a0 ≥ a1
  · rw [if_pos c4] at H
    have c4b0 : decide (a1 ≤ a0) = true := decide_eq_true c4
    clear c4
    obtain rfl := Option.some.inj H
    go_enter Try.func74, Try.ntmps74
    go_wp2
    go_ret
    exact ⟨by first | rfl | (simp; done) | (simp [*]; done), by repeat (first | exact Drawn0.refl _ | apply Drawn0.step)⟩
  · rw [if_neg c4] at H
    have c4b0 : decide (a1 ≤ a0) = false := decide_eq_false c4
    clear c4
    obtain rfl := Option.some.inj H
    go_enter Try.func74, Try.ntmps74
    go_wp2
    go_ret
    exact ⟨by first | rfl | (simp; done) | (simp [*]; done), by repeat (first | exact Drawn0.refl _ | apply Drawn0.step)⟩

/-! ### impl_ModeStep: function 86 (own) -/
/-! #### small words -/
def IdxPost {α : Type} (p : α → Bool) (l : List α) (e : Ending) : Prop := ∃ r : Int, e = .returned (.int .i64 r) ∧ (0 ≤ r ↔ l.any p = true)
theorem x_drawn_drew {w : World} {q q' : Nat} : (w.drewN q).drewN q' = w.drewN (q + q') := World.drewN_drewN ..
theorem C_int_cell {k : IntKind} {w : World} {A : Option Addr} {n : Nat} {l : List Int} (h : Kd.C (Kd.int k) w A n l) (i : Nat) (hi : i < n) : ∃ ad, A = some ad ∧ w.cell? (ad.add i) = some (.int k (l.getD i 0)) := by
  obtain ⟨ad, c, e, hl, hK, hc⟩ := Kd.C_get h (0 : Int) (i : Int) (by omega) (by omega)
  have hK' : c = [.int k (l.getD (i : Int).toNat 0)] := hK
  subst hK'
  have := hc 0 _ rfl
  rw [show (i : Int).toNat * (Kd.int k).sz + 0 = i from by show (i : Int).toNat * 1 + 0 = i; omega] at this
  exact ⟨ad, e, this⟩
theorem x_none {α : Type} (p : α → Bool) (l : List α) (d : α) (h : ∀ j, j < l.length → p (l.getD j d) = false) : l.any p = false := by
  rw [List.any_eq_false]
  intro x hx
  obtain ⟨j, hj, rfl⟩ := List.getElem_of_mem hx
  have := h j hj
  rw [List.getD_eq_getElem?_getD, List.getElem?_eq_getElem hj] at this
  simpa using this
theorem x_some {α : Type} (p : α → Bool) (l : List α) (d : α) (j : Nat) (hj : j < l.length) (h : p (l.getD j d) = true) : l.any p = true := by
  rw [List.any_eq_true]
  refine ⟨_, List.getElem_mem hj, ?_⟩
  rw [List.getD_eq_getElem?_getD, List.getElem?_eq_getElem hj] at h
  simpa using h

theorem in_0 (x a b : Int) (w : World) : Calls Try.prog 74 #[.int .i64 x, .int .i64 a, .int .i64 b] w fun e w' => e = .returned (.bool (decide (a ≤ x ∧ x ≤ b))) ∧ Drawn0 w w' := by
  by_cases c : a ≤ x
  · have c1 : decide (a ≤ x) = true := decide_eq_true c
    go_enter Try.func74, Try.ntmps74
    go_wp2
    go_ret
    exact ⟨by simp [c], Drawn0.refl _⟩
  · have c1 : decide (a ≤ x) = false := decide_eq_false c
    go_enter Try.func74, Try.ntmps74
    go_wp2
    go_ret
    exact ⟨by simp [c], Drawn0.refl _⟩
theorem in_1 (x a b : Int) (r : Bool) (w : World) (h : decide (a ≤ x ∧ x ≤ b) = r) : Calls Try.prog 74 #[.int .i64 x, .int .i64 a, .int .i64 b] w fun e w' => e = .returned (.bool r) ∧ Drawn0 w w' := h ▸ in_0 x a b w

/-- An operation that yields nothing. -/
theorem skip_ {P : Program} {ops : Array Oper} {Q : Exit → Act → World → Prop} {oi : Oper} {N : Option Tmp} {a : Act} {w w1 : World} {K : Act → World → Prop} (hw : Region.wanted oi (yielded ops a.tmps) = true) (hN : oi.dst = N) (hrun : (execOp a.eval oi).run P w = .ok .skip w1)
    (h : K (a.put N undef) w1) : if Region.wanted oi (yielded ops a.tmps) = true then Oper.wp P oi a w K Q else K (a.put N undef) w := by
  rw [if_pos hw]
  subst hN
  unfold Oper.wp
  rw [hrun]
  exact h

def ms_T : Bool × List (List Nat × List Nat) := (true, [([], []), ([], []), ([0, 1], [0, 1]), ([], []), ([0, 3], [0, 3]), ([], []), ([0, 5], [0, 5]), ([], []), ([0, 7], [0, 7]), ([], []), ([0, 9], [0, 9]), ([], []), ([0, 11], [0, 11]), ([], []), ([0, 13], [0, 13]), ([0, 1, 2, 3, 4, 5, 6, 7, 8, 9, 10, 11, 12, 13, 14], [0]), ([], []), ([], []), ([16, 17], [16, 17]), ([15, 18], [15, 18]), ([19], [19]), ([20], [20]), ([20], [20]), ([21, 0, 1, 2, 3, 4, 5, 6, 7, 8, 9, 10, 11, 12, 13, 14, 15, 16, 17, 18, 19, 20, 21], [21]), ([22, 23, 0, 1, 2, 3, 4, 5, 6, 7, 8, 9, 10, 11, 12, 13, 14, 15, 16, 17, 18, 19, 20, 21, 22, 23], [22])])
def ms_B : List Nat := [0, 0, 3, 0, 9, 0, 33, 0, 129, 0, 513, 0, 2049, 0, 8193, 32767, 0, 0, 196608, 524287, 1048575, 2097151, 2097151, 4194303, 16777215]
theorem ms_tab : rtab .any (opsOf Try.f86 3) = ms_T := by kernel_rfl
theorem ms_bits : waitsOk ms_T.2 ms_B = true := by kernel_rfl
def ms_key (m c : Int) : Value := .agg #[.int .i64 m, .int .i64 c]
noncomputable def ms_kl (m c : Int) : Lit := (keyOf Try.prog 122 (ms_key m c)).getD (.bool false)
/-- The table: the operation that stores it, and the next mode. -/
def ms_tbl (m c : Nat) : Option (Nat × Int) := if m = 0 ∧ c = 1 then some (2, 1) else if m = 1 ∧ c = 2 then some (4, 3) else if m = 2 ∧ c = 2 then some (6, 3) else if m = 2 ∧ c = 3 then some (8, 4) else if m = 4 ∧ c = 2 then some (10, 3) else if m = 4 ∧ c = 1 then some (12, 2) else if m = 5 ∧ c = 4 then some (14, 0) else none
def ms_want (b : Nat → Bool) (m c : Nat) : Bool × Int := match ms_tbl m c with | some (j, v) => if b j = true then (true, v) else (false, 0) | none => (false, 0)
noncomputable def ms_agr (b : Nat → Bool) (D : DataW Unit) : Prop := ∀ m c : Nat, m < 6 → c < 5 → Go.Maps.has D (ms_kl m c) = (ms_want b m c).1 ∧ D.atKey (ms_kl m c) (.lit (.int .i64 0)) = .lit (.int .i64 (ms_want b m c).2)
set_option maxRecDepth 100000 in
theorem ms_keyok : ((List.range 6).all fun m => (List.range 5).all fun c => (keyOf Try.prog 122 (ms_key (m : Nat) (c : Nat))).isSome) = true := by kernel_rfl
theorem ms_keyOf (m c : Nat) (hm : m < 6) (hc : c < 5) : keyOf Try.prog 122 (ms_key m c) = some (ms_kl m c) := by
  have h := List.all_eq_true.1 (List.all_eq_true.1 ms_keyok m (List.mem_range.2 hm)) c (List.mem_range.2 hc)
  unfold ms_kl
  cases e : keyOf Try.prog 122 (ms_key m c) with
  | none => rw [e] at h; cases h
  | some l => rfl
set_option maxRecDepth 100000 in
theorem ms_law : Go.Maps.Keyed Try.prog 122 := Go.Maps.Keyed.of_law (deep_law_laid (m := 4) (by kernel_rfl) (by decide) (of_decide_eq_true (by kernel_rfl)) (by kernel_rfl) (by kernel_rfl))
set_option maxRecDepth 100000 in
theorem ms_isKey (m c : Nat) (hm : m < 6) (hc : c < 5) : WideAt.IsKeyLit (ms_kl m c) := ms_law.key (ms_keyOf m c hm hc)
theorem ms_inj {m c m' c' : Nat} (hm : m < 6) (hc : c < 5) (hm' : m' < 6) (hc' : c' < 5) (h : ms_kl m c = ms_kl m' c') : m = m' ∧ c = c' := by
  have e := ms_law.inj ((ms_keyOf m c hm hc).trans (congrArg some h)) (ms_keyOf m' c' hm' hc')
  simp only [ms_key, Value.agg.injEq, Array.mk.injEq, List.cons.injEq, Value.int.injEq, true_and, and_true] at e
  omega
theorem ms_nil : ms_agr (fun _ => false) (.map []) := fun m c hm hc => by
  have e : ms_want (fun _ => false) m c = (false, 0) := by unfold ms_want; cases ms_tbl m c <;> simp
  rw [e]
  exact ⟨rfl, rfl⟩
set_option maxRecDepth 100000 in
theorem ms_put {b : Nat → Bool} {D : DataW Unit} (hD : Go.Maps.IsMap D) (h : ms_agr b D) (m0 c0 : Nat) (h0 : m0 < 6) (h1 : c0 < 5) (j : Nat) (v : Int) (ht : ms_tbl m0 c0 = some (j, v)) (hj : ∀ m c, m < 6 → c < 5 → ∀ q, ms_tbl m c = some (j, q) → m = m0 ∧ c = c0) :
    ms_agr (up b j) (D.put (ms_kl m0 c0) (.lit (.int .i64 v))) := fun m c hm hc => by
  by_cases e : m = m0 ∧ c = c0
  · obtain ⟨rfl, rfl⟩ := e
    have e : ms_want (up b j) m c = (true, v) := by unfold ms_want; rw [ht]; simp [up_self]
    rw [e]
    exact ⟨Go.Maps.has_put_same hD (ms_isKey m c hm hc) _, Go.Maps.atKey_put_same hD (ms_isKey m c hm hc) _ _⟩
  · have hne : ms_kl m c ≠ ms_kl m0 c0 := fun h' => e (ms_inj hm hc h0 h1 h')
    rw [Go.Maps.has_put_other hne, Go.Maps.atKey_put_other hne]
    have e2 : ms_want (up b j) m c = ms_want b m c := by
      unfold ms_want
      cases hq : ms_tbl m c with
      | none => rfl
      | some p =>
        obtain ⟨q, u⟩ := p
        have hqj : q ≠ j := fun h' => by subst h'; exact e (hj m c hm hc u hq)
        simp only [up_ne hqj]
    rw [e2]
    exact h m c hm hc
theorem ms_uniq : ((List.range 6).all fun m => (List.range 5).all fun c => match ms_tbl m c with | some (j, _) => [(0, 1, 2), (1, 2, 4), (2, 2, 6), (2, 3, 8), (4, 2, 10), (4, 1, 12), (5, 4, 14)].contains (m, c, j) | none => true) = true := by decide
theorem ms_one {j m0 c0 : Nat} (h : ([((0 : Nat), (1 : Nat), (2 : Nat)), ((1 : Nat), (2 : Nat), (4 : Nat)), ((2 : Nat), (2 : Nat), (6 : Nat)), ((2 : Nat), (3 : Nat), (8 : Nat)), ((4 : Nat), (2 : Nat), (10 : Nat)), ((4 : Nat), (1 : Nat), (12 : Nat)), ((5 : Nat), (4 : Nat), (14 : Nat))].all fun p => p.2.2 != j || (p.1 == m0 && p.2.1 == c0)) = true) (m c : Nat) (hm : m < 6) (hc : c < 5) (q : Int) (hq : ms_tbl m c = some (j, q)) : m = m0 ∧ c = c0 := by
  have h1 := List.all_eq_true.1 (List.all_eq_true.1 ms_uniq m (List.mem_range.2 hm)) c (List.mem_range.2 hc)
  rw [hq] at h1
  simp only [List.contains_cons, List.contains_nil, Bool.or_false, Bool.or_eq_true, beq_iff_eq, Prod.mk.injEq] at h1
  simp only [List.all_cons, List.all_nil, Bool.and_true, Bool.and_eq_true, Bool.or_eq_true, bne_iff_ne, beq_iff_eq] at h
  omega
def ms_cnt (b : Nat → Bool) : Nat := (b 2).toNat + (b 4).toNat + (b 6).toNat + (b 8).toNat + (b 10).toNat + (b 12).toNat + (b 14).toNat
theorem ms_le (b : Nat → Bool) : ms_cnt b ≤ 7 := by
  have h : ∀ x : Bool, x.toNat ≤ 1 := fun x => by cases x <;> decide
  have h0 := h (b 2)
  have h1 := h (b 4)
  have h2 := h (b 6)
  have h3 := h (b 8)
  have h4 := h (b 10)
  have h5 := h (b 12)
  have h6 := h (b 14)
  unfold ms_cnt
  omega
/-- The next mode by the table, for modes and commands in range. -/
def ms_has (m c : Int) : Bool := (ms_tbl m.toNat c.toNat).isSome
def ms_val (m c : Int) : Int := match ms_tbl m.toNat c.toNat with | some (_, v) => v | none => 0
def ms_out (m c : Int) (d f : Bool) : Int := if f = true then 5 else if ms_has m c = true then ms_val m c else if m = 1 ∧ d = true then 2 else if m = 3 ∧ d = true then 0 else m
theorem ms_full (b : Nat → Bool) (hb : ([2, 4, 6, 8, 10, 12, 14].all fun j => b j) = true) (m c : Nat) (hm : m < 6) (hc : c < 5) : ms_want b m c = (ms_has m c, ms_val m c) := by
  have h1 := List.all_eq_true.1 (List.all_eq_true.1 ms_uniq m (List.mem_range.2 hm)) c (List.mem_range.2 hc)
  unfold ms_want ms_has ms_val
  simp only [Int.toNat_natCast]
  cases hq : ms_tbl m c with
  | none => rfl
  | some p =>
    obtain ⟨j, v⟩ := p
    rw [hq] at h1
    have hj : b j = true := by
      simp only [List.all_cons, List.all_nil, Bool.and_true, Bool.and_eq_true] at hb
      obtain ⟨g0, g1, g2, g3, g4, g5, g6⟩ := hb
      simp only [List.contains_cons, List.contains_nil, Bool.or_false, Bool.or_eq_true, beq_iff_eq, Prod.mk.injEq] at h1
      rcases h1 with ⟨_, _, rfl⟩ | ⟨_, _, rfl⟩ | ⟨_, _, rfl⟩ | ⟨_, _, rfl⟩ | ⟨_, _, rfl⟩ | ⟨_, _, rfl⟩ | ⟨_, _, rfl⟩ <;> assumption
    simp only [hj, if_true, Option.isSome_some]
theorem ms_other (b : Nat → Bool) (i : Nat) (hi : ([2, 4, 6, 8, 10, 12, 14].contains i) = false) (m c : Nat) (hm : m < 6) (hc : c < 5) : ms_want (up b i) m c = ms_want b m c := by
  have h1 := List.all_eq_true.1 (List.all_eq_true.1 ms_uniq m (List.mem_range.2 hm)) c (List.mem_range.2 hc)
  unfold ms_want
  cases hq : ms_tbl m c with
  | none => rfl
  | some p =>
    obtain ⟨j, v⟩ := p
    rw [hq] at h1
    have hj : j ≠ i := by
      rintro rfl
      simp only [List.contains_cons, List.contains_nil, Bool.or_false, Bool.or_eq_true, beq_iff_eq, Prod.mk.injEq] at h1
      simp only [List.contains_cons, List.contains_nil, Bool.or_false, Bool.or_eq_false_iff, beq_eq_false_iff_ne] at hi
      omega
    simp only [up_ne hj]
theorem ms_inv {v : Value} {x : Int} {ps : List MemPlace} (h : plainElem (H := Unit) Try.prog 3 v = some (.lit (.int .i64 x), ps)) : v = .int .i64 x := by
  obtain ⟨c, rfl, hc, _⟩ := plainElem_int_inv Try.underlying3 h
  have := congrArg Prod.fst hc
  simp only [DataW.lit.injEq, Lit.int.injEq, true_and] at this
  rw [this]
theorem zeroValue_int (w : World) : (zeroValue 3).run Try.prog w = .ok (.int .i64 0) w := by kernel_rfl
theorem ms_ret {a b : Int} (h : b = a) : Ending.returned (.int .i64 a) = .returned (.int .i64 b) := by rw [h]
set_option maxRecDepth 100000 in
set_option maxHeartbeats 8000000 in
theorem ms_in (m c : Nat) (hm : m < 6) (hc : c < 5) (a0 a1 : Int) (h0 : a0 = m) (h1 : a1 = c) (a2 a3 : Bool) (w : World) :
    Calls Try.prog 86 #[.int .i64 a0, .int .i64 a1, .bool a2, .bool a3] w fun e w' => e = .returned (.int .i64 (ms_out a0 a1 a2 a3)) ∧ Below w.heap.size w w' := by
  have C1 := Aside0.mk (show decide (0 ≤ a0 ∧ a0 ≤ 5) = true from decide_eq_true (by omega))
  have C2 := Aside0.mk (show decide (0 ≤ a1 ∧ a1 ≤ 4) = true from decide_eq_true (by omega))
  have H0 := Aside0.mk h0
  have H1 := Aside0.mk h1
  clear h0 h1
  go_enter Try.func86, Try.ntmps86
  go_wp2_with (first | (go_at_call 74; (with_reducible refine (in_1 a0 0 5 _ _ C1.out).mono ?_); rintro e w' ⟨rfl, ⟨nd, rfl⟩⟩) | (go_at_call 74; (with_reducible refine (in_1 a1 0 4 _ _ C2.out).mono ?_); rintro e w' ⟨rfl, ⟨nd, rfl⟩⟩))
  refine start_ (n := 25) (S := fun w' => True) (ds := []) #[false, false, false, false, false, false, false, false, false, false, false, false, false, false, false, false, false, false, false, false, false, false, false, false, false] (by kernel_rfl) rfl rfl trivial (fun hHeld => ?_); refine with_tabW ms_tab ms_bits (fun HT_ HW_ => ?_)
  clear hHeld
  generalize hw1 : World.drew _ = w1
  have HB := Aside0.mk (show Below w.heap.size w w1 by rw [← hw1]; exact below_drew1 (by repeat (first | exact Below.refl _ _ | apply pw_below_drewN)))
  have HS := Aside0.mk (show w1.heap.size = w.heap.size by rw [← hw1]; rfl)
  clear hw1
  refine pure_ (i := 1) (N := some 21) (v := ?_) (a' := ?_) #[false, true, false, false, false, false, false, false, false, false, false, false, false, false, false, false, false, false, false, false, false, false, false, false, false] rfl rfl (any_of HT_.out (by kernel_rfl)) (fun _ _ _ h => h) (Or.inl ⟨by rfl, ?_⟩) ?_ ?_
  rotate_left
  · intro w'
    go_simp
    with_reducible rfl
  rotate_left
  · simp only [Act.put, List.setIfInBounds_toArray, List.set_cons_zero, List.set_cons_succ, i64_w, i32_w]
    rfl
  refine pure_ (i := 3) (N := some 22) (v := ?_) (a' := ?_) #[false, true, false, true, false, false, false, false, false, false, false, false, false, false, false, false, false, false, false, false, false, false, false, false, false] rfl rfl (any_of HT_.out (by kernel_rfl)) (fun _ _ _ h => h) (Or.inl ⟨by rfl, ?_⟩) ?_ ?_
  rotate_left
  · intro w'
    go_simp
    with_reducible rfl
  rotate_left
  · simp only [Act.put, List.setIfInBounds_toArray, List.set_cons_zero, List.set_cons_succ, i64_w, i32_w]
    rfl
  refine pure_ (i := 5) (N := some 23) (v := ?_) (a' := ?_) #[false, true, false, true, false, true, false, false, false, false, false, false, false, false, false, false, false, false, false, false, false, false, false, false, false] rfl rfl (any_of HT_.out (by kernel_rfl)) (fun _ _ _ h => h) (Or.inl ⟨by rfl, ?_⟩) ?_ ?_
  rotate_left
  · intro w'
    go_simp
    with_reducible rfl
  rotate_left
  · simp only [Act.put, List.setIfInBounds_toArray, List.set_cons_zero, List.set_cons_succ, i64_w, i32_w]
    rfl
  refine pure_ (i := 7) (N := some 24) (v := ?_) (a' := ?_) #[false, true, false, true, false, true, false, true, false, false, false, false, false, false, false, false, false, false, false, false, false, false, false, false, false] rfl rfl (any_of HT_.out (by kernel_rfl)) (fun _ _ _ h => h) (Or.inl ⟨by rfl, ?_⟩) ?_ ?_
  rotate_left
  · intro w'
    go_simp
    with_reducible rfl
  rotate_left
  · simp only [Act.put, List.setIfInBounds_toArray, List.set_cons_zero, List.set_cons_succ, i64_w, i32_w]
    rfl
  refine pure_ (i := 9) (N := some 25) (v := ?_) (a' := ?_) #[false, true, false, true, false, true, false, true, false, true, false, false, false, false, false, false, false, false, false, false, false, false, false, false, false] rfl rfl (any_of HT_.out (by kernel_rfl)) (fun _ _ _ h => h) (Or.inl ⟨by rfl, ?_⟩) ?_ ?_
  rotate_left
  · intro w'
    go_simp
    with_reducible rfl
  rotate_left
  · simp only [Act.put, List.setIfInBounds_toArray, List.set_cons_zero, List.set_cons_succ, i64_w, i32_w]
    rfl
  refine pure_ (i := 11) (N := some 26) (v := ?_) (a' := ?_) #[false, true, false, true, false, true, false, true, false, true, false, true, false, false, false, false, false, false, false, false, false, false, false, false, false] rfl rfl (any_of HT_.out (by kernel_rfl)) (fun _ _ _ h => h) (Or.inl ⟨by rfl, ?_⟩) ?_ ?_
  rotate_left
  · intro w'
    go_simp
    with_reducible rfl
  rotate_left
  · simp only [Act.put, List.setIfInBounds_toArray, List.set_cons_zero, List.set_cons_succ, i64_w, i32_w]
    rfl
  refine pure_ (i := 13) (N := some 27) (v := ?_) (a' := ?_) #[false, true, false, true, false, true, false, true, false, true, false, true, false, true, false, false, false, false, false, false, false, false, false, false, false] rfl rfl (any_of HT_.out (by kernel_rfl)) (fun _ _ _ h => h) (Or.inl ⟨by rfl, ?_⟩) ?_ ?_
  rotate_left
  · intro w'
    go_simp
    with_reducible rfl
  rotate_left
  · simp only [Act.put, List.setIfInBounds_toArray, List.set_cons_zero, List.set_cons_succ, i64_w, i32_w]
    rfl
  refine pure_ (i := 16) (N := some 29) (v := ?_) (a' := ?_) #[false, true, false, true, false, true, false, true, false, true, false, true, false, true, false, false, true, false, false, false, false, false, false, false, false] rfl rfl (any_of HT_.out (by kernel_rfl)) (fun _ _ _ h => h) (Or.inl ⟨by rfl, ?_⟩) ?_ ?_
  rotate_left
  · intro w'
    go_simp
    with_reducible rfl
  rotate_left
  · simp only [Act.put, List.setIfInBounds_toArray, List.set_cons_zero, List.set_cons_succ, i64_w, i32_w]
    rfl
  refine pure_ (i := 17) (N := some 30) (v := ?_) (a' := ?_) #[false, true, false, true, false, true, false, true, false, true, false, true, false, true, false, false, true, true, false, false, false, false, false, false, false] rfl rfl (any_of HT_.out (by kernel_rfl)) (fun _ _ _ h => h) (Or.inl ⟨by rfl, ?_⟩) ?_ ?_
  rotate_left
  · intro w'
    go_simp
    with_reducible rfl
  rotate_left
  · simp only [Act.put, List.setIfInBounds_toArray, List.set_cons_zero, List.set_cons_succ, i64_w, i32_w]
    rfl
  refine pure_ (i := 18) (N := some 31) (v := ?_) (a' := ?_) #[false, true, false, true, false, true, false, true, false, true, false, true, false, true, false, false, true, true, true, false, false, false, false, false, false] rfl rfl (any_of HT_.out (by kernel_rfl)) (fun _ _ _ h => h) (Or.inl ⟨by rfl, ?_⟩) ?_ ?_
  rotate_left
  · intro w'
    go_simp
    with_reducible rfl
  rotate_left
  · simp only [Act.put, List.setIfInBounds_toArray, List.set_cons_zero, List.set_cons_succ, i64_w, i32_w]
    rfl
  refine one_ (i := 0) (N := some 20) #[true, true, false, true, false, true, false, true, false, true, false, true, false, true, false, false, true, true, true, false, false, false, false, false, false] rfl rfl (one_of HT_.out (by kernel_rfl)) (by decide) (fun K hK => ?_)
  refine value_ (w1 := w1.alloc (.map #[] 0)) (v := .map (some w1.heap.size)) (by rfl) rfl (by simp [execOp, run_makeMap, Result.andThen]) ?_
  refine hK.out _ _ trivial (fun _ => ?_)
  clear hK K
  have HM := Aside0.mk (World.ownsMap_made (H := Unit) w1 Try.prog 122 (plainElem Try.prog 3))
  have HB2 := Aside0.mk (below_alloc HB.out (.map #[] 0))
  generalize w1.alloc (.map #[] 0) = w2 at HM HB2
  rw [HS.out] at HM
  have HX := HS.out
  rw [HS.out]
  clear HB HS HX
  refine norm_ (a' := ?_) ?_ ?_
  rotate_left
  · show Act.put _ (some 20) _ = _
    simp only [Act.put, List.setIfInBounds_toArray, List.set_cons_zero, List.set_cons_succ, i64_w, i32_w]
    rfl
  refine inv_at [2, 4, 6, 8, 10, 12, 14, 15, 19, 20, 21, 22, 23, 24] (fun a0_ b a w' => a = putSel a0_ b [(15, 28, Value.map (some w.heap.size)), (19, 32, Value.tuple #[.int .i64 (ms_val a0 a1), .bool (ms_has a0 a1)]), (20, 19, Value.tuple #[.int .i64 (ms_val a0 a1), .bool (ms_has a0 a1)]), (21, 33, Value.int .i64 (ms_val a0 a1)), (22, 34, Value.bool (ms_has a0 a1)), (23, 9, Value.int .i64 (ms_val a0 a1)), (24, 10, Value.bool (ms_has a0 a1))] ∧ (∃ D : DataW Unit, w'.ownsMap Try.prog 122 (plainElem Try.prog 3) w.heap.size (ms_cnt b) D ∧ ms_agr b D) ∧ Below w.heap.size w w') HT_.out HW_.out (by kernel_rfl) (by kernel_rfl) ?_ ?_ ?_
  · exact ⟨by simp only [putSel, Bool.false_eq_true, if_false], ⟨.map [], HM.out, ms_nil⟩, HB2.out⟩
  · clear HM HB2
    refine steps_cons ?_ ?_
    · rintro b a w' ⟨ha, ⟨D, hO, hA⟩, hB⟩ hb_ hon hoff
      refine ⟨_, rfl, fun K hK => ?_⟩
      have e20 : a.tmps[20]? = some (Value.map (some w.heap.size)) := by rw [ha]; exact (putSel_off rfl).trans rfl
      have e21 : a.tmps[21]? = some (Value.agg #[.int .i64 0, .int .i64 1]) := by rw [ha]; exact (putSel_off rfl).trans rfl
      obtain ⟨w3, hrun, h1, h2⟩ := hO.update ms_law Try.underlying123 (by have := ms_le b; unfold maxLen; omega) (ms_keyOf 0 1 (by decide) (by decide)) (plainElem_int (a := 1) Try.underlying3 (by decide))
      have hrun' : (execOp a.eval ⟨none, Op.insert 123 (.tmp 20) (.tmp 21) (.const (.int .i64 1)), 0, "l16_modes.go:25", #[{ on := 0, ground := Ground.data }, { on := 1, ground := Ground.data }], none⟩).run Try.prog w' = .ok .skip w3 := by simp [execOp, Act.eval, e20, e21, ms_key] at hrun ⊢; simp [hrun, Result.andThen]
      refine skip_ (w1 := w3) (by rfl) rfl (by exact hrun') ?_
      refine hK.out _ _ ⟨by rw [ha]; exact putSel_none (v := undef) rfl, ⟨_, ?_, ms_put hO.isMap hA 0 1 (by decide) (by decide) 2 1 rfl (fun m c hm hc q hq => ms_one (by decide) m c hm hc q hq)⟩, pw_below_grown hB _ (below_size hB) h2 (fun k hk => by cases hk; exact Nat.le_refl _)⟩
      refine h1.mono ?_
      unfold ms_cnt
      simp [up, hb_]
      try omega
    refine steps_cons ?_ ?_
    · rintro b a w' ⟨ha, ⟨D, hO, hA⟩, hB⟩ hb_ hon hoff
      refine ⟨_, rfl, fun K hK => ?_⟩
      have e20 : a.tmps[20]? = some (Value.map (some w.heap.size)) := by rw [ha]; exact (putSel_off rfl).trans rfl
      have e22 : a.tmps[22]? = some (Value.agg #[.int .i64 1, .int .i64 2]) := by rw [ha]; exact (putSel_off rfl).trans rfl
      obtain ⟨w3, hrun, h1, h2⟩ := hO.update ms_law Try.underlying123 (by have := ms_le b; unfold maxLen; omega) (ms_keyOf 1 2 (by decide) (by decide)) (plainElem_int (a := 3) Try.underlying3 (by decide))
      have hrun' : (execOp a.eval ⟨none, Op.insert 123 (.tmp 20) (.tmp 22) (.const (.int .i64 3)), 0, "l16_modes.go:25", #[{ on := 0, ground := Ground.data }, { on := 3, ground := Ground.data }], none⟩).run Try.prog w' = .ok .skip w3 := by simp [execOp, Act.eval, e20, e22, ms_key] at hrun ⊢; simp [hrun, Result.andThen]
      refine skip_ (w1 := w3) (by rfl) rfl (by exact hrun') ?_
      refine hK.out _ _ ⟨by rw [ha]; exact putSel_none (v := undef) rfl, ⟨_, ?_, ms_put hO.isMap hA 1 2 (by decide) (by decide) 4 3 rfl (fun m c hm hc q hq => ms_one (by decide) m c hm hc q hq)⟩, pw_below_grown hB _ (below_size hB) h2 (fun k hk => by cases hk; exact Nat.le_refl _)⟩
      refine h1.mono ?_
      unfold ms_cnt
      simp [up, hb_]
      try omega
    refine steps_cons ?_ ?_
    · rintro b a w' ⟨ha, ⟨D, hO, hA⟩, hB⟩ hb_ hon hoff
      refine ⟨_, rfl, fun K hK => ?_⟩
      have e20 : a.tmps[20]? = some (Value.map (some w.heap.size)) := by rw [ha]; exact (putSel_off rfl).trans rfl
      have e23 : a.tmps[23]? = some (Value.agg #[.int .i64 2, .int .i64 2]) := by rw [ha]; exact (putSel_off rfl).trans rfl
      obtain ⟨w3, hrun, h1, h2⟩ := hO.update ms_law Try.underlying123 (by have := ms_le b; unfold maxLen; omega) (ms_keyOf 2 2 (by decide) (by decide)) (plainElem_int (a := 3) Try.underlying3 (by decide))
      have hrun' : (execOp a.eval ⟨none, Op.insert 123 (.tmp 20) (.tmp 23) (.const (.int .i64 3)), 0, "l16_modes.go:25", #[{ on := 0, ground := Ground.data }, { on := 5, ground := Ground.data }], none⟩).run Try.prog w' = .ok .skip w3 := by simp [execOp, Act.eval, e20, e23, ms_key] at hrun ⊢; simp [hrun, Result.andThen]
      refine skip_ (w1 := w3) (by rfl) rfl (by exact hrun') ?_
      refine hK.out _ _ ⟨by rw [ha]; exact putSel_none (v := undef) rfl, ⟨_, ?_, ms_put hO.isMap hA 2 2 (by decide) (by decide) 6 3 rfl (fun m c hm hc q hq => ms_one (by decide) m c hm hc q hq)⟩, pw_below_grown hB _ (below_size hB) h2 (fun k hk => by cases hk; exact Nat.le_refl _)⟩
      refine h1.mono ?_
      unfold ms_cnt
      simp [up, hb_]
      try omega
    refine steps_cons ?_ ?_
    · rintro b a w' ⟨ha, ⟨D, hO, hA⟩, hB⟩ hb_ hon hoff
      refine ⟨_, rfl, fun K hK => ?_⟩
      have e20 : a.tmps[20]? = some (Value.map (some w.heap.size)) := by rw [ha]; exact (putSel_off rfl).trans rfl
      have e24 : a.tmps[24]? = some (Value.agg #[.int .i64 2, .int .i64 3]) := by rw [ha]; exact (putSel_off rfl).trans rfl
      obtain ⟨w3, hrun, h1, h2⟩ := hO.update ms_law Try.underlying123 (by have := ms_le b; unfold maxLen; omega) (ms_keyOf 2 3 (by decide) (by decide)) (plainElem_int (a := 4) Try.underlying3 (by decide))
      have hrun' : (execOp a.eval ⟨none, Op.insert 123 (.tmp 20) (.tmp 24) (.const (.int .i64 4)), 0, "l16_modes.go:25", #[{ on := 0, ground := Ground.data }, { on := 7, ground := Ground.data }], none⟩).run Try.prog w' = .ok .skip w3 := by simp [execOp, Act.eval, e20, e24, ms_key] at hrun ⊢; simp [hrun, Result.andThen]
      refine skip_ (w1 := w3) (by rfl) rfl (by exact hrun') ?_
      refine hK.out _ _ ⟨by rw [ha]; exact putSel_none (v := undef) rfl, ⟨_, ?_, ms_put hO.isMap hA 2 3 (by decide) (by decide) 8 4 rfl (fun m c hm hc q hq => ms_one (by decide) m c hm hc q hq)⟩, pw_below_grown hB _ (below_size hB) h2 (fun k hk => by cases hk; exact Nat.le_refl _)⟩
      refine h1.mono ?_
      unfold ms_cnt
      simp [up, hb_]
      try omega
    refine steps_cons ?_ ?_
    · rintro b a w' ⟨ha, ⟨D, hO, hA⟩, hB⟩ hb_ hon hoff
      refine ⟨_, rfl, fun K hK => ?_⟩
      have e20 : a.tmps[20]? = some (Value.map (some w.heap.size)) := by rw [ha]; exact (putSel_off rfl).trans rfl
      have e25 : a.tmps[25]? = some (Value.agg #[.int .i64 4, .int .i64 2]) := by rw [ha]; exact (putSel_off rfl).trans rfl
      obtain ⟨w3, hrun, h1, h2⟩ := hO.update ms_law Try.underlying123 (by have := ms_le b; unfold maxLen; omega) (ms_keyOf 4 2 (by decide) (by decide)) (plainElem_int (a := 3) Try.underlying3 (by decide))
      have hrun' : (execOp a.eval ⟨none, Op.insert 123 (.tmp 20) (.tmp 25) (.const (.int .i64 3)), 0, "l16_modes.go:25", #[{ on := 0, ground := Ground.data }, { on := 9, ground := Ground.data }], none⟩).run Try.prog w' = .ok .skip w3 := by simp [execOp, Act.eval, e20, e25, ms_key] at hrun ⊢; simp [hrun, Result.andThen]
      refine skip_ (w1 := w3) (by rfl) rfl (by exact hrun') ?_
      refine hK.out _ _ ⟨by rw [ha]; exact putSel_none (v := undef) rfl, ⟨_, ?_, ms_put hO.isMap hA 4 2 (by decide) (by decide) 10 3 rfl (fun m c hm hc q hq => ms_one (by decide) m c hm hc q hq)⟩, pw_below_grown hB _ (below_size hB) h2 (fun k hk => by cases hk; exact Nat.le_refl _)⟩
      refine h1.mono ?_
      unfold ms_cnt
      simp [up, hb_]
      try omega
    refine steps_cons ?_ ?_
    · rintro b a w' ⟨ha, ⟨D, hO, hA⟩, hB⟩ hb_ hon hoff
      refine ⟨_, rfl, fun K hK => ?_⟩
      have e20 : a.tmps[20]? = some (Value.map (some w.heap.size)) := by rw [ha]; exact (putSel_off rfl).trans rfl
      have e26 : a.tmps[26]? = some (Value.agg #[.int .i64 4, .int .i64 1]) := by rw [ha]; exact (putSel_off rfl).trans rfl
      obtain ⟨w3, hrun, h1, h2⟩ := hO.update ms_law Try.underlying123 (by have := ms_le b; unfold maxLen; omega) (ms_keyOf 4 1 (by decide) (by decide)) (plainElem_int (a := 2) Try.underlying3 (by decide))
      have hrun' : (execOp a.eval ⟨none, Op.insert 123 (.tmp 20) (.tmp 26) (.const (.int .i64 2)), 0, "l16_modes.go:25", #[{ on := 0, ground := Ground.data }, { on := 11, ground := Ground.data }], none⟩).run Try.prog w' = .ok .skip w3 := by simp [execOp, Act.eval, e20, e26, ms_key] at hrun ⊢; simp [hrun, Result.andThen]
      refine skip_ (w1 := w3) (by rfl) rfl (by exact hrun') ?_
      refine hK.out _ _ ⟨by rw [ha]; exact putSel_none (v := undef) rfl, ⟨_, ?_, ms_put hO.isMap hA 4 1 (by decide) (by decide) 12 2 rfl (fun m c hm hc q hq => ms_one (by decide) m c hm hc q hq)⟩, pw_below_grown hB _ (below_size hB) h2 (fun k hk => by cases hk; exact Nat.le_refl _)⟩
      refine h1.mono ?_
      unfold ms_cnt
      simp [up, hb_]
      try omega
    refine steps_cons ?_ ?_
    · rintro b a w' ⟨ha, ⟨D, hO, hA⟩, hB⟩ hb_ hon hoff
      refine ⟨_, rfl, fun K hK => ?_⟩
      have e20 : a.tmps[20]? = some (Value.map (some w.heap.size)) := by rw [ha]; exact (putSel_off rfl).trans rfl
      have e27 : a.tmps[27]? = some (Value.agg #[.int .i64 5, .int .i64 4]) := by rw [ha]; exact (putSel_off rfl).trans rfl
      obtain ⟨w3, hrun, h1, h2⟩ := hO.update ms_law Try.underlying123 (by have := ms_le b; unfold maxLen; omega) (ms_keyOf 5 4 (by decide) (by decide)) (plainElem_int (a := 0) Try.underlying3 (by decide))
      have hrun' : (execOp a.eval ⟨none, Op.insert 123 (.tmp 20) (.tmp 27) (.const (.int .i64 0)), 0, "l16_modes.go:25", #[{ on := 0, ground := Ground.data }, { on := 13, ground := Ground.data }], none⟩).run Try.prog w' = .ok .skip w3 := by simp [execOp, Act.eval, e20, e27, ms_key] at hrun ⊢; simp [hrun, Result.andThen]
      refine skip_ (w1 := w3) (by rfl) rfl (by exact hrun') ?_
      refine hK.out _ _ ⟨by rw [ha]; exact putSel_none (v := undef) rfl, ⟨_, ?_, ms_put hO.isMap hA 5 4 (by decide) (by decide) 14 0 rfl (fun m c hm hc q hq => ms_one (by decide) m c hm hc q hq)⟩, pw_below_grown hB _ (below_size hB) h2 (fun k hk => by cases hk; exact Nat.le_refl _)⟩
      refine h1.mono ?_
      unfold ms_cnt
      simp [up, hb_]
      try omega
    refine steps_cons ?_ ?_
    · rintro b a w' ⟨ha, ⟨D, hO, hA⟩, hB⟩ hb_ hon hoff
      refine ⟨_, rfl, fun K hK => ?_⟩
      have e20 : a.tmps[20]? = some (Value.map (some w.heap.size)) := by rw [ha]; exact (putSel_off rfl).trans rfl
      refine value_ (w1 := w') (v := Value.map (some w.heap.size)) (by rfl) rfl (by simp [execOp, Act.eval, e20]; try rfl) ?_
      refine hK.out _ _ ⟨by rw [ha]; exact putSel_upk 0 hb_ rfl rfl rfl, ⟨D, ?_, ?_⟩, hB⟩
      · exact hO.mono (by unfold ms_cnt; simp [up])
      · exact fun m c hm hc => by have := hA m c hm hc; have e : ms_want (up b 15) m c = ms_want b m c := ms_other b 15 (by decide) m c hm hc; rw [e]; exact this
    refine steps_cons ?_ ?_
    · rintro b a w' ⟨ha, ⟨D, hO, hA⟩, hB⟩ hb_ hon hoff
      refine ⟨_, rfl, fun K hK => ?_⟩
      have e28 : a.tmps[28]? = some (Value.map (some w.heap.size)) := by rw [ha]; exact putSel_on (e := (15, 28, Value.map (some w.heap.size))) 0 rfl rfl (hon 15 (by kernel_rfl)) rfl
      have e31 : a.tmps[31]? = some (Value.agg #[.int .i64 a0, .int .i64 a1]) := by rw [ha]; exact (putSel_off rfl).trans rfl
      have hk : keyOf Try.prog 122 (ms_key a0 a1) = some (ms_kl m c) := by rw [H0.out, H1.out]; exact ms_keyOf m c hm hc
      obtain ⟨v, ps, hrun, hv⟩ := hO.look_ok ms_law Try.underlying123 (zeroValue_int _) (plainElem_int (a := 0) Try.underlying3 (by decide)) hk
      have hF := ms_full b (by simp [hon 2 (by kernel_rfl), hon 4 (by kernel_rfl), hon 6 (by kernel_rfl), hon 8 (by kernel_rfl), hon 10 (by kernel_rfl), hon 12 (by kernel_rfl), hon 14 (by kernel_rfl)]) m c hm hc
      rw [← H0.out, ← H1.out] at hF
      have hG := hA m c hm hc
      rw [hF] at hG
      rw [hG.1] at hrun
      rw [hG.2] at hv
      have hvv : v = .int .i64 (ms_val a0 a1) := ms_inv hv
      rw [hvv] at hrun
      refine value_ (w1 := w') (v := Value.tuple #[.int .i64 (ms_val a0 a1), .bool (ms_has a0 a1)]) (by rfl) rfl (by simp [execOp, Act.eval, e28, e31, ms_key] at hrun ⊢; simp [hrun, Result.andThen]) ?_
      refine hK.out _ _ ⟨by rw [ha]; exact putSel_upk 1 hb_ rfl rfl rfl, ⟨D, ?_, ?_⟩, hB⟩
      · exact hO.mono (by unfold ms_cnt; simp [up])
      · exact fun m c hm hc => by have := hA m c hm hc; have e : ms_want (up b 19) m c = ms_want b m c := ms_other b 19 (by decide) m c hm hc; rw [e]; exact this
    refine steps_cons ?_ ?_
    · rintro b a w' ⟨ha, ⟨D, hO, hA⟩, hB⟩ hb_ hon hoff
      refine ⟨_, rfl, fun K hK => ?_⟩
      have e32 : a.tmps[32]? = some (Value.tuple #[.int .i64 (ms_val a0 a1), .bool (ms_has a0 a1)]) := by rw [ha]; exact putSel_on (e := (19, 32, Value.tuple #[.int .i64 (ms_val a0 a1), .bool (ms_has a0 a1)])) 1 rfl rfl (hon 19 (by kernel_rfl)) rfl
      refine value_ (w1 := w') (v := Value.tuple #[.int .i64 (ms_val a0 a1), .bool (ms_has a0 a1)]) (by rfl) rfl (by simp [execOp, Act.eval, e32]; try rfl) ?_
      refine hK.out _ _ ⟨by rw [ha]; exact putSel_upk 2 hb_ rfl rfl rfl, ⟨D, ?_, ?_⟩, hB⟩
      · exact hO.mono (by unfold ms_cnt; simp [up])
      · exact fun m c hm hc => by have := hA m c hm hc; have e : ms_want (up b 20) m c = ms_want b m c := ms_other b 20 (by decide) m c hm hc; rw [e]; exact this
    refine steps_cons ?_ ?_
    · rintro b a w' ⟨ha, ⟨D, hO, hA⟩, hB⟩ hb_ hon hoff
      refine ⟨_, rfl, fun K hK => ?_⟩
      have e19 : a.tmps[19]? = some (Value.tuple #[.int .i64 (ms_val a0 a1), .bool (ms_has a0 a1)]) := by rw [ha]; exact putSel_on (e := (20, 19, Value.tuple #[.int .i64 (ms_val a0 a1), .bool (ms_has a0 a1)])) 2 rfl rfl (hon 20 (by kernel_rfl)) rfl
      refine value_ (w1 := w') (v := Value.int .i64 (ms_val a0 a1)) (by rfl) rfl (by simp [execOp, Act.eval, e19]; try rfl) ?_
      refine hK.out _ _ ⟨by rw [ha]; exact putSel_upk 3 hb_ rfl rfl rfl, ⟨D, ?_, ?_⟩, hB⟩
      · exact hO.mono (by unfold ms_cnt; simp [up])
      · exact fun m c hm hc => by have := hA m c hm hc; have e : ms_want (up b 21) m c = ms_want b m c := ms_other b 21 (by decide) m c hm hc; rw [e]; exact this
    refine steps_cons ?_ ?_
    · rintro b a w' ⟨ha, ⟨D, hO, hA⟩, hB⟩ hb_ hon hoff
      refine ⟨_, rfl, fun K hK => ?_⟩
      have e19 : a.tmps[19]? = some (Value.tuple #[.int .i64 (ms_val a0 a1), .bool (ms_has a0 a1)]) := by rw [ha]; exact putSel_on (e := (20, 19, Value.tuple #[.int .i64 (ms_val a0 a1), .bool (ms_has a0 a1)])) 2 rfl rfl (hon 20 (by kernel_rfl)) rfl
      refine value_ (w1 := w') (v := Value.bool (ms_has a0 a1)) (by rfl) rfl (by simp [execOp, Act.eval, e19]; try rfl) ?_
      refine hK.out _ _ ⟨by rw [ha]; exact putSel_upk 4 hb_ rfl rfl rfl, ⟨D, ?_, ?_⟩, hB⟩
      · exact hO.mono (by unfold ms_cnt; simp [up])
      · exact fun m c hm hc => by have := hA m c hm hc; have e : ms_want (up b 22) m c = ms_want b m c := ms_other b 22 (by decide) m c hm hc; rw [e]; exact this
    refine steps_cons ?_ ?_
    · rintro b a w' ⟨ha, ⟨D, hO, hA⟩, hB⟩ hb_ hon hoff
      refine ⟨_, rfl, fun K hK => ?_⟩
      have e33 : a.tmps[33]? = some (Value.int .i64 (ms_val a0 a1)) := by rw [ha]; exact putSel_on (e := (21, 33, Value.int .i64 (ms_val a0 a1))) 3 rfl rfl (hon 21 (by kernel_rfl)) rfl
      refine value_ (w1 := w') (v := Value.int .i64 (ms_val a0 a1)) (by rfl) rfl (by simp [execOp, Act.eval, e33]; try rfl) ?_
      refine hK.out _ _ ⟨by rw [ha]; exact putSel_upk 5 hb_ rfl rfl rfl, ⟨D, ?_, ?_⟩, hB⟩
      · exact hO.mono (by unfold ms_cnt; simp [up])
      · exact fun m c hm hc => by have := hA m c hm hc; have e : ms_want (up b 23) m c = ms_want b m c := ms_other b 23 (by decide) m c hm hc; rw [e]; exact this
    refine steps_cons ?_ ?_
    · rintro b a w' ⟨ha, ⟨D, hO, hA⟩, hB⟩ hb_ hon hoff
      refine ⟨_, rfl, fun K hK => ?_⟩
      have e34 : a.tmps[34]? = some (Value.bool (ms_has a0 a1)) := by rw [ha]; exact putSel_on (e := (22, 34, Value.bool (ms_has a0 a1))) 4 rfl rfl (hon 22 (by kernel_rfl)) rfl
      refine value_ (w1 := w') (v := Value.bool (ms_has a0 a1)) (by rfl) rfl (by simp [execOp, Act.eval, e34]; try rfl) ?_
      refine hK.out _ _ ⟨by rw [ha]; exact putSel_upk 6 hb_ rfl rfl rfl, ⟨D, ?_, ?_⟩, hB⟩
      · exact hO.mono (by unfold ms_cnt; simp [up])
      · exact fun m c hm hc => by have := hA m c hm hc; have e : ms_want (up b 24) m c = ms_want b m c := ms_other b 24 (by decide) m c hm hc; rw [e]; exact this
    exact steps_nil
  · rintro b a w' hall ⟨ha, _, hB⟩
    have hb2_ := hall 2 (by kernel_rfl)
    have hb4_ := hall 4 (by kernel_rfl)
    have hb6_ := hall 6 (by kernel_rfl)
    have hb8_ := hall 8 (by kernel_rfl)
    have hb10_ := hall 10 (by kernel_rfl)
    have hb12_ := hall 12 (by kernel_rfl)
    have hb14_ := hall 14 (by kernel_rfl)
    have hb15_ := hall 15 (by kernel_rfl)
    have hb19_ := hall 19 (by kernel_rfl)
    have hb20_ := hall 20 (by kernel_rfl)
    have hb21_ := hall 21 (by kernel_rfl)
    have hb22_ := hall 22 (by kernel_rfl)
    have hb23_ := hall 23 (by kernel_rfl)
    have hb24_ := hall 24 (by kernel_rfl)
    subst ha
    simp only [putSel, hb2_, hb4_, hb6_, hb8_, hb10_, hb12_, hb14_, hb15_, hb19_, hb20_, hb21_, hb22_, hb23_, hb24_, if_true, Act.put, List.setIfInBounds_toArray, List.set_cons_zero, List.set_cons_succ]
    clear hall hb2_ hb4_ hb6_ hb8_ hb10_ hb12_ hb14_ hb15_ hb19_ hb20_ hb21_ hb22_ hb23_ hb24_
    have HB := Aside0.mk hB
    clear hB
    obtain ⟨has, hh⟩ : ∃ x, ms_has a0 a1 = x := ⟨_, rfl⟩
    have HH := Aside0.mk hh
    rw [hh]
    clear hh
    obtain ⟨val, hv⟩ : ∃ x, ms_val a0 a1 = x := ⟨_, rfl⟩
    have HV := Aside0.mk hv
    rw [hv]
    clear hv
    clear H0 H1 C1 C2
    cases a3 with
    | true => (go_wp2; go_ret; exact ⟨ms_ret (by unfold ms_out; rw [HH.out]; simp [HV.out]), HB.out⟩)
    | false =>
      cases has with
      | true => (go_wp2; go_ret; exact ⟨ms_ret (by unfold ms_out; rw [HH.out]; simp [HV.out]), HB.out⟩)
      | false =>
        cases a2 with
        | true =>
          by_cases c1 : a0 = 1
          · subst c1
            go_wp2; go_ret; exact ⟨ms_ret (by unfold ms_out; rw [HH.out]; simp [HV.out]), HB.out⟩
          · have c1b : (a0 == 1) = false := by simp [c1]
            have C1 := Aside0.mk c1
            clear c1
            by_cases c2 : a0 = 3
            · subst c2
              go_wp2; go_ret; exact ⟨ms_ret (by unfold ms_out; rw [HH.out]; simp [HV.out]), HB.out⟩
            · have c2b : (a0 == 3) = false := by simp [c2]
              have C2 := Aside0.mk c2
              clear c2
              go_wp2; go_ret; exact ⟨ms_ret (by unfold ms_out; rw [HH.out]; simp [C1.out, C2.out]), HB.out⟩
        | false =>
          by_cases c1 : a0 = 1
          · subst c1
            go_wp2; go_ret; exact ⟨ms_ret (by unfold ms_out; rw [HH.out]; simp [HV.out]), HB.out⟩
          · have c1b : (a0 == 1) = false := by simp [c1]
            have C1 := Aside0.mk c1
            clear c1
            by_cases c2 : a0 = 3
            · subst c2
              go_wp2; go_ret; exact ⟨ms_ret (by unfold ms_out; rw [HH.out]; simp [HV.out]), HB.out⟩
            · have c2b : (a0 == 3) = false := by simp [c2]
              have C2 := Aside0.mk c2
              clear c2
              go_wp2; go_ret; exact ⟨ms_ret (by unfold ms_out; rw [HH.out]; simp [C1.out, C2.out]), HB.out⟩
def ms_ok (a0 a1 : Int) : Bool := decide (0 ≤ a0 ∧ a0 ≤ 5) && decide (0 ≤ a1 ∧ a1 ≤ 4)
def impl_ModeStep.f (a0 a1 : Int) (a2 a3 : Bool) : Option Int := some (if ms_ok a0 a1 = true then ms_out a0 a1 a2 a3 else -1)
theorem impl_ModeStep.calls (a0 a1 : Int) (a2 a3 : Bool) (r : Int) (w : World) (h : impl_ModeStep.f a0 a1 a2 a3 = some r) :
    Calls Try.prog 86 #[.int .i64 a0, .int .i64 a1, .bool a2, .bool a3] w fun e w' => e = .returned (.int .i64 r) ∧ Below w.heap.size w w' := by
  have h := Option.some.inj h
  by_cases hk : ms_ok a0 a1 = true
  · rw [if_pos hk] at h
    subst h
    unfold ms_ok at hk
    rw [Bool.and_eq_true, decide_eq_true_eq, decide_eq_true_eq] at hk
    exact ms_in a0.toNat a1.toNat (by omega) (by omega) a0 a1 (by omega) (by omega) a2 a3 w
  · rw [if_neg hk] at h
    subst h
    have hk := Bool.eq_false_iff.2 hk
    unfold ms_ok at hk
    cases c1 : decide (0 ≤ a0 ∧ a0 ≤ 5) with
    | false =>
      have C1 := Aside0.mk c1
      clear c1 hk
      go_enter Try.func86, Try.ntmps86
      go_wp2_with (first | (go_at_call 74; (with_reducible refine (in_1 a0 0 5 _ _ C1.out).mono ?_); rintro e w' ⟨rfl, ⟨nd, rfl⟩⟩))
      go_ret
      exact ⟨rfl, by repeat (first | exact Below.refl _ _ | apply below_alloc | apply pw_below_drewN)⟩
    | true =>
      rw [c1, Bool.true_and] at hk
      have C1 := Aside0.mk c1
      have C2 := Aside0.mk hk
      clear c1 hk
      go_enter Try.func86, Try.ntmps86
      go_wp2_with (first | (go_at_call 74; (with_reducible refine (in_1 a0 0 5 _ _ C1.out).mono ?_); rintro e w' ⟨rfl, ⟨nd, rfl⟩⟩) | (go_at_call 74; (with_reducible refine (in_1 a1 0 4 _ _ C2.out).mono ?_); rintro e w' ⟨rfl, ⟨nd, rfl⟩⟩))
      go_ret
      exact ⟨rfl, by repeat (first | exact Below.refl _ _ | apply below_alloc | apply pw_below_drewN)⟩


/-! ### impl_ModeDistance: function 40 (own) -/
def tv_D : List Int → DataW Unit
  | [] => .map []
  | p :: ps => (tv_D ps).put (.int .i64 p) (.lit (.bool true))
theorem tv_D_map : ∀ ps, Go.Maps.IsMap (tv_D ps)
  | [] => Go.Maps.isMap_empty
  | p :: ps => (tv_D_map ps).put _ _
theorem tv_D_at (p : Int) : ∀ ps : List Int, (tv_D ps).atKey (.int .i64 p) (.lit (.bool false)) = .lit (.bool (ps.contains p))
  | [] => rfl
  | q :: ps => by
    by_cases e : p = q
    · subst e
      rw [tv_D, Go.Maps.atKey_put_same (tv_D_map ps) (k := .int .i64 p) (by simp [WideAt.IsKeyLit])]
      simp
    · rw [tv_D, Go.Maps.atKey_put_other (by simpa using e), tv_D_at p ps]
      simp [e]
section
variable {P : Program} {k : TypeId} {R : Value → Option (DataW Unit × List MemPlace)} {w w' : World} {b n : Nat} {D : DataW Unit}
theorem om_move (h : w.ownsMap P k R b n D) (e : w'.heap[b]? = w.heap[b]?) : w'.ownsMap P k R b n D := by
  obtain ⟨es, clock, hb, F, hs, hD⟩ := h
  exact ⟨es, clock, e.trans hb, F, hs, hD⟩
theorem om_below (h : w.ownsMap P k R b n D) (hb : Below w.heap.size w w') : w'.ownsMap P k R b n D := om_move h (hb.block b h.lt)
theorem om_set (h : w.ownsMap P k R b n D) {a : Addr} {v : Value} (hne : b ≠ a.block) : (w.setCell a v).ownsMap P k R b n D := om_move h (heap_setCell_other w a b v hne)
theorem om_drewN (h : w.ownsMap P k R b n D) (m : Nat) : (w.drewN m).ownsMap P k R b n D := h
theorem om_look {t e : TypeId} (h : w.ownsMap P k (plainElem P e) b n D) (K : Go.Maps.Keyed P k) (ht : P.underlying t = some (.map k e)) (he : P.underlying e = some .bool) (hz : (zeroValue e).run P w = .ok (.bool false) w)
    {key : Value} {kl : Lit} (hkey : keyOf P k key = some kl) (c : Bool) (hat : D.atKey kl (.lit (.bool false)) = .lit (.bool c)) : (Instr.lookup t (.map (some b)) key false).run P w = .ok (.bool c) w := by
  obtain ⟨v, ps, hrun, hv⟩ := h.lookup K ht hz (plainElem_bool he false) hkey
  rw [hat] at hv
  have : v = .bool c := by
    unfold plainElem at hv
    rw [he] at hv
    cases v <;> simp at hv
    rw [hv.1]
  rw [this] at hrun
  exact hrun
/-- The look-up at an operation, at elements of type bool. -/
theorem wpList_look {ops : Array Oper} {rest : List Oper} {o : Oper} {a : Act} {Q : Exit → Act → World → Prop}
    (hg : o.guard = none) (m x : Operand) (t : TypeId) (hop : o.op = Op.lookup t m x false) (mv key : Value) (hm : a.eval m = mv) (hx : a.eval x = key) (v : Value) (hrun : (Instr.lookup t mv key false).run P w = .ok v w)
    (hK : wpList P ops Q rest (a.put o.dst v) w) : wpList P ops Q (o :: rest) a w := by
  refine wpList_plain hg fun K' hK' => ?_
  unfold Oper.wp
  simp [execOp, hop, hm, hx, hrun, Result.andThen]
  exact hK' _ _ hK
end
theorem tv_zero (w : World) : (zeroValue 4).run Try.prog w = .ok (.bool false) w := by kernel_rfl

def md_D : List (Int × Int) → DataW Unit
  | [] => .map []
  | p :: ps => (md_D ps).put (.int .i64 p.1) (.lit (.int .i64 p.2))
theorem md_D_map : ∀ ps, Go.Maps.IsMap (md_D ps)
  | [] => Go.Maps.isMap_empty
  | p :: ps => (md_D_map ps).put _ _
def md_has : List (Int × Int) → Int → Bool
  | [], _ => false
  | p :: ps, x => p.1 == x || md_has ps x
def md_get : List (Int × Int) → Int → Int
  | [], _ => 0
  | p :: ps, x => if p.1 = x then p.2 else md_get ps x
theorem md_D_at (x : Int) : ∀ ps : List (Int × Int), (md_D ps).atKey (.int .i64 x) (.lit (.int .i64 0)) = .lit (.int .i64 (md_get ps x))
  | [] => rfl
  | p :: ps => by
    by_cases e : p.1 = x
    · subst e
      rw [md_D, Go.Maps.atKey_put_same (md_D_map ps) (k := .int .i64 p.1) (by simp [WideAt.IsKeyLit]), md_get, if_pos rfl]
    · rw [md_D, Go.Maps.atKey_put_other (by simpa using fun h => e h.symm), md_D_at x ps, md_get, if_neg e]
theorem md_D_has (x : Int) : ∀ ps : List (Int × Int), Go.Maps.has (md_D ps) (.int .i64 x) = md_has ps x
  | [] => rfl
  | p :: ps => by
    by_cases e : p.1 = x
    · subst e
      rw [md_D, Go.Maps.has_put_same (md_D_map ps) (k := .int .i64 p.1) (by simp [WideAt.IsKeyLit]), md_has]
      simp
    · rw [md_D, Go.Maps.has_put_other (by simpa using fun h => e h.symm), md_D_has x ps, md_has]
      simp [e]
abbrev MDS := List (Int × Int) × List Int
def md_next (m c : Int) (d : Bool) : Int := if ms_ok m c = true then ms_out m c d false else -1
def md_st (m c : Int) (d : Bool) (s : MDS) : MDS := if md_has s.1 (md_next m c d) = true then s else ((md_next m c d, wrap64 (md_get s.1 m + 1)) :: s.1, s.2 ++ [md_next m c d])
def md_cmds (m : Int) : Nat → MDS → MDS
  | 0, s => s
  | n + 1, s => md_cmds m n (md_st m (4 - n) true (md_st m (4 - n) false s))
def md_rest (m c : Int) : Nat → MDS → MDS
  | 0, s => md_st m c true (md_st m c false s)
  | 1, s => md_st m c true s
  | _, s => s
def md_go : Nat → MDS → Option (List (Int × Int))
  | 0, _ => none
  | _ + 1, (far, []) => some far
  | k + 1, (far, m :: t) => md_go k ((md_cmds m 5 (far, m :: t)).1, (md_cmds m 5 (far, m :: t)).2.drop 1)
def impl_ModeDistance.f (a b : Int) : Option Int := if (0 ≤ a ∧ a ≤ 5) ∧ (0 ≤ b ∧ b ≤ 5) then (md_go 10 ([(a, 0)], [a])).bind fun far => some (if md_has far b = true then md_get far b else -1) else some (-1)
theorem ms_val_range (m c : Int) : 0 ≤ ms_val m c ∧ ms_val m c ≤ 5 := by
  have key : ∀ (a b j : Nat) (v : Int), ms_tbl a b = some (j, v) → 0 ≤ v ∧ v ≤ 5 := by
    intro a b j v h
    unfold ms_tbl at h
    repeat' split at h
    all_goals first
      | (cases h; omega)
      | cases h
  unfold ms_val
  split
  · rename_i h
    exact key _ _ _ _ h
  · omega
theorem md_next_range (m c : Int) (d : Bool) (hm : -1 ≤ m ∧ m ≤ 5) : -1 ≤ md_next m c d ∧ md_next m c d ≤ 5 := by
  have hv := ms_val_range m c
  unfold md_next ms_out
  repeat' split
  all_goals omega
theorem md_st_len (m c : Int) (d : Bool) (s : MDS) (B : Nat) (h : s.1.length ≤ B ∧ s.2.length ≤ B) : (md_st m c d s).1.length ≤ B + 1 ∧ (md_st m c d s).2.length ≤ B + 1 := by
  unfold md_st
  split
  · omega
  · simp
    omega
theorem md_st_in (m c : Int) (d : Bool) (s : MDS) (hm : -1 ≤ m ∧ m ≤ 5) (h : ∀ x ∈ s.2, -1 ≤ x ∧ x ≤ 5) : ∀ x ∈ (md_st m c d s).2, -1 ≤ x ∧ x ≤ 5 := by
  unfold md_st
  split
  · exact h
  · intro x hx
    rcases List.mem_append.1 hx with g | g
    · exact h x g
    · rw [List.mem_singleton.1 g]
      exact md_next_range m c d hm
theorem md_st_ge (m c : Int) (d : Bool) (s : MDS) : s.2.length ≤ (md_st m c d s).2.length := by
  unfold md_st
  split
  · exact Nat.le_refl _
  · simp
theorem md_wf (x : Int) : (Lit.int .i64 (wrap64 x)).wf = true := by
  simp [Lit.wf, IntKind.min, IntKind.max, IntKind.signed, IntKind.bits]
  unfold wrap64
  omega
theorem md_key (x : Int) (h : -1 ≤ x ∧ x ≤ 5) : keyOf Try.prog 3 (.int .i64 x) = some (.int .i64 x) := Go.Maps.keyOf_int_mk (P := Try.prog) (q := .i64) (a := x) Try.underlying3 (by simp [Lit.wf, IntKind.min, IntKind.max, IntKind.signed, IntKind.bits]; omega)
theorem md_zero (w : World) : (zeroValue 3).run Try.prog w = .ok (.int .i64 0) w := by kernel_rfl
theorem wpList_ins {P : Program} {H : Type} (w : World) {ops : Array Oper} {rest : List Oper} {o : Oper} {act : Act} {Q : Exit → Act → World → Prop}
    (hg : o.guard = none) (m x v : Operand) (t : TypeId) (hop : o.op = Op.insert t m x v)
    (k e : TypeId) (K : Go.Maps.Keyed P k) (ht : P.underlying t = some (.map k e)) (R : Value → Option (DataW H × List MemPlace)) (b n : Nat) (D : DataW H)
    (hm : act.eval m = .map (some b)) (hown : w.ownsMap P k R b n D) (hn : n < maxLen) (key val : Value) (kl : Lit) (hx : act.eval x = key) (hv : act.eval v = val) (hkey : keyOf P k key = some kl)
    (d : DataW H) (ps : List MemPlace) (hval : R val = some (d, ps))
    (hK : ∀ w', w'.ownsMap P k R b (n + 1) (D.put kl d) → w.grownBy w' (some b) → wpList P ops Q rest (act.put o.dst undef) w') :
    wpList P ops Q (o :: rest) act w := by
  refine wpList_plain hg fun K' hK' => ?_
  obtain ⟨w', hrun, r1, r2⟩ := hown.update K ht hn hkey hval
  unfold Oper.wp
  simp [execOp, hop, hm, hx, hv, hrun, Result.andThen]
  exact hK' _ _ (hK w' r1 r2)
set_option maxHeartbeats 16000000 in
set_option maxRecDepth 100000 in
theorem impl_ModeDistance.calls (a b r : Int) (w : World) (h : impl_ModeDistance.f a b = some r) :
    Calls Try.prog 40 #[.int .i64 a, .int .i64 b] w fun e w' => e = .returned (.int .i64 r) ∧ Below w.heap.size w w' := by
  unfold impl_ModeDistance.f at h
  have law3 := Aside0.mk (Go.Maps.int_keyed (P := Try.prog) Try.underlying3)
  cases c1 : decide (0 ≤ a ∧ a ≤ 5) with
  | false =>
    rw [if_neg (fun g => absurd g.1 (of_decide_eq_false c1))] at h
    obtain rfl := Option.some.inj h
    have C1 := Aside0.mk c1
    clear c1 h
    go_enter Try.func40, Try.ntmps40
    go_wp2_with (first | (go_at_call 74; (with_reducible refine (in_1 a 0 5 _ _ C1.out).mono ?_); rintro e w' ⟨rfl, ⟨nd, rfl⟩⟩))
    go_ret
    exact ⟨rfl, by repeat (first | exact Below.refl _ _ | apply below_alloc | apply pw_below_drewN)⟩
  | true =>
    cases c2 : decide (0 ≤ b ∧ b ≤ 5) with
    | false =>
      rw [if_neg (fun g => absurd g.2 (of_decide_eq_false c2))] at h
      obtain rfl := Option.some.inj h
      have C1 := Aside0.mk c1
      have C2 := Aside0.mk c2
      clear c1 c2 h
      go_enter Try.func40, Try.ntmps40
      go_wp2_with (first | (go_at_call 74; (with_reducible refine (in_1 a 0 5 _ _ C1.out).mono ?_); rintro e w' ⟨rfl, ⟨nd, rfl⟩⟩) | (go_at_call 74; (with_reducible refine (in_1 b 0 5 _ _ C2.out).mono ?_); rintro e w' ⟨rfl, ⟨nd, rfl⟩⟩))
      go_ret
      exact ⟨rfl, by repeat (first | exact Below.refl _ _ | apply below_alloc | apply pw_below_drewN)⟩
    | true =>
      rw [if_pos ⟨of_decide_eq_true c1, of_decide_eq_true c2⟩] at h
      obtain ⟨fin, hgo, hr⟩ := Option.bind_eq_some_iff.mp h
      have hra : -1 ≤ a ∧ a ≤ 5 := by have := of_decide_eq_true c1; omega
      have hrb : -1 ≤ b ∧ b ≤ 5 := by have := of_decide_eq_true c2; omega
      have GO := Aside0.mk hgo
      have HR := Aside0.mk (Option.some.inj hr)
      have C1 := Aside0.mk c1
      have C2 := Aside0.mk c2
      have RA := Aside0.mk hra
      have RB := Aside0.mk hrb
      have KA := Aside0.mk (md_key a hra)
      have KB := Aside0.mk (md_key b hrb)
      clear c1 c2 h hgo hr hra hrb
      have hmm := @run_makeMap Try.prog
      go_enter Try.func40, Try.ntmps40
      go_wp2_with (first | (go_at_call 74; (with_reducible refine (in_1 a 0 5 _ _ C1.out).mono ?_); rintro e w' ⟨rfl, ⟨nd, rfl⟩⟩) | (go_at_call 74; (with_reducible refine (in_1 b 0 5 _ _ C2.out).mono ?_); rintro e w' ⟨rfl, ⟨nd, rfl⟩⟩) | (refine wpList_ins _ rfl _ _ _ 109 rfl 3 3 law3.out Try.underlying109 (plainElem (H := Unit) Try.prog 3) w.heap.size 0 (.map []) rfl (World.ownsMap_made _ _ _ _) (by decide) (.int .i64 a) (.int .i64 0) (.int .i64 a) rfl rfl KA.out (.lit (.int .i64 0)) [] (plainElem_int Try.underlying3 (by decide)) ?_; intro w1 hown1 hg1; have B1 : Aside0 (Below w.heap.size w w1) := ⟨pw_below_grown (by repeat (first | exact Below.refl _ _ | apply below_alloc | apply pw_below_drewN)) _ (below_size (by repeat (first | exact Below.refl _ _ | apply below_alloc | apply pw_below_drewN))) hg1 (fun k hk => by cases hk; exact Nat.le_refl _)⟩; have HM1 := Aside0.mk hown1; clear hown1 hg1) | ((with_reducible refine gate_dst (N := 28) rfl ?_); refine Kd.R_lit (Kd.int .i64) _ 3 ?hg (N := 28) ?hd (xs := ([a] : List Int)) (inner := [.int .i64 a]) (ok := fun _ => True) (okp := fun _ => True) ?hr ?hp (fun _ hk => hk) trivial (Below.refl _ _) (Nat.le_refl _) (by simp) ?_; (case hd => rfl); (case hg => rfl); (case hr => first | (go_simp; done) | (go_simp; rfl)); (case hp => exact (Reps.one (show Kd.M (Kd.int .i64) _ _ _ a [.int .i64 a] from rfl) (Reps.none _ _))); intro v3 w3 ho hb hg_ hnew_; clear hg_ hnew_; have HQ0 : Aside0 (Kd.Q (Kd.int .i64) 3 w3 w.heap.size (fun k_ => k_ ≠ w.heap.size) v3 [a]) := ⟨Kd.Q_lower (Kd.Q_mono (Kd.Q_bound (Kd.Q_of_R ho)) (fun k hk => by have := hk.2.1; have := HM1.out.lt; omega)) (Nat.le_of_lt HM1.out.lt)⟩; have HM2 := Aside0.mk (om_below HM1.out hb); have B2 := Aside0.mk (below_step B1.out hb); clear ho hb HM1 B1))
      clear hmm
      have HX0 : Aside0 (∀ x ∈ ([a] : List Int), -1 ≤ x ∧ x ≤ 5) := ⟨fun x hx => by rw [List.mem_singleton.1 hx]; exact RA.out⟩
      go_loopg [6] 10 (fun gg s6 wr => ∃ (k : Nat) (s : MDS), k ≤ gg ∧ Aside0 (md_go k s = some fin) ∧ Aside0 (wr.ownsMap Try.prog 3 (plainElem (H := Unit) Try.prog 3) w.heap.size s.1.length (md_D s.1)) ∧ Aside0 (Kd.Q (Kd.int .i64) 3 wr w.heap.size (fun k_ => k_ ≠ w.heap.size) s6 s.2) ∧ Aside0 (Below w.heap.size w wr) ∧ Aside0 (s.1.length + 20 * k ≤ 400 ∧ s.2.length + 20 * k ≤ 400) ∧ Aside0 (∀ x ∈ s.2, -1 ≤ x ∧ x ≤ 5))
      case atStart => exact ⟨10, ([(a, 0)], [a]), by omega, GO, HM2, HQ0, B2, ⟨by simp⟩, HX0⟩
      case round =>
        clear HM2 HQ0 B2 HX0 GO C1 C2 KA RA
        obtain ⟨k, ⟨far, todo⟩, hk, GO, HM, HQ, HB, HS, HX⟩ := hrel
        rcases k with _ | k
        · exact absurd GO.out (by simp [md_go])
        rcases todo with _ | ⟨m, t⟩
        · have hfin : far = fin := Option.some.inj GO.out
          subst hfin
          obtain ⟨A, c, e, _⟩ := Kd.Q_slice HQ.out
          subst e
          clear GO HQ HX HS
          cases hh : md_has far b with
          | true =>
            have hr := HR.out
            rw [if_pos hh] at hr
            subst hr
            have HH := Aside0.mk ((md_D_has b far).trans hh)
            clear hh HR
            go_wp2_with (first | (refine wpList_lookup_own_ok_int _ rfl _ _ 109 rfl 3 3 .i64 law3.out Try.underlying109 Try.underlying3 (md_zero _) w.heap.size far.length (md_D far) rfl HM.out (.int .i64 b) (.int .i64 b) rfl KB.out ?_; rw [HH.out]; intro c hat hwc; rw [md_D_at] at hat; obtain rfl : md_get far b = c := (by simpa using hat); clear hat hwc))
            go_ret
            exact ⟨rfl, HB.out⟩
          | false =>
            have hr := HR.out
            rw [if_neg (by rw [hh]; simp)] at hr
            subst hr
            have HH := Aside0.mk ((md_D_has b far).trans hh)
            clear hh HR
            go_wp2_with (first | (refine wpList_lookup_own_ok_int _ rfl _ _ 109 rfl 3 3 .i64 law3.out Try.underlying109 Try.underlying3 (md_zero _) w.heap.size far.length (md_D far) rfl HM.out (.int .i64 b) (.int .i64 b) rfl KB.out ?_; rw [HH.out]; intro c hat hwc; clear hat hwc))
            go_ret
            exact ⟨rfl, HB.out⟩
        · obtain ⟨A, c, e, _⟩ := Kd.Q_slice HQ.out
          subst e
          obtain ⟨ad, e, hx0⟩ := Kd.at_int (Kd.Q_reads' HQ.out).2.2 0 (by decide) (by simp)
          cases e
          have hx1 : wr.cell? ad = some (.int .i64 m) := (show ad.add 0 = ad from rfl) ▸ hx0
          clear hx0
          have HM0 : Aside0 (wr.ownsMap Try.prog 3 (plainElem (H := Unit) Try.prog 3) w.heap.size far.length (md_D far)) := HM
          have HQ0 : Aside0 (Kd.Q (Kd.int .i64) 3 wr w.heap.size (fun k_ => k_ ≠ w.heap.size) (.slice (some ad) (t.length + 1) c) (m :: t)) := HQ
          have HRM : Aside0 (-1 ≤ m ∧ m ≤ 5) := ⟨HX.out m (List.mem_cons_self)⟩
          have HX1 : Aside0 (∀ x ∈ m :: t, -1 ≤ x ∧ x ≤ 5) := HX
          have HS1 : Aside0 (far.length + 20 * k + 10 ≤ 400 ∧ (m :: t).length + 20 * k + 10 ≤ 400 ∧ 1 ≤ (m :: t).length) := ⟨by have := HS.out; simp only [List.length_cons] at this ⊢; omega⟩
          have GO1 : Aside0 (md_go k ((md_cmds m 5 (far, m :: t)).1, (md_cmds m 5 (far, m :: t)).2.drop 1) = some fin) := GO
          clear HM HQ HX HS GO
          obtain ⟨S1, hS1⟩ : ∃ S1 : MDS, md_cmds m 5 (far, m :: t) = S1 := ⟨_, rfl⟩
          rw [hS1] at GO1
          have HC := Aside0.mk hS1
          clear hS1
          have KM := Aside0.mk (md_key m HRM.out)
          go_wp2
          go_loopg [6, 8] 5 (fun gg s6 s8 wz => ∃ (n : Nat) (s : MDS), n ≤ gg ∧ n ≤ 5 ∧ s8 = .int .i64 (5 - n) ∧ Aside0 (md_cmds m n s = S1) ∧ Aside0 (wz.ownsMap Try.prog 3 (plainElem (H := Unit) Try.prog 3) w.heap.size s.1.length (md_D s.1)) ∧ Aside0 (Kd.Q (Kd.int .i64) 3 wz w.heap.size (fun k_ => k_ ≠ w.heap.size) s6 s.2) ∧ Aside0 (Below w.heap.size w wz) ∧ Aside0 (s.1.length + 20 * k + 2 * n ≤ 400 ∧ s.2.length + 20 * k + 2 * n ≤ 400 ∧ 1 ≤ s.2.length) ∧ Aside0 (∀ x ∈ s.2, -1 ≤ x ∧ x ≤ 5))
          case atStart => exact ⟨5, (far, m :: t), by omega, by omega, rfl, HC, HM0, HQ0, HB, HS1, HX1⟩
          case round =>
            clear HM0 HQ0 HB HX1 HS1 hx1 HC
            obtain ⟨n, s, hn, hn5, rfl, HC, HM, HQ, HB, HS, HX⟩ := hrel
            obtain ⟨A, c6, e, hc6⟩ := Kd.Q_slice HQ.out
            subst e
            rcases n with _ | n
            · have hs : s = S1 := HC.out
              subst hs
              have hge : (1 : Int) ≤ (s.2.length : Int) := by have := HS.out; omega
              by_cases hc1 : c6 = 1
              · have HQd := Aside0.mk (Kd.Q_drop HQ.out (k := 1) (by have := HS.out; omega))
                rw [if_pos hc1, hc1] at HQd
                go_wp2
                go_roundg k
                case measure => omega
                case rel => exact ⟨k, (s.1, s.2.drop 1), by omega, GO1, HM, HQd, HB, ⟨by have := HS.out; simp only [List.length_drop]; omega⟩, ⟨fun x hx => HX.out x (List.mem_of_mem_drop hx)⟩⟩
              · have HQd := Aside0.mk (Kd.Q_drop HQ.out (k := 1) (by have := HS.out; omega))
                rw [if_neg hc1] at HQd
                go_wp2
                go_roundg k
                case measure => omega
                case rel => exact ⟨k, (s.1, s.2.drop 1), by omega, GO1, HM, HQd, HB, ⟨by have := HS.out; simp only [List.length_drop]; omega⟩, ⟨fun x hx => HX.out x (List.mem_of_mem_drop hx)⟩⟩
            · obtain ⟨cm, hcm⟩ : ∃ cm : Int, 5 - ((n + 1 : Nat) : Int) = cm := ⟨_, rfl⟩
              have hcm4 : (4 : Int) - (n : Int) = cm := by omega
              have hle : (cm ≤ 4) = True := eq_true (by omega)
              have hled : decide (cm ≤ 4) = true := decide_eq_true (by omega)
              have HC2 : Aside0 (md_cmds m n (md_rest m cm 0 s) = S1) := ⟨by rw [← hcm4]; exact HC.out⟩
              have HCM := Aside0.mk hcm
              rw [hcm]
              clear hcm hcm4 HC
              go_wp2
              have BK0 : Aside0 ((wr.alloc (.cells #[.bool false, .bool true] 4)).heap[wr.heap.size]? = some (.cells #[.bool false, .bool true] 4 (0, 0))) := ⟨heap_alloc_new wr _⟩
              have HM1 := Aside0.mk (om_below HM.out (below_alloc (Below.refl wr.heap.size wr) (.cells #[.bool false, .bool true] 4)))
              have HQ1 := Aside0.mk (Kd.Q_below HQ.out (below_alloc (Below.refl wr.heap.size wr) (.cells #[.bool false, .bool true] 4)))
              have HB1 := Aside0.mk (below_alloc HB.out (.cells #[.bool false, .bool true] 4))
              have NE : Aside0 (w.heap.size ≠ wr.heap.size) := ⟨Nat.ne_of_lt HM.out.lt⟩
              have HS1 : Aside0 (s.1.length + 20 * k + 2 * n + (2 - 0) ≤ 400 ∧ s.2.length + 20 * k + 2 * n + (2 - 0) ≤ 400 ∧ 1 ≤ s.2.length) := ⟨by have := HS.out; omega⟩
              clear HM HQ HB HS
              generalize wr.alloc (.cells #[.bool false, .bool true] 4) = wx at BK0 HM1 HQ1 HB1 ⊢
              generalize wr.heap.size = g41 at BK0 NE ⊢
              go_loopg [6, 43] 2 (fun gg s6 s43 wq => ∃ (j : Nat) (s : MDS), j ≤ 2 ∧ 2 - j ≤ gg ∧ s43 = .int .i64 j ∧ Aside0 (md_cmds m n (md_rest m cm j s) = S1) ∧ Aside0 (wq.ownsMap Try.prog 3 (plainElem (H := Unit) Try.prog 3) w.heap.size s.1.length (md_D s.1)) ∧ Aside0 (Kd.Q (Kd.int .i64) 3 wq w.heap.size (fun k_ => k_ ≠ w.heap.size) s6 s.2) ∧ Aside0 (Below w.heap.size w wq) ∧ Aside0 (s.1.length + 20 * k + 2 * n + (2 - j) ≤ 400 ∧ s.2.length + 20 * k + 2 * n + (2 - j) ≤ 400 ∧ 1 ≤ s.2.length) ∧ Aside0 (∀ x ∈ s.2, -1 ≤ x ∧ x ≤ 5) ∧ Aside0 (wq.heap[g41]? = some (.cells #[.bool false, .bool true] 4 (0, 0))))
              case atStart => exact ⟨0, s, by omega, by omega, rfl, HC2, HM1, HQ1, HB1, HS1, HX, BK0⟩
              case round =>
                clear HM1 HQ1 HB1 HS1 HX BK0 HC2
                obtain ⟨j, s, hj, hjg, rfl, HC, HM, HQ, HB, HS, HX, BK⟩ := hrel
                obtain ⟨A, c6, e, hc6⟩ := Kd.Q_slice HQ.out
                subst e
                rcases j with _ | _ | _ | j
                · have hz : wr.cell? ⟨g41, 0, none⟩ = some (.bool false) := (blk_cell BK.out 0).trans rfl
                  go_wp2_with fail
                  refine (impl_ModeStep.calls m cm false false (md_next m cm false) _ rfl).mono ?_
                  rintro e w5 ⟨rfl, hb⟩
                  have HM5 := Aside0.mk (om_below HM.out hb)
                  have HQ5 := Aside0.mk (Kd.Q_below HQ.out hb)
                  have BK5 := Aside0.mk (blk_below (g := g41) (o := .cells #[.bool false, .bool true] 4 (0, 0)) BK.out hb)
                  have HB5 := Aside0.mk (below_step HB.out hb)
                  clear HM HQ BK HB hb hz
                  have hnr := md_next_range m cm false HRM.out
                  have hst : md_rest m cm 0 s = md_rest m cm 1 (md_st m cm false s) := rfl
                  have hsl : md_st m cm false s = if md_has s.1 (md_next m cm false) = true then s else ((md_next m cm false, wrap64 (md_get s.1 m + 1)) :: s.1, s.2 ++ [md_next m cm false]) := rfl
                  generalize md_next m cm false = nx at hnr hsl ⊢
                  have KN := Aside0.mk (md_key nx hnr)
                  have NR := Aside0.mk hnr
                  clear hnr
                  cases hh : md_has s.1 nx with
                  | true =>
                    rw [if_pos hh] at hsl
                    have HCn : Aside0 (md_cmds m n (md_rest m cm 1 s) = S1) := ⟨by rw [← HC.out, hst, hsl]⟩
                    have HH := Aside0.mk ((md_D_has nx s.1).trans hh)
                    clear hh hsl hst HC
                    go_wp2_with (first | (refine wpList_lookup_own_ok_int _ rfl _ _ 109 rfl 3 3 .i64 law3.out Try.underlying109 Try.underlying3 (md_zero _) w.heap.size s.1.length (md_D s.1) rfl HM5.out (.int .i64 nx) (.int .i64 nx) rfl KN.out ?_; rw [HH.out]; intro c hat hwc; clear hat hwc))
                    go_roundg (2 - 1)
                    case measure => omega
                    case rel => exact ⟨1, s, by omega, by omega, rfl, HCn, HM5, HQ5, HB5, ⟨by have := HS.out; omega⟩, HX, BK5⟩
                  | false =>
                    rw [if_neg (by rw [hh]; simp)] at hsl
                    have HCn : Aside0 (md_cmds m n (md_rest m cm 1 ((nx, wrap64 (md_get s.1 m + 1)) :: s.1, s.2 ++ [nx])) = S1) := ⟨by rw [← HC.out, hst, hsl]⟩
                    have HH := Aside0.mk ((md_D_has nx s.1).trans hh)
                    clear hh hsl hst HC
                    go_wp2_with (first | (refine wpList_lookup_own_ok_int _ rfl _ _ 109 rfl 3 3 .i64 law3.out Try.underlying109 Try.underlying3 (md_zero _) w.heap.size s.1.length (md_D s.1) rfl HM5.out (.int .i64 nx) (.int .i64 nx) rfl KN.out ?_; rw [HH.out]; intro c hat hwc; clear hat hwc) | (refine wpList_lookup_own_int _ rfl _ _ 109 rfl 3 3 .i64 law3.out Try.underlying109 Try.underlying3 (md_zero _) w.heap.size s.1.length (md_D s.1) rfl HM5.out (.int .i64 m) (.int .i64 m) rfl KM.out ?_; intro c hat hwc; rw [md_D_at] at hat; obtain rfl : md_get s.1 m = c := (by simpa using hat); clear hat hwc) | (at_mapUpdate; refine wpList_mapUpdate_own _ rfl _ _ _ 109 rfl 3 3 law3.out Try.underlying109 (plainElem (H := Unit) Try.prog 3) w.heap.size s.1.length (md_D s.1) rfl HM5.out (by have := HS.out; unfold maxLen; omega) (.int .i64 nx) (.int .i64 (wrap64 (md_get s.1 m + 1))) (.int .i64 nx) rfl rfl KN.out (.lit (.int .i64 (wrap64 (md_get s.1 m + 1)))) [] (plainElem_int Try.underlying3 (md_wf _)) ?_; intro w6 hown6 hg6; have HM6 := Aside0.mk hown6; have HQ6 := Aside0.mk (Kd.Q_grown1 HQ5.out rfl hg6 (fun e => HQ5.out.1 _ e.symm rfl)); have BK6 := Aside0.mk (blk_grown (g := g41) (o := .cells #[.bool false, .bool true] 4 (0, 0)) BK5.out hg6 (fun e => NE.out (Option.some.inj e).symm)); have HB6 := Aside0.mk (pw_below_grown HB5.out _ (below_size HB5.out) hg6 (fun k hk => by cases hk; exact Nat.le_refl _)); clear hown6 hg6) | ((with_reducible refine gate_builtin (b := .append) (xs := #[.tmp 65, .tmp 67]) rfl ?_); at_builtin; refine Kd.Q_append (Kd.int .i64) (w0 := w) w.heap.size rfl (.tmp 65) (.tmp 67) 58 3 (.int .i64 0) 8 rfl Try.underlying58 (by kernel_rfl) rfl (by decide) (by decide) (.slice A s.2.length c6) s.2 nx [.int .i64 nx] (fun k_ => k_ ≠ w.heap.size) (fun _ => False) rfl rfl ?aP (fun _ hk => hk.elim) ?aF ?aO ?aB ?aS ?aL ?_; (case aP => exact rfl); (case aB => exact HB6.out); (case aF => exact (fun k hk => by have := HM6.out.lt; omega)); (case aO => exact HQ6.out); (case aS => exact (below_size HB6.out)); (case aL => have := HS.out; omega); intro v7 w7 ho hb7 hg7 hat7; have HQ7 := Aside0.mk ho; have HB7 := Aside0.mk hb7; have HM7 := Aside0.mk (om_move HM6.out (hg7.block _ HM6.out.lt (fun e => HQ6.out.1 _ e.symm rfl))); have BK7 := Aside0.mk (blk_grown (g := g41) (o := .cells #[.bool false, .bool true] 4 (0, 0)) BK6.out hg7 (Kd.Q_ne HQ6.out BK6.out (by decide))); clear ho hb7 hg7 hat7))
                    go_roundg (2 - 1)
                    case measure => omega
                    case rel => exact ⟨1, ((nx, wrap64 (md_get s.1 m + 1)) :: s.1, s.2 ++ [nx]), by omega, by omega, rfl, HCn, HM7, HQ7, HB7, ⟨by have := HS.out; simp only [List.length_cons, List.length_append, List.length_nil]; omega⟩, ⟨fun x hx => (List.mem_append.1 hx).elim (HX.out x) (fun g => by rw [List.mem_singleton.1 g]; exact NR.out)⟩, BK7⟩
                · have hz : wr.cell? ⟨g41, 1, none⟩ = some (.bool true) := (blk_cell BK.out 1).trans rfl
                  go_wp2_with fail
                  refine (impl_ModeStep.calls m cm true false (md_next m cm true) _ rfl).mono ?_
                  rintro e w5 ⟨rfl, hb⟩
                  have HM5 := Aside0.mk (om_below HM.out hb)
                  have HQ5 := Aside0.mk (Kd.Q_below HQ.out hb)
                  have BK5 := Aside0.mk (blk_below (g := g41) (o := .cells #[.bool false, .bool true] 4 (0, 0)) BK.out hb)
                  have HB5 := Aside0.mk (below_step HB.out hb)
                  clear HM HQ BK HB hb hz
                  have hnr := md_next_range m cm true HRM.out
                  have hst : md_rest m cm 1 s = md_rest m cm 2 (md_st m cm true s) := rfl
                  have hsl : md_st m cm true s = if md_has s.1 (md_next m cm true) = true then s else ((md_next m cm true, wrap64 (md_get s.1 m + 1)) :: s.1, s.2 ++ [md_next m cm true]) := rfl
                  generalize md_next m cm true = nx at hnr hsl ⊢
                  have KN := Aside0.mk (md_key nx hnr)
                  have NR := Aside0.mk hnr
                  clear hnr
                  cases hh : md_has s.1 nx with
                  | true =>
                    rw [if_pos hh] at hsl
                    have HCn : Aside0 (md_cmds m n (md_rest m cm 2 s) = S1) := ⟨by rw [← HC.out, hst, hsl]⟩
                    have HH := Aside0.mk ((md_D_has nx s.1).trans hh)
                    clear hh hsl hst HC
                    go_wp2_with (first | (refine wpList_lookup_own_ok_int _ rfl _ _ 109 rfl 3 3 .i64 law3.out Try.underlying109 Try.underlying3 (md_zero _) w.heap.size s.1.length (md_D s.1) rfl HM5.out (.int .i64 nx) (.int .i64 nx) rfl KN.out ?_; rw [HH.out]; intro c hat hwc; clear hat hwc))
                    go_roundg (2 - 2)
                    case measure => omega
                    case rel => exact ⟨2, s, by omega, by omega, rfl, HCn, HM5, HQ5, HB5, ⟨by have := HS.out; omega⟩, HX, BK5⟩
                  | false =>
                    rw [if_neg (by rw [hh]; simp)] at hsl
                    have HCn : Aside0 (md_cmds m n (md_rest m cm 2 ((nx, wrap64 (md_get s.1 m + 1)) :: s.1, s.2 ++ [nx])) = S1) := ⟨by rw [← HC.out, hst, hsl]⟩
                    have HH := Aside0.mk ((md_D_has nx s.1).trans hh)
                    clear hh hsl hst HC
                    go_wp2_with (first | (refine wpList_lookup_own_ok_int _ rfl _ _ 109 rfl 3 3 .i64 law3.out Try.underlying109 Try.underlying3 (md_zero _) w.heap.size s.1.length (md_D s.1) rfl HM5.out (.int .i64 nx) (.int .i64 nx) rfl KN.out ?_; rw [HH.out]; intro c hat hwc; clear hat hwc) | (refine wpList_lookup_own_int _ rfl _ _ 109 rfl 3 3 .i64 law3.out Try.underlying109 Try.underlying3 (md_zero _) w.heap.size s.1.length (md_D s.1) rfl HM5.out (.int .i64 m) (.int .i64 m) rfl KM.out ?_; intro c hat hwc; rw [md_D_at] at hat; obtain rfl : md_get s.1 m = c := (by simpa using hat); clear hat hwc) | (at_mapUpdate; refine wpList_mapUpdate_own _ rfl _ _ _ 109 rfl 3 3 law3.out Try.underlying109 (plainElem (H := Unit) Try.prog 3) w.heap.size s.1.length (md_D s.1) rfl HM5.out (by have := HS.out; unfold maxLen; omega) (.int .i64 nx) (.int .i64 (wrap64 (md_get s.1 m + 1))) (.int .i64 nx) rfl rfl KN.out (.lit (.int .i64 (wrap64 (md_get s.1 m + 1)))) [] (plainElem_int Try.underlying3 (md_wf _)) ?_; intro w6 hown6 hg6; have HM6 := Aside0.mk hown6; have HQ6 := Aside0.mk (Kd.Q_grown1 HQ5.out rfl hg6 (fun e => HQ5.out.1 _ e.symm rfl)); have BK6 := Aside0.mk (blk_grown (g := g41) (o := .cells #[.bool false, .bool true] 4 (0, 0)) BK5.out hg6 (fun e => NE.out (Option.some.inj e).symm)); have HB6 := Aside0.mk (pw_below_grown HB5.out _ (below_size HB5.out) hg6 (fun k hk => by cases hk; exact Nat.le_refl _)); clear hown6 hg6) | ((with_reducible refine gate_builtin (b := .append) (xs := #[.tmp 65, .tmp 67]) rfl ?_); at_builtin; refine Kd.Q_append (Kd.int .i64) (w0 := w) w.heap.size rfl (.tmp 65) (.tmp 67) 58 3 (.int .i64 0) 8 rfl Try.underlying58 (by kernel_rfl) rfl (by decide) (by decide) (.slice A s.2.length c6) s.2 nx [.int .i64 nx] (fun k_ => k_ ≠ w.heap.size) (fun _ => False) rfl rfl ?aP (fun _ hk => hk.elim) ?aF ?aO ?aB ?aS ?aL ?_; (case aP => exact rfl); (case aB => exact HB6.out); (case aF => exact (fun k hk => by have := HM6.out.lt; omega)); (case aO => exact HQ6.out); (case aS => exact (below_size HB6.out)); (case aL => have := HS.out; omega); intro v7 w7 ho hb7 hg7 hat7; have HQ7 := Aside0.mk ho; have HB7 := Aside0.mk hb7; have HM7 := Aside0.mk (om_move HM6.out (hg7.block _ HM6.out.lt (fun e => HQ6.out.1 _ e.symm rfl))); have BK7 := Aside0.mk (blk_grown (g := g41) (o := .cells #[.bool false, .bool true] 4 (0, 0)) BK6.out hg7 (Kd.Q_ne HQ6.out BK6.out (by decide))); clear ho hb7 hg7 hat7))
                    go_roundg (2 - 2)
                    case measure => omega
                    case rel => exact ⟨2, ((nx, wrap64 (md_get s.1 m + 1)) :: s.1, s.2 ++ [nx]), by omega, by omega, rfl, HCn, HM7, HQ7, HB7, ⟨by have := HS.out; simp only [List.length_cons, List.length_append, List.length_nil]; omega⟩, ⟨fun x hx => (List.mem_append.1 hx).elim (HX.out x) (fun g => by rw [List.mem_singleton.1 g]; exact NR.out)⟩, BK7⟩
                · go_wp2
                  go_roundg n
                  case measure => omega
                  case rel => exact ⟨n, s, by omega, by omega, congrArg (Value.int .i64) (by have := HCM.out; unfold wrap64; omega), ⟨HC.out⟩, HM, HQ, HB, ⟨by have := HS.out; omega⟩, HX⟩
                · omega


/-! ### laws_FnExactModeDistance: function 8 -/
def laws_FnExactModeDistance.f (k : Nat) (a0 : Int) (a1 : Int) : Option (Bool) := (spec_ModeDistance.f k a0 a1).bind fun t123 => ((impl_ModeDistance.f a0 a1).bind fun t124 => (if t124 = t123 then (some true) else (some false)))
theorem laws_FnExactModeDistance.mono : ∀ a0 a1 k, LeO (laws_FnExactModeDistance.f k a0 a1) (laws_FnExactModeDistance.f (k + 1) a0 a1) := by
  intro a0 a1 k
  unfold laws_FnExactModeDistance.f
  repeat' first
      | (with_reducible exact spec_ModeDistance.mono _ _ _)
      | (with_reducible exact LeO.refl _)
      | (with_reducible exact LeO.none _)
      | (with_reducible refine LeO.ite ?_ ?_)
      | (with_reducible refine LeO.bind ?_ (fun _ => ?_))
      | exact spec_ModeDistance.mono _ _ _
      | exact LeO.none _
      | refine LeO.ite ?_ ?_
      | refine LeO.bind ?_ (fun _ => ?_)
set_option maxHeartbeats 8000000 in
set_option maxRecDepth 100000 in
theorem laws_FnExactModeDistance.calls (k : Nat) (a0 : Int) (a1 : Int) (r : Bool) (w : World) (h : laws_FnExactModeDistance.f k a0 a1 = some r) :
    Calls Try.prog 8 #[.int .i64 a0, .int .i64 a1] w fun e w' => e = .returned (.bool r) ∧ Below w.heap.size w w' := by
  have HB := Aside0.mk (Below.refl w.heap.size w)
  have H : ((spec_ModeDistance.f k a0 a1).bind fun t123 => ((impl_ModeDistance.f a0 a1).bind fun t124 => (if t124 = t123 then (some true) else (some false)))) = some r := h
  clear h
  replace H := Option.bind_eq_some_iff.mp H
  obtain ⟨t123, A30, H⟩ := H
  replace H : ((impl_ModeDistance.f a0 a1).bind fun t124 => (if t124 = t123 then (some true) else (some false))) = some r := H
  have A3 := Aside0.mk A30
  clear A30
  replace H := Option.bind_eq_some_iff.mp H
  obtain ⟨t124, A40, H⟩ := H
  replace H : (if t124 = t123 then (some true) else (some false)) = some r := H
  have A4 := Aside0.mk A40
  clear A40
  by_cases c5 : t124 = t123
  · rw [if_pos c5] at H
    have c5b0 : (t124 == t123) = true := beq_iff_eq.mpr c5
    have c5b1 : (t124 != t123) = false := bne_eq_false_iff_eq.mpr c5
    clear c5
    obtain rfl := Option.some.inj H
    go_enter Try.func8, Try.ntmps8
    go_wp2_with (first | ((with_reducible refine gate_callee (f := 39) rfl ?_); refine goesL_ (some 9) rfl rfl Try.func39 (by kernel_rfl) rfl #[.int .i64 a0, .int .i64 a1] rfl (by (try simp only [List.map_toArray, List.map_cons, List.map_nil]); first | done | rfl | (simp only [List.length_drop, List.length_take]; rfl)) ?_; (with_reducible refine (spec_ModeDistance.calls k a0 a1 t123 _ A3.out).mono ?_); rintro e w6 ⟨rfl, hb⟩; refine ⟨_, rfl, ?_⟩; have n0_ := Aside0.mk (below_step (by repeat (first | (with_reducible first | exact HB.out | apply below_alloc | apply pw_below_drewN | apply below_drew1) | exact HB.out)) hb); clear HB; have HB := n0_; clear n0_; (try clear hb); (try clear hb2); (try clear hk); (try clear hi)) | ((with_reducible refine gate_callee (f := 40) rfl ?_); refine goesL_ (some 12) rfl rfl Try.func40 (by kernel_rfl) rfl #[.int .i64 a0, .int .i64 a1] rfl (by (try simp only [List.map_toArray, List.map_cons, List.map_nil]); first | done | rfl | (simp only [List.length_drop, List.length_take]; rfl)) ?_; (with_reducible refine (impl_ModeDistance.calls a0 a1 t124 _ A4.out).mono ?_); rintro e w7 ⟨rfl, hb⟩; refine ⟨_, rfl, ?_⟩; have n0_ := Aside0.mk (below_step (by repeat (first | (with_reducible first | exact HB.out | apply below_alloc | apply pw_below_drewN | apply below_drew1) | exact HB.out)) hb); clear HB; have HB := n0_; clear n0_; (try clear hb); (try clear hb2); (try clear hk); (try clear hi)))
    go_ret
    exact ⟨by first | rfl | (simp [errW_none, errW_some] <;> rfl) | (simp [*, errW_none, errW_some] <;> rfl), by repeat (first | (with_reducible first | exact HB.out | apply below_alloc | apply pw_below_drewN | apply below_drew1) | exact HB.out)⟩
  · rw [if_neg c5] at H
    have c5b0 : (t124 == t123) = false := beq_eq_false_iff_ne.mpr c5
    have c5b1 : (t124 != t123) = true := bne_iff_ne.mpr c5
    obtain rfl := Option.some.inj H
    go_enter Try.func8, Try.ntmps8
    go_wp2_with (first | ((with_reducible refine gate_callee (f := 39) rfl ?_); refine goesL_ (some 9) rfl rfl Try.func39 (by kernel_rfl) rfl #[.int .i64 a0, .int .i64 a1] rfl (by (try simp only [List.map_toArray, List.map_cons, List.map_nil]); first | done | rfl | (simp only [List.length_drop, List.length_take]; rfl)) ?_; (with_reducible refine (spec_ModeDistance.calls k a0 a1 t123 _ A3.out).mono ?_); rintro e w8 ⟨rfl, hb⟩; refine ⟨_, rfl, ?_⟩; have n0_ := Aside0.mk (below_step (by repeat (first | (with_reducible first | exact HB.out | apply below_alloc | apply pw_below_drewN | apply below_drew1) | exact HB.out)) hb); clear HB; have HB := n0_; clear n0_; (try clear hb); (try clear hb2); (try clear hk); (try clear hi)) | ((with_reducible refine gate_callee (f := 40) rfl ?_); refine goesL_ (some 12) rfl rfl Try.func40 (by kernel_rfl) rfl #[.int .i64 a0, .int .i64 a1] rfl (by (try simp only [List.map_toArray, List.map_cons, List.map_nil]); first | done | rfl | (simp only [List.length_drop, List.length_take]; rfl)) ?_; (with_reducible refine (impl_ModeDistance.calls a0 a1 t124 _ A4.out).mono ?_); rintro e w9 ⟨rfl, hb⟩; refine ⟨_, rfl, ?_⟩; have n0_ := Aside0.mk (below_step (by repeat (first | (with_reducible first | exact HB.out | apply below_alloc | apply pw_below_drewN | apply below_drew1) | exact HB.out)) hb); clear HB; have HB := n0_; clear n0_; (try clear hb); (try clear hb2); (try clear hk); (try clear hi)))
    go_ret
    exact ⟨by first | rfl | (simp [errW_none, errW_some] <;> rfl) | (simp [*, errW_none, errW_some] <;> rfl), by repeat (first | (with_reducible first | exact HB.out | apply below_alloc | apply pw_below_drewN | apply below_drew1) | exact HB.out)⟩

/-- THE ONE PURE STATEMENT of laws_FnExactModeDistance: yours. -/
def laws_FnExactModeDistance.Pure : Prop := ∀ (a0 : Int) (a1 : Int), (Lit.int .i64 a0).wf = true → (Lit.int .i64 a1).wf = true → ∃ k, laws_FnExactModeDistance.f k a0 a1 = some true
theorem laws_FnExactModeDistance.walk (P : laws_FnExactModeDistance.Pure) (a0 : Int) (a1 : Int) (w : World) (w0 : (Lit.int .i64 a0).wf = true) (w1 : (Lit.int .i64 a1).wf = true) :
    Calls Try.prog 8 #[.int .i64 a0, .int .i64 a1] w fun e w' => e = .returned (.bool true) ∧ Below w.heap.size w w' := by
  obtain ⟨k, h⟩ := P a0 a1 w0 w1
  refine (laws_FnExactModeDistance.calls k a0 a1 true w h).mono ?_
  rintro e w' ⟨rfl, hd⟩
  exact ⟨rfl, hd⟩
end Go.Proofs.Ythbbhdadioiefaa.QFnExactModeDistance
