-- PRINTED BY print.sh 35421559b90ae4d0a3588c463048766b98c2df88dd9212a6774a882060cdf62d: not written by this session
import Derived.Test.YtdihemmbhddghaaPFnExactAlarmStepx0
namespace Go.Proofs.Ytdihemmbhddghaa.PFnExactAlarmStep
open Go.RowKit Go.Proofs.YtdihemmbhddghaaW.PrintWords Go.Proofs.YtdihemmbhddghaaW.PrintLast Go.Proofs.YtdihemmbhddghaaW.PrintMore
attribute [local go_sem] max2_int min2_int max_two min_two max_three min_three max_four min_four   -- for this text's walks alone
set_option linter.unusedVariables false
set_option linter.unusedSimpArgs false

/-! ### spec_AlarmStep: function 19 -/
mutual
def spec_AlarmStep.j0 : Nat → Int → Bool → Bool → Bool → Option (Int)
  | 0, _, _, _, _ => none
  | k + 1, x0, x1, x2, x7 => if x7 = true then (some 1) else (if x0 = 1 then (if x1 = true then (spec_AlarmStep.j1 k x0 x1 x2 x2) else (spec_AlarmStep.j1 k x0 x1 x2 false)) else (spec_AlarmStep.j1 k x0 x1 x2 false))
def spec_AlarmStep.j1 : Nat → Int → Bool → Bool → Bool → Option (Int)
  | 0, _, _, _, _ => none
  | k + 1, x0, x1, x2, x13 => if x13 = true then (some 2) else (if x0 = 1 then (if x1 = true then (spec_AlarmStep.j2 k x0 x1 x2 false) else (spec_AlarmStep.j2 k x0 x1 x2 x2)) else (spec_AlarmStep.j2 k x0 x1 x2 false))
def spec_AlarmStep.j2 : Nat → Int → Bool → Bool → Bool → Option (Int)
  | 0, _, _, _, _ => none
  | k + 1, x0, x1, x2, x22 => if x22 = true then (spec_AlarmStep.j3 k x0 x1 x22) else (if x0 = 2 then (if x1 = true then (if x0 = 3 then (spec_AlarmStep.j3 k x0 x1 false) else (spec_AlarmStep.j3 k x0 x1 false)) else (spec_AlarmStep.j3 k x0 x1 (!x1))) else (if x0 = 3 then (if x1 = true then (spec_AlarmStep.j3 k x0 x1 false) else (spec_AlarmStep.j3 k x0 x1 x2)) else (spec_AlarmStep.j3 k x0 x1 false)))
def spec_AlarmStep.j3 : Nat → Int → Bool → Bool → Option (Int)
  | 0, _, _, _ => none
  | k + 1, x0, x1, x22 => if x22 = true then (some 0) else (if x0 = 1 then (spec_AlarmStep.j4 k x0 x1 (!x1)) else (spec_AlarmStep.j4 k x0 x1 false))
def spec_AlarmStep.j4 : Nat → Int → Bool → Bool → Option (Int)
  | 0, _, _, _ => none
  | k + 1, x0, x1, x47 => if x47 = true then (some 3) else (if x0 = 3 then (if x1 = true then (some 1) else (some x0)) else (some x0))
end
def spec_AlarmStep.f (k : Nat) (a0 : Int) (a1 : Bool) (a2 : Bool) : Option (Int) := if a0 = 0 then (spec_AlarmStep.j0 k a0 a1 a2 a1) else (spec_AlarmStep.j0 k a0 a1 a2 false)
theorem spec_AlarmStep.mono_l : ∀ k, (∀ y0 y1 y2 y3, LeO (spec_AlarmStep.j0 k y0 y1 y2 y3) (spec_AlarmStep.j0 (k + 1) y0 y1 y2 y3)) ∧ (∀ y0 y1 y2 y3, LeO (spec_AlarmStep.j1 k y0 y1 y2 y3) (spec_AlarmStep.j1 (k + 1) y0 y1 y2 y3)) ∧ (∀ y0 y1 y2 y3, LeO (spec_AlarmStep.j2 k y0 y1 y2 y3) (spec_AlarmStep.j2 (k + 1) y0 y1 y2 y3)) ∧ (∀ y0 y1 y2, LeO (spec_AlarmStep.j3 k y0 y1 y2) (spec_AlarmStep.j3 (k + 1) y0 y1 y2)) ∧ (∀ y0 y1 y2, LeO (spec_AlarmStep.j4 k y0 y1 y2) (spec_AlarmStep.j4 (k + 1) y0 y1 y2))
  | 0 => ⟨fun _ _ _ _ r h => by simp [spec_AlarmStep.j0] at h, fun _ _ _ _ r h => by simp [spec_AlarmStep.j1] at h, fun _ _ _ _ r h => by simp [spec_AlarmStep.j2] at h, fun _ _ _ r h => by simp [spec_AlarmStep.j3] at h, fun _ _ _ r h => by simp [spec_AlarmStep.j4] at h⟩
  | k + 1 => by
    obtain ⟨ih0, ih1, ih2, ih3, ih4⟩ := spec_AlarmStep.mono_l k
    refine ⟨?_, ?_, ?_, ?_, ?_⟩
    · intro y0 y1 y2 y3
      unfold spec_AlarmStep.j0
      repeat' first
      | (with_reducible exact ih0 _ _ _ _)
      | (with_reducible exact ih1 _ _ _ _)
      | (with_reducible exact ih2 _ _ _ _)
      | (with_reducible exact ih3 _ _ _)
      | (with_reducible exact ih4 _ _ _)
      | (with_reducible exact LeO.refl _)
      | (with_reducible exact LeO.none _)
      | (with_reducible refine LeO.ite ?_ ?_)
      | (with_reducible refine LeO.bind ?_ (fun _ => ?_))
      | exact ih0 _ _ _ _
      | exact ih1 _ _ _ _
      | exact ih2 _ _ _ _
      | exact ih3 _ _ _
      | exact ih4 _ _ _
      | exact LeO.none _
      | refine LeO.ite ?_ ?_
      | refine LeO.bind ?_ (fun _ => ?_)
    · intro y0 y1 y2 y3
      unfold spec_AlarmStep.j1
      repeat' first
      | (with_reducible exact ih0 _ _ _ _)
      | (with_reducible exact ih1 _ _ _ _)
      | (with_reducible exact ih2 _ _ _ _)
      | (with_reducible exact ih3 _ _ _)
      | (with_reducible exact ih4 _ _ _)
      | (with_reducible exact LeO.refl _)
      | (with_reducible exact LeO.none _)
      | (with_reducible refine LeO.ite ?_ ?_)
      | (with_reducible refine LeO.bind ?_ (fun _ => ?_))
      | exact ih0 _ _ _ _
      | exact ih1 _ _ _ _
      | exact ih2 _ _ _ _
      | exact ih3 _ _ _
      | exact ih4 _ _ _
      | exact LeO.none _
      | refine LeO.ite ?_ ?_
      | refine LeO.bind ?_ (fun _ => ?_)
    · intro y0 y1 y2 y3
      unfold spec_AlarmStep.j2
      repeat' first
      | (with_reducible exact ih0 _ _ _ _)
      | (with_reducible exact ih1 _ _ _ _)
      | (with_reducible exact ih2 _ _ _ _)
      | (with_reducible exact ih3 _ _ _)
      | (with_reducible exact ih4 _ _ _)
      | (with_reducible exact LeO.refl _)
      | (with_reducible exact LeO.none _)
      | (with_reducible refine LeO.ite ?_ ?_)
      | (with_reducible refine LeO.bind ?_ (fun _ => ?_))
      | exact ih0 _ _ _ _
      | exact ih1 _ _ _ _
      | exact ih2 _ _ _ _
      | exact ih3 _ _ _
      | exact ih4 _ _ _
      | exact LeO.none _
      | refine LeO.ite ?_ ?_
      | refine LeO.bind ?_ (fun _ => ?_)
    · intro y0 y1 y2
      unfold spec_AlarmStep.j3
      repeat' first
      | (with_reducible exact ih0 _ _ _ _)
      | (with_reducible exact ih1 _ _ _ _)
      | (with_reducible exact ih2 _ _ _ _)
      | (with_reducible exact ih3 _ _ _)
      | (with_reducible exact ih4 _ _ _)
      | (with_reducible exact LeO.refl _)
      | (with_reducible exact LeO.none _)
      | (with_reducible refine LeO.ite ?_ ?_)
      | (with_reducible refine LeO.bind ?_ (fun _ => ?_))
      | exact ih0 _ _ _ _
      | exact ih1 _ _ _ _
      | exact ih2 _ _ _ _
      | exact ih3 _ _ _
      | exact ih4 _ _ _
      | exact LeO.none _
      | refine LeO.ite ?_ ?_
      | refine LeO.bind ?_ (fun _ => ?_)
    · intro y0 y1 y2
      unfold spec_AlarmStep.j4
      repeat' first
      | (with_reducible exact ih0 _ _ _ _)
      | (with_reducible exact ih1 _ _ _ _)
      | (with_reducible exact ih2 _ _ _ _)
      | (with_reducible exact ih3 _ _ _)
      | (with_reducible exact ih4 _ _ _)
      | (with_reducible exact LeO.refl _)
      | (with_reducible exact LeO.none _)
      | (with_reducible refine LeO.ite ?_ ?_)
      | (with_reducible refine LeO.bind ?_ (fun _ => ?_))
      | exact ih0 _ _ _ _
      | exact ih1 _ _ _ _
      | exact ih2 _ _ _ _
      | exact ih3 _ _ _
      | exact ih4 _ _ _
      | exact LeO.none _
      | refine LeO.ite ?_ ?_
      | refine LeO.bind ?_ (fun _ => ?_)
theorem spec_AlarmStep.mono : ∀ a0 a1 a2 k, LeO (spec_AlarmStep.f k a0 a1 a2) (spec_AlarmStep.f (k + 1) a0 a1 a2) := by
  intro a0 a1 a2 k
  obtain ⟨ih0, ih1, ih2, ih3, ih4⟩ := spec_AlarmStep.mono_l k
  unfold spec_AlarmStep.f
  repeat' first
      | (with_reducible exact ih0 _ _ _ _)
      | (with_reducible exact ih1 _ _ _ _)
      | (with_reducible exact ih2 _ _ _ _)
      | (with_reducible exact ih3 _ _ _)
      | (with_reducible exact ih4 _ _ _)
      | (with_reducible exact LeO.refl _)
      | (with_reducible exact LeO.none _)
      | (with_reducible refine LeO.ite ?_ ?_)
      | (with_reducible refine LeO.bind ?_ (fun _ => ?_))
      | exact ih0 _ _ _ _
      | exact ih1 _ _ _ _
      | exact ih2 _ _ _ _
      | exact ih3 _ _ _
      | exact ih4 _ _ _
      | exact LeO.none _
      | refine LeO.ite ?_ ?_
      | refine LeO.bind ?_ (fun _ => ?_)
set_option maxHeartbeats 8000000 in
set_option maxRecDepth 100000 in
theorem spec_AlarmStep.calls (k : Nat) (a0 : Int) (a1 : Bool) (a2 : Bool) (r : Int) (w : World) (h : spec_AlarmStep.f k a0 a1 a2 = some r) :
    Calls Try.prog 19 #[.int .i64 a0, .bool a1, .bool a2] w fun e w' => e = .returned (.int .i64 r) ∧ Drawn0 w w' := by
  have H : (if a0 = 0 then (spec_AlarmStep.j0 k a0 a1 a2 a1) else (spec_AlarmStep.j0 k a0 a1 a2 false)) = some r := h
  clear h
  have HC4 := Aside0.mk H
  clear H
  go_enter Try.func19, Try.ntmps19
  go_upto_region 1 with (fail)
  go_cut [7] (fun v7 wc => ∃ (kq : Nat) (x7_3 : Bool), v7 = .bool x7_3 ∧ Aside0 (spec_AlarmStep.j0 kq a0 a1 a2 x7_3 = some r) ∧ Aside0 (kq ≤ k) ∧ Drawn0 w wc)
  case first =>
    have H := HC4.out
    clear HC4
    by_cases c5 : a0 = 0
    · rw [if_pos c5] at H
      have c5b0 : (a0 == 0) = true := beq_iff_eq.mpr c5
      have c5b1 : (a0 != 0) = false := bne_eq_false_iff_eq.mpr c5
      clear c5
      (first | rw [c5b0] | (simp only [i64_w, i32_w]; rw [c5b0]) | skip)
      have H' := Aside0.mk H
      clear H
      go_wp2
      go_meet
      case rel => exact ⟨_, (a1), (by first | rfl | (simp; done) | (simp [*]; done)), H', ⟨by first | omega | exact Nat.le_refl _⟩, by repeat (first | exact Drawn0.refl _ | apply Drawn0.step)⟩
    · rw [if_neg c5] at H
      have c5b0 : (a0 == 0) = false := beq_eq_false_iff_ne.mpr c5
      have c5b1 : (a0 != 0) = true := bne_iff_ne.mpr c5
      (first | rw [c5b0] | (simp only [i64_w, i32_w]; rw [c5b0]) | skip)
      have H' := Aside0.mk H
      clear H
      go_wp2
      go_meet
      case rel => exact ⟨_, (false), (by first | rfl | (simp; done) | (simp [*]; done)), H', ⟨by first | omega | exact Nat.le_refl _⟩, by repeat (first | exact Drawn0.refl _ | apply Drawn0.step)⟩
  case rest =>
    clear HC4
    try clear c1
    try clear p2
    try clear c5
    try clear c5b0
    try clear c5b1
    obtain ⟨kq, x7_3, rfl, HA, HJ3, ⟨mc3, rfl⟩⟩ := hcut
    cases kq with
    | zero => exact absurd HA.out (by simp [spec_AlarmStep.j0])
    | succ kj3 =>
      have H := HA.out
      clear HA
      simp only [spec_AlarmStep.j0] at H
      by_cases c6 : x7_3 = true
      · subst c6
        have H1 : (some 1) = some r := by rw [if_pos rfl] at H; exact H
        clear H
        have H := H1
        clear H1
        obtain rfl := Option.some.inj H
        go_wp2
        go_ret
        exact ⟨by first | rfl | (simp; done) | (simp [*]; done), by repeat (first | exact Drawn0.refl _ | apply Drawn0.step)⟩
      · replace c6 := Bool.eq_false_iff.mpr c6
        subst c6
        have H1 : (if a0 = 1 then (if a1 = true then (spec_AlarmStep.j1 kj3 a0 a1 a2 a2) else (spec_AlarmStep.j1 kj3 a0 a1 a2 false)) else (spec_AlarmStep.j1 kj3 a0 a1 a2 false)) = some r := by rw [if_neg (show ¬ (false = true) by decide)] at H; exact H
        clear H
        have H := H1
        clear H1
        have HC7 := Aside0.mk H
        clear H
        go_upto_region 3 with (fail)
        go_cut [13] (fun v13 wc => ∃ (kq : Nat) (x13_6 : Bool), v13 = .bool x13_6 ∧ Aside0 (spec_AlarmStep.j1 kq a0 a1 a2 x13_6 = some r) ∧ Aside0 (kq ≤ kj3) ∧ Drawn0 w wc)
        case first =>
          have H := HC7.out
          clear HC7
          by_cases c8 : a0 = 1
          · rw [if_pos c8] at H
            have c8b0 : (a0 == 1) = true := beq_iff_eq.mpr c8
            have c8b1 : (a0 != 1) = false := bne_eq_false_iff_eq.mpr c8
            clear c8
            (first | rw [c8b0] | (simp only [i64_w, i32_w]; rw [c8b0]) | skip)
            by_cases c9 : a1 = true
            · subst c9
              have H1 : (spec_AlarmStep.j1 kj3 a0 true a2 a2) = some r := by rw [if_pos rfl] at H; exact H
              clear H
              have H := H1
              clear H1
              have H' := Aside0.mk H
              clear H
              go_wp2
              go_meet
              case rel => exact ⟨_, (a2), (by first | rfl | (simp; done) | (simp [*]; done)), H', ⟨by have := HJ3.out; first | omega | exact Nat.le_refl _⟩, by repeat (first | exact Drawn0.refl _ | apply Drawn0.step)⟩
            · replace c9 := Bool.eq_false_iff.mpr c9
              subst c9
              have H1 : (spec_AlarmStep.j1 kj3 a0 false a2 false) = some r := by rw [if_neg (show ¬ (false = true) by decide)] at H; exact H
              clear H
              have H := H1
              clear H1
              have H' := Aside0.mk H
              clear H
              go_wp2
              go_meet
              case rel => exact ⟨_, (false), (by first | rfl | (simp; done) | (simp [*]; done)), H', ⟨by have := HJ3.out; first | omega | exact Nat.le_refl _⟩, by repeat (first | exact Drawn0.refl _ | apply Drawn0.step)⟩
          · rw [if_neg c8] at H
            have c8b0 : (a0 == 1) = false := beq_eq_false_iff_ne.mpr c8
            have c8b1 : (a0 != 1) = true := bne_iff_ne.mpr c8
            (first | rw [c8b0] | (simp only [i64_w, i32_w]; rw [c8b0]) | skip)
            have H' := Aside0.mk H
            clear H
            go_wp2
            go_meet
            case rel => exact ⟨_, (false), (by first | rfl | (simp; done) | (simp [*]; done)), H', ⟨by have := HJ3.out; first | omega | exact Nat.le_refl _⟩, by repeat (first | exact Drawn0.refl _ | apply Drawn0.step)⟩
        case rest =>
          clear HC7
          try clear c1
          try clear p2
          try clear c3
          try clear c5
          try clear c5b0
          try clear c5b1
          try clear c6
          try clear c8
          try clear c8b0
          try clear c8b1
          try clear c9
          try clear p2
          obtain ⟨kq, x13_6, rfl, HA, HJ6, ⟨mc6, rfl⟩⟩ := hcut
          cases kq with
          | zero => exact absurd HA.out (by simp [spec_AlarmStep.j1])
          | succ kj6 =>
            have H := HA.out
            clear HA
            simp only [spec_AlarmStep.j1] at H
            by_cases c10 : x13_6 = true
            · subst c10
              have H1 : (some 2) = some r := by rw [if_pos rfl] at H; exact H
              clear H
              have H := H1
              clear H1
              obtain rfl := Option.some.inj H
              go_wp2
              go_ret
              exact ⟨by first | rfl | (simp; done) | (simp [*]; done), by repeat (first | exact Drawn0.refl _ | apply Drawn0.step)⟩
            · replace c10 := Bool.eq_false_iff.mpr c10
              subst c10
              have H1 : (if a0 = 1 then (if a1 = true then (spec_AlarmStep.j2 kj6 a0 a1 a2 false) else (spec_AlarmStep.j2 kj6 a0 a1 a2 a2)) else (spec_AlarmStep.j2 kj6 a0 a1 a2 false)) = some r := by rw [if_neg (show ¬ (false = true) by decide)] at H; exact H
              clear H
              have H := H1
              clear H1
              have HC11 := Aside0.mk H
              clear H
              go_upto_region 5 with (fail)
              go_cut [22] (fun v22 wc => ∃ (kq : Nat) (x22_10 : Bool), v22 = .bool x22_10 ∧ Aside0 (spec_AlarmStep.j2 kq a0 a1 a2 x22_10 = some r) ∧ Aside0 (kq ≤ kj6) ∧ Drawn0 w wc)
              case first =>
                have H := HC11.out
                clear HC11
                by_cases c12 : a0 = 1
                · rw [if_pos c12] at H
                  have c12b0 : (a0 == 1) = true := beq_iff_eq.mpr c12
                  have c12b1 : (a0 != 1) = false := bne_eq_false_iff_eq.mpr c12
                  clear c12
                  (first | rw [c12b0] | (simp only [i64_w, i32_w]; rw [c12b0]) | skip)
                  by_cases c13 : a1 = true
                  · subst c13
                    have H1 : (spec_AlarmStep.j2 kj6 a0 true a2 false) = some r := by rw [if_pos rfl] at H; exact H
                    clear H
                    have H := H1
                    clear H1
                    have H' := Aside0.mk H
                    clear H
                    go_wp2
                    go_meet
                    case rel => exact ⟨_, (false), (by first | rfl | (simp; done) | (simp [*]; done)), H', ⟨by have := HJ3.out; have := HJ6.out; first | omega | exact Nat.le_refl _⟩, by repeat (first | exact Drawn0.refl _ | apply Drawn0.step)⟩
                  · replace c13 := Bool.eq_false_iff.mpr c13
                    subst c13
                    have H1 : (spec_AlarmStep.j2 kj6 a0 false a2 a2) = some r := by rw [if_neg (show ¬ (false = true) by decide)] at H; exact H
                    clear H
                    have H := H1
                    clear H1
                    have H' := Aside0.mk H
                    clear H
                    go_wp2
                    go_meet
                    case rel => exact ⟨_, (a2), (by first | rfl | (simp; done) | (simp [*]; done)), H', ⟨by have := HJ3.out; have := HJ6.out; first | omega | exact Nat.le_refl _⟩, by repeat (first | exact Drawn0.refl _ | apply Drawn0.step)⟩
                · rw [if_neg c12] at H
                  have c12b0 : (a0 == 1) = false := beq_eq_false_iff_ne.mpr c12
                  have c12b1 : (a0 != 1) = true := bne_iff_ne.mpr c12
                  (first | rw [c12b0] | (simp only [i64_w, i32_w]; rw [c12b0]) | skip)
                  have H' := Aside0.mk H
                  clear H
                  go_wp2
                  go_meet
                  case rel => exact ⟨_, (false), (by first | rfl | (simp; done) | (simp [*]; done)), H', ⟨by have := HJ3.out; have := HJ6.out; first | omega | exact Nat.le_refl _⟩, by repeat (first | exact Drawn0.refl _ | apply Drawn0.step)⟩
              case rest =>
                clear HC11
                try clear c1
                try clear p2
                try clear c3
                try clear c5
                try clear c5b0
                try clear c5b1
                try clear c6
                try clear c8
                try clear c8b0
                try clear c8b1
                try clear c9
                try clear c10
                try clear c12
                try clear c12b0
                try clear c12b1
                try clear c13
                try clear p2
                obtain ⟨kq, x22_10, rfl, HA, HJ10, ⟨mc10, rfl⟩⟩ := hcut
                cases kq with
                | zero => exact absurd HA.out (by simp [spec_AlarmStep.j2])
                | succ kj10 =>
                  have H := HA.out
                  clear HA
                  simp only [spec_AlarmStep.j2] at H
                  have HC14 := Aside0.mk H
                  clear H
                  go_upto_if 22 with (fail)
                  go_cut [22] (fun v22 wc => ∃ (kq : Nat) (x22_13 : Bool), v22 = .bool x22_13 ∧ Aside0 (spec_AlarmStep.j3 kq a0 a1 x22_13 = some r) ∧ Aside0 (kq ≤ kj10) ∧ Drawn0 w wc)
                  case first =>
                    have H := HC14.out
                    clear HC14
                    by_cases c15 : x22_10 = true
                    · subst c15
                      have H1 : (spec_AlarmStep.j3 kj10 a0 a1 true) = some r := by rw [if_pos rfl] at H; exact H
                      clear H
                      have H := H1
                      clear H1
                      have H' := Aside0.mk H
                      clear H
                      go_wp2
                      go_meet
                      case rel => exact ⟨_, (true), (by first | rfl | (simp; done) | (simp [*]; done)), H', ⟨by have := HJ3.out; have := HJ6.out; have := HJ10.out; first | omega | exact Nat.le_refl _⟩, by repeat (first | exact Drawn0.refl _ | apply Drawn0.step)⟩
                    · replace c15 := Bool.eq_false_iff.mpr c15
                      subst c15
                      have H1 : (if a0 = 2 then (if a1 = true then (if a0 = 3 then (spec_AlarmStep.j3 kj10 a0 a1 false) else (spec_AlarmStep.j3 kj10 a0 a1 false)) else (spec_AlarmStep.j3 kj10 a0 a1 (!a1))) else (if a0 = 3 then (if a1 = true then (spec_AlarmStep.j3 kj10 a0 a1 false) else (spec_AlarmStep.j3 kj10 a0 a1 a2)) else (spec_AlarmStep.j3 kj10 a0 a1 false))) = some r := by rw [if_neg (show ¬ (false = true) by decide)] at H; exact H
                      clear H
                      have H := H1
                      clear H1
                      by_cases c16 : a0 = 2
                      · rw [if_pos c16] at H
                        have c16b0 : (a0 == 2) = true := beq_iff_eq.mpr c16
                        have c16b1 : (a0 != 2) = false := bne_eq_false_iff_eq.mpr c16
                        clear c16
                        (first | rw [c16b0] | (simp only [i64_w, i32_w]; rw [c16b0]) | skip)
                        by_cases c17 : a1 = true
                        · subst c17
                          have H1 : (if a0 = 3 then (spec_AlarmStep.j3 kj10 a0 true false) else (spec_AlarmStep.j3 kj10 a0 true false)) = some r := by rw [if_pos rfl] at H; exact H
                          clear H
                          have H := H1
                          clear H1
                          by_cases c18 : a0 = 3
                          · rw [if_pos c18] at H
                            have c18b0 : (a0 == 3) = true := beq_iff_eq.mpr c18
                            have c18b1 : (a0 != 3) = false := bne_eq_false_iff_eq.mpr c18
                            clear c18
                            have H' := Aside0.mk H
                            clear H
                            go_wp2
                            go_meet
                            case rel => exact ⟨_, (false), (by first | rfl | (simp; done) | (simp [*]; done)), H', ⟨by have := HJ3.out; have := HJ6.out; have := HJ10.out; first | omega | exact Nat.le_refl _⟩, by repeat (first | exact Drawn0.refl _ | apply Drawn0.step)⟩
                          · rw [if_neg c18] at H
                            have c18b0 : (a0 == 3) = false := beq_eq_false_iff_ne.mpr c18
                            have c18b1 : (a0 != 3) = true := bne_iff_ne.mpr c18
                            have H' := Aside0.mk H
                            clear H
                            go_wp2
                            go_meet
                            case rel => exact ⟨_, (false), (by first | rfl | (simp; done) | (simp [*]; done)), H', ⟨by have := HJ3.out; have := HJ6.out; have := HJ10.out; first | omega | exact Nat.le_refl _⟩, by repeat (first | exact Drawn0.refl _ | apply Drawn0.step)⟩
                        · replace c17 := Bool.eq_false_iff.mpr c17
                          subst c17
                          have H1 : (spec_AlarmStep.j3 kj10 a0 false (!false)) = some r := by rw [if_neg (show ¬ (false = true) by decide)] at H; exact H
                          clear H
                          have H := H1
                          clear H1
                          have H' := Aside0.mk H
                          clear H
                          go_wp2
                          go_meet
                          case rel => exact ⟨_, (!false), (by first | rfl | (simp; done) | (simp [*]; done)), H', ⟨by have := HJ3.out; have := HJ6.out; have := HJ10.out; first | omega | exact Nat.le_refl _⟩, by repeat (first | exact Drawn0.refl _ | apply Drawn0.step)⟩
                      · rw [if_neg c16] at H
                        have c16b0 : (a0 == 2) = false := beq_eq_false_iff_ne.mpr c16
                        have c16b1 : (a0 != 2) = true := bne_iff_ne.mpr c16
                        (first | rw [c16b0] | (simp only [i64_w, i32_w]; rw [c16b0]) | skip)
                        by_cases c19 : a0 = 3
                        · rw [if_pos c19] at H
                          have c19b0 : (a0 == 3) = true := beq_iff_eq.mpr c19
                          have c19b1 : (a0 != 3) = false := bne_eq_false_iff_eq.mpr c19
                          clear c19
                          by_cases c20 : a1 = true
                          · subst c20
                            have H1 : (spec_AlarmStep.j3 kj10 a0 true false) = some r := by rw [if_pos rfl] at H; exact H
                            clear H
                            have H := H1
                            clear H1
                            have H' := Aside0.mk H
                            clear H
                            go_wp2
                            go_meet
                            case rel => exact ⟨_, (false), (by first | rfl | (simp; done) | (simp [*]; done)), H', ⟨by have := HJ3.out; have := HJ6.out; have := HJ10.out; first | omega | exact Nat.le_refl _⟩, by repeat (first | exact Drawn0.refl _ | apply Drawn0.step)⟩
                          · replace c20 := Bool.eq_false_iff.mpr c20
                            subst c20
                            have H1 : (spec_AlarmStep.j3 kj10 a0 false a2) = some r := by rw [if_neg (show ¬ (false = true) by decide)] at H; exact H
                            clear H
                            have H := H1
                            clear H1
                            have H' := Aside0.mk H
                            clear H
                            go_wp2
                            go_meet
                            case rel => exact ⟨_, (a2), (by first | rfl | (simp; done) | (simp [*]; done)), H', ⟨by have := HJ3.out; have := HJ6.out; have := HJ10.out; first | omega | exact Nat.le_refl _⟩, by repeat (first | exact Drawn0.refl _ | apply Drawn0.step)⟩
                        · rw [if_neg c19] at H
                          have c19b0 : (a0 == 3) = false := beq_eq_false_iff_ne.mpr c19
                          have c19b1 : (a0 != 3) = true := bne_iff_ne.mpr c19
                          have H' := Aside0.mk H
                          clear H
                          go_wp2
                          go_meet
                          case rel => exact ⟨_, (false), (by first | rfl | (simp; done) | (simp [*]; done)), H', ⟨by have := HJ3.out; have := HJ6.out; have := HJ10.out; first | omega | exact Nat.le_refl _⟩, by repeat (first | exact Drawn0.refl _ | apply Drawn0.step)⟩
                  case rest =>
                    clear HC14
                    try clear c1
                    try clear c2
                    try clear p2
                    try clear c3
                    try clear c5
                    try clear c5b0
                    try clear c5b1
                    try clear c6
                    try clear c8
                    try clear c8b0
                    try clear c8b1
                    try clear c9
                    try clear c10
                    try clear c12
                    try clear c12b0
                    try clear c12b1
                    try clear c13
                    try clear c15
                    try clear c16
                    try clear c16b0
                    try clear c16b1
                    try clear c17
                    try clear c18
                    try clear c18b0
                    try clear c18b1
                    try clear c19
                    try clear c19b0
                    try clear c19b1
                    try clear c20
                    try clear p2
                    obtain ⟨kq, x22_13, rfl, HA, HJ13, ⟨mc13, rfl⟩⟩ := hcut
                    cases kq with
                    | zero => exact absurd HA.out (by simp [spec_AlarmStep.j3])
                    | succ kj13 =>
                      have H := HA.out
                      clear HA
                      simp only [spec_AlarmStep.j3] at H
                      by_cases c21 : x22_13 = true
                      · subst c21
                        have H1 : (some 0) = some r := by rw [if_pos rfl] at H; exact H
                        clear H
                        have H := H1
                        clear H1
                        obtain rfl := Option.some.inj H
                        go_wp2
                        go_ret
                        exact ⟨by first | rfl | (simp; done) | (simp [*]; done), by repeat (first | exact Drawn0.refl _ | apply Drawn0.step)⟩
                      · replace c21 := Bool.eq_false_iff.mpr c21
                        subst c21
                        have H1 : (if a0 = 1 then (spec_AlarmStep.j4 kj13 a0 a1 (!a1)) else (spec_AlarmStep.j4 kj13 a0 a1 false)) = some r := by rw [if_neg (show ¬ (false = true) by decide)] at H; exact H
                        clear H
                        have H := H1
                        clear H1
                        have HC22 := Aside0.mk H
                        clear H
                        go_upto_region 9 with (fail)
                        go_cut [47] (fun v47 wc => ∃ (kq : Nat) (x47_21 : Bool), v47 = .bool x47_21 ∧ Aside0 (spec_AlarmStep.j4 kq a0 a1 x47_21 = some r) ∧ Aside0 (kq ≤ kj13) ∧ Drawn0 w wc)
                        case first =>
                          have H := HC22.out
                          clear HC22
                          by_cases c23 : a0 = 1
                          · rw [if_pos c23] at H
                            have c23b0 : (a0 == 1) = true := beq_iff_eq.mpr c23
                            have c23b1 : (a0 != 1) = false := bne_eq_false_iff_eq.mpr c23
                            clear c23
                            (first | rw [c23b0] | (simp only [i64_w, i32_w]; rw [c23b0]) | skip)
                            have H' := Aside0.mk H
                            clear H
                            go_wp2
                            go_meet
                            case rel => exact ⟨_, (!a1), (by first | rfl | (simp; done) | (simp [*]; done)), H', ⟨by have := HJ3.out; have := HJ6.out; have := HJ10.out; have := HJ13.out; first | omega | exact Nat.le_refl _⟩, by repeat (first | exact Drawn0.refl _ | apply Drawn0.step)⟩
                          · rw [if_neg c23] at H
                            have c23b0 : (a0 == 1) = false := beq_eq_false_iff_ne.mpr c23
                            have c23b1 : (a0 != 1) = true := bne_iff_ne.mpr c23
                            (first | rw [c23b0] | (simp only [i64_w, i32_w]; rw [c23b0]) | skip)
                            have H' := Aside0.mk H
                            clear H
                            go_wp2
                            go_meet
                            case rel => exact ⟨_, (false), (by first | rfl | (simp; done) | (simp [*]; done)), H', ⟨by have := HJ3.out; have := HJ6.out; have := HJ10.out; have := HJ13.out; first | omega | exact Nat.le_refl _⟩, by repeat (first | exact Drawn0.refl _ | apply Drawn0.step)⟩
                        case rest =>
                          clear HC22
                          try clear c1
                          try clear c2
                          try clear p2
                          try clear c3
                          try clear c5
                          try clear c5b0
                          try clear c5b1
                          try clear c6
                          try clear c8
                          try clear c8b0
                          try clear c8b1
                          try clear c9
                          try clear c10
                          try clear c12
                          try clear c12b0
                          try clear c12b1
                          try clear c13
                          try clear c15
                          try clear c16
                          try clear c16b0
                          try clear c16b1
                          try clear c17
                          try clear c18
                          try clear c18b0
                          try clear c18b1
                          try clear c19
                          try clear c19b0
                          try clear c19b1
                          try clear c20
                          try clear c21
                          try clear c23
                          try clear c23b0
                          try clear c23b1
                          try clear p2
                          obtain ⟨kq, x47_21, rfl, HA, HJ21, ⟨mc21, rfl⟩⟩ := hcut
                          cases kq with
                          | zero => exact absurd HA.out (by simp [spec_AlarmStep.j4])
                          | succ kj21 =>
                            have H := HA.out
                            clear HA
                            simp only [spec_AlarmStep.j4] at H
                            by_cases c24 : x47_21 = true
                            · subst c24
                              have H1 : (some 3) = some r := by rw [if_pos rfl] at H; exact H
                              clear H
                              have H := H1
                              clear H1
                              obtain rfl := Option.some.inj H
                              go_wp2
                              go_ret
                              exact ⟨by first | rfl | (simp; done) | (simp [*]; done), by repeat (first | exact Drawn0.refl _ | apply Drawn0.step)⟩
                            · replace c24 := Bool.eq_false_iff.mpr c24
                              subst c24
                              have H1 : (if a0 = 3 then (if a1 = true then (some 1) else (some a0)) else (some a0)) = some r := by rw [if_neg (show ¬ (false = true) by decide)] at H; exact H
                              clear H
                              have H := H1
                              clear H1
                              by_cases c25 : a0 = 3
                              · rw [if_pos c25] at H
                                have c25b0 : (a0 == 3) = true := beq_iff_eq.mpr c25
                                have c25b1 : (a0 != 3) = false := bne_eq_false_iff_eq.mpr c25
                                clear c25
                                by_cases c26 : a1 = true
                                · subst c26
                                  have H1 : (some 1) = some r := by rw [if_pos rfl] at H; exact H
                                  clear H
                                  have H := H1
                                  clear H1
                                  obtain rfl := Option.some.inj H
                                  go_wp2
                                  go_ret
                                  exact ⟨by first | rfl | (simp; done) | (simp [*]; done), by repeat (first | exact Drawn0.refl _ | apply Drawn0.step)⟩
                                · replace c26 := Bool.eq_false_iff.mpr c26
                                  subst c26
                                  have H1 : (some a0) = some r := by rw [if_neg (show ¬ (false = true) by decide)] at H; exact H
                                  clear H
                                  have H := H1
                                  clear H1
                                  obtain rfl := Option.some.inj H
                                  go_wp2
                                  go_ret
                                  exact ⟨by first | rfl | (simp; done) | (simp [*]; done), by repeat (first | exact Drawn0.refl _ | apply Drawn0.step)⟩
                              · rw [if_neg c25] at H
                                have c25b0 : (a0 == 3) = false := beq_eq_false_iff_ne.mpr c25
                                have c25b1 : (a0 != 3) = true := bne_iff_ne.mpr c25
                                obtain rfl := Option.some.inj H
                                go_wp2
                                go_ret
                                exact ⟨by first | rfl | (simp; done) | (simp [*]; done), by repeat (first | exact Drawn0.refl _ | apply Drawn0.step)⟩

end Go.Proofs.Ytdihemmbhddghaa.PFnExactAlarmStep
