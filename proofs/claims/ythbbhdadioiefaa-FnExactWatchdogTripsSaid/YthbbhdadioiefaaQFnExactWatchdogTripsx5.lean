-- Written by wip/pr2.py: a program of this session's own, which runs the kit's print over contracts of its own.
import Derived.Test.YthbbhdadioiefaaQFnExactWatchdogTripsx4
namespace Go.Proofs.Ythbbhdadioiefaa.QFnExactWatchdogTrips
open Go.RowKit Go.Proofs.YthbbhdadioiefaaW.PrintWords Go.Proofs.YthbbhdadioiefaaW.PrintLast Go.Proofs.YthbbhdadioiefaaW.PrintMore
attribute [local go_sem] max2_int min2_int max_two min_two max_three min_three max_four min_four   -- for this text's walks alone
set_option linter.unusedVariables false
set_option linter.unusedSimpArgs false

/-! ### impl_WatchdogTrips: function 65 -/
mutual
def impl_WatchdogTrips.j0 : Nat → List (S96) → Int → Int → Int → Bool → Option (Int)
  | 0, _, _, _, _, _ => none
  | k + 1, x0, x1, x2, x3, x33 => if x33 = true then (some (-1)) else ((impl_TaskSchedule.f k x0 x1).bind fun bt205 => (impl_WatchdogTrips.l0 k x2 x3 bt205.1 0 x1 0))
def impl_WatchdogTrips.l0 : Nat → Int → Int → List Int → Int → Int → Int → Option (Int)
  | 0, _, _, _, _, _, _ => none
  | k + 1, x2, x3, x9, x11, x40, x41 => if x41 < x40 then (if x11 ≥ x3 then (some x41) else (if 0 ≤ x41 then (if x41 < (x9.length : Int) then (if (rd x9 x41) = x2 then (impl_WatchdogTrips.l0 k x2 x3 x9 0 x40 (wrap64 (x41 + 1))) else (impl_WatchdogTrips.l0 k x2 x3 x9 (wrap64 (x11 + 1)) x40 (wrap64 (x41 + 1)))) else (none)) else (none))) else (some (-1))
end
def impl_WatchdogTrips.f (k : Nat) (l0 : List (S96)) (a1 : Int) (a2 : Int) (a3 : Int) : Option (Int) := (impl_TasksValid.f l0).bind fun t201 => (if t201 = true then ((impl_in.f a1 0 1000).bind fun t202 => (if t202 = true then ((impl_in.f a2 0 (wrap64 ((l0.length : Int) - 1))).bind fun t203 => (if t203 = true then ((impl_in.f a3 1 1000).bind fun t204 => (impl_WatchdogTrips.j0 k l0 a1 a2 a3 (!t204))) else (impl_WatchdogTrips.j0 k l0 a1 a2 a3 true))) else (impl_WatchdogTrips.j0 k l0 a1 a2 a3 true))) else (impl_WatchdogTrips.j0 k l0 a1 a2 a3 true))
theorem impl_WatchdogTrips.mono_l : ∀ k, (∀ y0 y1 y2 y3 y4, LeO (impl_WatchdogTrips.j0 k y0 y1 y2 y3 y4) (impl_WatchdogTrips.j0 (k + 1) y0 y1 y2 y3 y4)) ∧ (∀ y0 y1 y2 y3 y4 y5, LeO (impl_WatchdogTrips.l0 k y0 y1 y2 y3 y4 y5) (impl_WatchdogTrips.l0 (k + 1) y0 y1 y2 y3 y4 y5))
  | 0 => ⟨fun _ _ _ _ _ r h => by simp [impl_WatchdogTrips.j0] at h, fun _ _ _ _ _ _ r h => by simp [impl_WatchdogTrips.l0] at h⟩
  | k + 1 => by
    obtain ⟨ih0, ih1⟩ := impl_WatchdogTrips.mono_l k
    refine ⟨?_, ?_⟩
    · intro y0 y1 y2 y3 y4
      unfold impl_WatchdogTrips.j0
      repeat' first
      | (with_reducible exact ih0 _ _ _ _ _)
      | (with_reducible exact ih1 _ _ _ _ _ _)
      | (with_reducible exact impl_TaskSchedule.mono _ _ _)
      | (with_reducible exact LeO.refl _)
      | (with_reducible exact LeO.none _)
      | (with_reducible refine LeO.ite ?_ ?_)
      | (with_reducible refine LeO.bind ?_ (fun _ => ?_))
      | exact ih0 _ _ _ _ _
      | exact ih1 _ _ _ _ _ _
      | exact impl_TaskSchedule.mono _ _ _
      | exact LeO.none _
      | refine LeO.ite ?_ ?_
      | refine LeO.bind ?_ (fun _ => ?_)
    · intro y0 y1 y2 y3 y4 y5
      unfold impl_WatchdogTrips.l0
      repeat' first
      | (with_reducible exact ih0 _ _ _ _ _)
      | (with_reducible exact ih1 _ _ _ _ _ _)
      | (with_reducible exact impl_TaskSchedule.mono _ _ _)
      | (with_reducible exact LeO.refl _)
      | (with_reducible exact LeO.none _)
      | (with_reducible refine LeO.ite ?_ ?_)
      | (with_reducible refine LeO.bind ?_ (fun _ => ?_))
      | exact ih0 _ _ _ _ _
      | exact ih1 _ _ _ _ _ _
      | exact impl_TaskSchedule.mono _ _ _
      | exact LeO.none _
      | refine LeO.ite ?_ ?_
      | refine LeO.bind ?_ (fun _ => ?_)
theorem impl_WatchdogTrips.mono : ∀ a0 a1 a2 a3 k, LeO (impl_WatchdogTrips.f k a0 a1 a2 a3) (impl_WatchdogTrips.f (k + 1) a0 a1 a2 a3) := by
  intro a0 a1 a2 a3 k
  obtain ⟨ih0, ih1⟩ := impl_WatchdogTrips.mono_l k
  unfold impl_WatchdogTrips.f
  repeat' first
      | (with_reducible exact ih0 _ _ _ _ _)
      | (with_reducible exact ih1 _ _ _ _ _ _)
      | (with_reducible exact impl_TaskSchedule.mono _ _ _)
      | (with_reducible exact LeO.refl _)
      | (with_reducible exact LeO.none _)
      | (with_reducible refine LeO.ite ?_ ?_)
      | (with_reducible refine LeO.bind ?_ (fun _ => ?_))
      | exact ih0 _ _ _ _ _
      | exact ih1 _ _ _ _ _ _
      | exact impl_TaskSchedule.mono _ _ _
      | exact LeO.none _
      | refine LeO.ite ?_ ?_
      | refine LeO.bind ?_ (fun _ => ?_)
set_option maxHeartbeats 8000000 in
set_option maxRecDepth 100000 in
theorem impl_WatchdogTrips.calls (k : Nat) (A0 : Option Addr) (c0 : Nat) (l0 : List (S96)) (a1 : Int) (a2 : Int) (a3 : Int) (r : Int) (w : World) (hr0 : Kd.C k96 w A0 l0.length l0) (hc0 : l0.length ≤ c0) (h : impl_WatchdogTrips.f k l0 a1 a2 a3 = some r) :
    Calls Try.prog 65 #[.slice A0 l0.length c0, .int .i64 a1, .int .i64 a2, .int .i64 a3] w fun e w' => e = .returned (.int .i64 r) ∧ Below w.heap.size w w' := by
  have HR0 := Aside0.mk hr0
  have HC0 := Aside0.mk hc0
  clear hr0 hc0
  have HB := Aside0.mk (Below.refl w.heap.size w)
  have H : ((impl_TasksValid.f l0).bind fun t201 => (if t201 = true then ((impl_in.f a1 0 1000).bind fun t202 => (if t202 = true then ((impl_in.f a2 0 (wrap64 ((l0.length : Int) - 1))).bind fun t203 => (if t203 = true then ((impl_in.f a3 1 1000).bind fun t204 => (impl_WatchdogTrips.j0 k l0 a1 a2 a3 (!t204))) else (impl_WatchdogTrips.j0 k l0 a1 a2 a3 true))) else (impl_WatchdogTrips.j0 k l0 a1 a2 a3 true))) else (impl_WatchdogTrips.j0 k l0 a1 a2 a3 true))) = some r := h
  clear h
  have HC5 := Aside0.mk H
  clear H
  go_enter Try.func65, Try.ntmps65
  go_upto_region 1 with (fail)
  go_cut [33] (fun v33 wc => ∃ (kq : Nat) (x33_4 : Bool), v33 = .bool x33_4 ∧ Aside0 (impl_WatchdogTrips.j0 kq l0 a1 a2 a3 x33_4 = some r) ∧ Aside0 (kq ≤ k) ∧ Aside0 (Below w.heap.size w wc))
  case first =>
    have H := HC5.out
    clear HC5
    replace H := Option.bind_eq_some_iff.mp H
    obtain ⟨t201, A60, H⟩ := H
    replace H : (if t201 = true then ((impl_in.f a1 0 1000).bind fun t202 => (if t202 = true then ((impl_in.f a2 0 (wrap64 ((l0.length : Int) - 1))).bind fun t203 => (if t203 = true then ((impl_in.f a3 1 1000).bind fun t204 => (impl_WatchdogTrips.j0 k l0 a1 a2 a3 (!t204))) else (impl_WatchdogTrips.j0 k l0 a1 a2 a3 true))) else (impl_WatchdogTrips.j0 k l0 a1 a2 a3 true))) else (impl_WatchdogTrips.j0 k l0 a1 a2 a3 true)) = some r := H
    have A6 := Aside0.mk A60
    clear A60
    by_cases c7 : t201 = true
    rotate_left
    · replace c7 := Bool.eq_false_iff.mpr c7
      subst c7
      have H1 : (impl_WatchdogTrips.j0 k l0 a1 a2 a3 true) = some r := by rw [if_neg (show ¬ (false = true) by decide)] at H; exact H
      clear H
      have H := H1
      clear H1
      have H' := Aside0.mk H
      clear H
      go_wp2_with (first | ((with_reducible refine gate_callee (f := 30) rfl ?_); refine goesL_ (some 14) rfl rfl Try.func30 (by kernel_rfl) rfl #[.slice A0 l0.length c0] rfl (by (try simp only [List.map_toArray, List.map_cons, List.map_nil]); first | done | rfl | (simp only [List.length_drop, List.length_take]; rfl)) ?_; (with_reducible refine (impl_TasksValid.calls _ _ l0 false _ ?side1 ?side2 A6.out).mono ?_); (case side1 => repeat (first | exact (Kd.C_below HR0.out HB.out) | (with_reducible refine Kd.C_alloc ?_ _) | (with_reducible refine Kd.C_drewN ?_ _) | (with_reducible refine Kd.C_drew ?_))); (case side2 => exact HC0.out); rintro e w16 ⟨rfl, hb⟩; refine ⟨_, rfl, ?_⟩; have n0_ := Aside0.mk (below_step (by repeat (first | (with_reducible first | exact HB.out | apply below_alloc | apply pw_below_drewN | apply below_drew1) | exact HB.out)) hb); clear HB; have HB := n0_; clear n0_; (try clear hb); (try clear hb2); (try clear hk); (try clear hi)))
      go_meet
      case rel => exact ⟨_, (true), (by first | rfl | (simp; done) | (simp [*]; done)), H', ⟨by first | omega | exact Nat.le_refl _⟩, ⟨by repeat (first | (with_reducible first | exact HB.out | apply below_alloc | apply pw_below_drewN | apply below_drew1) | exact HB.out)⟩⟩
    subst c7
    have H1 : ((impl_in.f a1 0 1000).bind fun t202 => (if t202 = true then ((impl_in.f a2 0 (wrap64 ((l0.length : Int) - 1))).bind fun t203 => (if t203 = true then ((impl_in.f a3 1 1000).bind fun t204 => (impl_WatchdogTrips.j0 k l0 a1 a2 a3 (!t204))) else (impl_WatchdogTrips.j0 k l0 a1 a2 a3 true))) else (impl_WatchdogTrips.j0 k l0 a1 a2 a3 true))) = some r := by rw [if_pos rfl] at H; exact H
    clear H
    have H := H1
    clear H1
    replace H := Option.bind_eq_some_iff.mp H
    obtain ⟨t202, A80, H⟩ := H
    replace H : (if t202 = true then ((impl_in.f a2 0 (wrap64 ((l0.length : Int) - 1))).bind fun t203 => (if t203 = true then ((impl_in.f a3 1 1000).bind fun t204 => (impl_WatchdogTrips.j0 k l0 a1 a2 a3 (!t204))) else (impl_WatchdogTrips.j0 k l0 a1 a2 a3 true))) else (impl_WatchdogTrips.j0 k l0 a1 a2 a3 true)) = some r := H
    have A8 := Aside0.mk A80
    clear A80
    by_cases c9 : t202 = true
    rotate_left
    · replace c9 := Bool.eq_false_iff.mpr c9
      subst c9
      have H1 : (impl_WatchdogTrips.j0 k l0 a1 a2 a3 true) = some r := by rw [if_neg (show ¬ (false = true) by decide)] at H; exact H
      clear H
      have H := H1
      clear H1
      have H' := Aside0.mk H
      clear H
      go_wp2_with (first | ((with_reducible refine gate_callee (f := 30) rfl ?_); refine goesL_ (some 14) rfl rfl Try.func30 (by kernel_rfl) rfl #[.slice A0 l0.length c0] rfl (by (try simp only [List.map_toArray, List.map_cons, List.map_nil]); first | done | rfl | (simp only [List.length_drop, List.length_take]; rfl)) ?_; (with_reducible refine (impl_TasksValid.calls _ _ l0 true _ ?side1 ?side2 A6.out).mono ?_); (case side1 => repeat (first | exact (Kd.C_below HR0.out HB.out) | (with_reducible refine Kd.C_alloc ?_ _) | (with_reducible refine Kd.C_drewN ?_ _) | (with_reducible refine Kd.C_drew ?_))); (case side2 => exact HC0.out); rintro e w15 ⟨rfl, hb⟩; refine ⟨_, rfl, ?_⟩; have n0_ := Aside0.mk (below_step (by repeat (first | (with_reducible first | exact HB.out | apply below_alloc | apply pw_below_drewN | apply below_drew1) | exact HB.out)) hb); clear HB; have HB := n0_; clear n0_; (try clear hb); (try clear hb2); (try clear hk); (try clear hi)) | (go_at_call 74; (with_reducible refine (impl_in.calls a1 0 1000 false _ A8.out).mono ?_); rintro e w' ⟨rfl, ⟨nd, rfl⟩⟩))
      go_meet
      case rel => exact ⟨_, (true), (by first | rfl | (simp; done) | (simp [*]; done)), H', ⟨by first | omega | exact Nat.le_refl _⟩, ⟨by repeat (first | (with_reducible first | exact HB.out | apply below_alloc | apply pw_below_drewN | apply below_drew1) | exact HB.out)⟩⟩
    subst c9
    have H1 : ((impl_in.f a2 0 (wrap64 ((l0.length : Int) - 1))).bind fun t203 => (if t203 = true then ((impl_in.f a3 1 1000).bind fun t204 => (impl_WatchdogTrips.j0 k l0 a1 a2 a3 (!t204))) else (impl_WatchdogTrips.j0 k l0 a1 a2 a3 true))) = some r := by rw [if_pos rfl] at H; exact H
    clear H
    have H := H1
    clear H1
    replace H := Option.bind_eq_some_iff.mp H
    obtain ⟨t203, A100, H⟩ := H
    replace H : (if t203 = true then ((impl_in.f a3 1 1000).bind fun t204 => (impl_WatchdogTrips.j0 k l0 a1 a2 a3 (!t204))) else (impl_WatchdogTrips.j0 k l0 a1 a2 a3 true)) = some r := H
    have A10 := Aside0.mk A100
    clear A100
    by_cases c11 : t203 = true
    rotate_left
    · replace c11 := Bool.eq_false_iff.mpr c11
      subst c11
      have H1 : (impl_WatchdogTrips.j0 k l0 a1 a2 a3 true) = some r := by rw [if_neg (show ¬ (false = true) by decide)] at H; exact H
      clear H
      have H := H1
      clear H1
      have H' := Aside0.mk H
      clear H
      go_wp2_with (first | ((with_reducible refine gate_callee (f := 30) rfl ?_); refine goesL_ (some 14) rfl rfl Try.func30 (by kernel_rfl) rfl #[.slice A0 l0.length c0] rfl (by (try simp only [List.map_toArray, List.map_cons, List.map_nil]); first | done | rfl | (simp only [List.length_drop, List.length_take]; rfl)) ?_; (with_reducible refine (impl_TasksValid.calls _ _ l0 true _ ?side1 ?side2 A6.out).mono ?_); (case side1 => repeat (first | exact (Kd.C_below HR0.out HB.out) | (with_reducible refine Kd.C_alloc ?_ _) | (with_reducible refine Kd.C_drewN ?_ _) | (with_reducible refine Kd.C_drew ?_))); (case side2 => exact HC0.out); rintro e w14 ⟨rfl, hb⟩; refine ⟨_, rfl, ?_⟩; have n0_ := Aside0.mk (below_step (by repeat (first | (with_reducible first | exact HB.out | apply below_alloc | apply pw_below_drewN | apply below_drew1) | exact HB.out)) hb); clear HB; have HB := n0_; clear n0_; (try clear hb); (try clear hb2); (try clear hk); (try clear hi)) | (go_at_call 74; (with_reducible refine (impl_in.calls a1 0 1000 true _ A8.out).mono ?_); rintro e w' ⟨rfl, ⟨nd, rfl⟩⟩) | (go_at_call 74; (with_reducible refine (impl_in.calls a2 0 (wrap64 ((l0.length : Int) - 1)) false _ A10.out).mono ?_); rintro e w' ⟨rfl, ⟨nd, rfl⟩⟩))
      go_meet
      case rel => exact ⟨_, (true), (by first | rfl | (simp; done) | (simp [*]; done)), H', ⟨by first | omega | exact Nat.le_refl _⟩, ⟨by repeat (first | (with_reducible first | exact HB.out | apply below_alloc | apply pw_below_drewN | apply below_drew1) | exact HB.out)⟩⟩
    subst c11
    have H1 : ((impl_in.f a3 1 1000).bind fun t204 => (impl_WatchdogTrips.j0 k l0 a1 a2 a3 (!t204))) = some r := by rw [if_pos rfl] at H; exact H
    clear H
    have H := H1
    clear H1
    replace H := Option.bind_eq_some_iff.mp H
    obtain ⟨t204, A120, H⟩ := H
    replace H : (impl_WatchdogTrips.j0 k l0 a1 a2 a3 (!t204)) = some r := H
    have A12 := Aside0.mk A120
    clear A120
    have H' := Aside0.mk H
    clear H
    go_wp2_with (first | ((with_reducible refine gate_callee (f := 30) rfl ?_); refine goesL_ (some 14) rfl rfl Try.func30 (by kernel_rfl) rfl #[.slice A0 l0.length c0] rfl (by (try simp only [List.map_toArray, List.map_cons, List.map_nil]); first | done | rfl | (simp only [List.length_drop, List.length_take]; rfl)) ?_; (with_reducible refine (impl_TasksValid.calls _ _ l0 true _ ?side1 ?side2 A6.out).mono ?_); (case side1 => repeat (first | exact (Kd.C_below HR0.out HB.out) | (with_reducible refine Kd.C_alloc ?_ _) | (with_reducible refine Kd.C_drewN ?_ _) | (with_reducible refine Kd.C_drew ?_))); (case side2 => exact HC0.out); rintro e w13 ⟨rfl, hb⟩; refine ⟨_, rfl, ?_⟩; have n0_ := Aside0.mk (below_step (by repeat (first | (with_reducible first | exact HB.out | apply below_alloc | apply pw_below_drewN | apply below_drew1) | exact HB.out)) hb); clear HB; have HB := n0_; clear n0_; (try clear hb); (try clear hb2); (try clear hk); (try clear hi)) | (go_at_call 74; (with_reducible refine (impl_in.calls a1 0 1000 true _ A8.out).mono ?_); rintro e w' ⟨rfl, ⟨nd, rfl⟩⟩) | (go_at_call 74; (with_reducible refine (impl_in.calls a2 0 (wrap64 ((l0.length : Int) - 1)) true _ A10.out).mono ?_); rintro e w' ⟨rfl, ⟨nd, rfl⟩⟩) | (go_at_call 74; (with_reducible refine (impl_in.calls a3 1 1000 t204 _ A12.out).mono ?_); rintro e w' ⟨rfl, ⟨nd, rfl⟩⟩))
    go_meet
    case rel => exact ⟨_, (!t204), (by first | rfl | (simp; done) | (simp [*]; done)), H', ⟨by first | omega | exact Nat.le_refl _⟩, ⟨by repeat (first | (with_reducible first | exact HB.out | apply below_alloc | apply pw_below_drewN | apply below_drew1) | exact HB.out)⟩⟩
  clear HC5
  try clear c1
  try clear p2
  try clear c3
  try clear c6
  try clear p6
  try clear c7
  try clear c9
  try clear c11
  obtain ⟨kq, x33_4, rfl, HA, HJ4, HB⟩ := hcut
  rcases kq with _ | kj4
  · exact absurd HA.out (by simp [impl_WatchdogTrips.j0])
  have H := HA.out
  clear HA
  simp only [impl_WatchdogTrips.j0] at H
  by_cases c17 : x33_4 = true
  · subst c17
    have H1 : (some (-1)) = some r := by rw [if_pos rfl] at H; exact H
    clear H
    have H := H1
    clear H1
    obtain rfl := Option.some.inj H
    go_wp2
    go_ret
    exact ⟨by first | rfl | (simp [errW_none, errW_some] <;> rfl) | (simp [*, errW_none, errW_some] <;> rfl), by repeat (first | (with_reducible first | exact HB.out | apply below_alloc | apply pw_below_drewN | apply below_drew1) | exact HB.out)⟩
  replace c17 := Bool.eq_false_iff.mpr c17
  subst c17
  have H1 : ((impl_TaskSchedule.f kj4 l0 a1).bind fun bt205 => (impl_WatchdogTrips.l0 kj4 a2 a3 bt205.1 0 a1 0)) = some r := by rw [if_neg (show ¬ (false = true) by decide)] at H; exact H
  clear H
  have H := H1
  clear H1
  replace H := Option.bind_eq_some_iff.mp H
  obtain ⟨⟨t205, t206⟩, A180, H⟩ := H
  replace H : (impl_WatchdogTrips.l0 kj4 a2 a3 t205 0 a1 0) = some r := H
  have A18 := Aside0.mk A180
  clear A180
  have H' := Aside0.mk H
  clear H
  go_wp2_with (first | ((with_reducible refine gate_callee (f := 67) rfl ?_); refine goesL_ (some 37) rfl rfl Try.func67 (by kernel_rfl) rfl #[.slice A0 l0.length c0, .int .i64 a1] rfl (by (try simp only [List.map_toArray, List.map_cons, List.map_nil]); first | done | rfl | (simp only [List.length_drop, List.length_take]; rfl)) ?_; (with_reducible refine (impl_TaskSchedule.calls kj4 _ _ l0 a1 t205 t206 _ ?side1 ?side2 A18.out).mono ?_); (case side1 => repeat (first | exact (Kd.C_below HR0.out HB.out) | (with_reducible refine Kd.C_alloc ?_ _) | (with_reducible refine Kd.C_drewN ?_ _) | (with_reducible refine Kd.C_drew ?_))); (case side2 => exact HC0.out); rintro e w19 ⟨v207, v209, rfl, ho0, ho1, hb⟩; refine ⟨_, rfl, ?_⟩; have n0_ := Aside0.mk (Kd.R_lower ho0 (below_size (by repeat (first | (with_reducible first | exact HB.out | apply below_alloc | apply pw_below_drewN | apply below_drew1) | exact HB.out)))); have n1_ := Aside0.mk (Kd.R_lower ho1 (below_size (by repeat (first | (with_reducible first | exact HB.out | apply below_alloc | apply pw_below_drewN | apply below_drew1) | exact HB.out)))); have n2_ := Aside0.mk (below_step (by repeat (first | (with_reducible first | exact HB.out | apply below_alloc | apply pw_below_drewN | apply below_drew1) | exact HB.out)) hb); clear HB; have HO208 := n0_; have HO210 := n1_; have HB := n2_; clear n0_ n1_ n2_; (try clear hb); (try clear hb2); (try clear hk); (try clear hi); (try clear ho0); (try clear ho1)))
  go_loopg [11, 41] kj4 (fun kq v11 v41 w' => ∃ (x11_2 : Int) (x41_2 : Int), v11 = .int .i64 x11_2 ∧ v41 = .int .i64 x41_2 ∧ Aside0 (impl_WatchdogTrips.l0 kq a2 a3 t205 x11_2 a1 x41_2 = some r) ∧ Aside0 (kq ≤ kj4) ∧ Aside0 (Kd.R (Kd.int .i64) 3 w' w.heap.size (fun _ => True) v207 t205) ∧ Aside0 (Below w.heap.size w w'))
  case atStart => exact ⟨(0), (0), (by first | rfl | (simp; done) | (simp [*]; done)), (by first | rfl | (simp; done) | (simp [*]; done)), H', ⟨Nat.le_refl _⟩, ⟨by (with_reducible repeat (first | apply Kd.R_alloc | apply Kd.R_drewN | apply Kd.R_drew)); exact Kd.R_mono HO208.out (fun _ hk => trivial)⟩, ⟨by repeat (first | (with_reducible first | exact HB.out | apply below_alloc | apply pw_below_drewN | apply below_drew1) | exact HB.out)⟩⟩
  clear H'
  try clear c1
  try clear p2
  try clear c3
  try clear c6
  try clear p6
  try clear c7
  try clear c9
  try clear c11
  try clear c17
  try clear p2
  try clear p6
  obtain ⟨x11_2, x41_2, rfl, rfl, HA, HK2, HO_9, HB⟩ := hrel
  rcases gk with _ | k2
  · exact absurd HA.out (by simp [impl_WatchdogTrips.l0])
  have H := HA.out
  clear HA
  simp only [impl_WatchdogTrips.l0] at H
  by_cases c20 : x41_2 < a1
  rotate_left
  · rw [if_neg c20] at H
    have c20b0 : decide (x41_2 < a1) = false := decide_eq_false c20
    clear c20
    obtain rfl := Option.some.inj H
    go_wp2
    go_ret
    exact ⟨by first | rfl | (simp [errW_none, errW_some] <;> rfl) | (simp [*, errW_none, errW_some] <;> rfl), by repeat (first | (with_reducible first | exact HB.out | apply below_alloc | apply pw_below_drewN | apply below_drew1) | exact HB.out)⟩
  rw [if_pos c20] at H
  have c20b0 : decide (x41_2 < a1) = true := decide_eq_true c20
  clear c20
  by_cases c21 : x11_2 ≥ a3
  · rw [if_pos c21] at H
    have c21b0 : decide (a3 ≤ x11_2) = true := decide_eq_true c21
    clear c21
    obtain rfl := Option.some.inj H
    go_wp2
    go_ret
    exact ⟨by first | rfl | (simp [errW_none, errW_some] <;> rfl) | (simp [*, errW_none, errW_some] <;> rfl), by repeat (first | (with_reducible first | exact HB.out | apply below_alloc | apply pw_below_drewN | apply below_drew1) | exact HB.out)⟩
  rw [if_neg c21] at H
  have c21b0 : decide (a3 ≤ x11_2) = false := decide_eq_false c21
  clear c21
  by_cases c22 : 0 ≤ x41_2
  rotate_left
  · rw [if_neg c22] at H
    exact absurd H (by simp)
  rw [if_pos c22] at H
  have c22b0 : decide (0 ≤ x41_2) = true := decide_eq_true c22
  clear c22
  by_cases c23 : x41_2 < (t205.length : Int)
  rotate_left
  · rw [if_neg c23] at H
    exact absurd H (by simp)
  rw [if_pos c23] at H
  have c23b0 : decide (x41_2 < (t205.length : Int)) = true := decide_eq_true c23
  clear c23
  by_cases c24 : (rd t205 x41_2) = a2
  · rw [if_pos c24] at H
    have c24b0 : ((rd t205 x41_2) == a2) = true := beq_iff_eq.mpr c24
    have c24b1 : ((rd t205 x41_2) != a2) = false := bne_eq_false_iff_eq.mpr c24
    clear c24
    have H' := Aside0.mk H
    clear H
    obtain ⟨Ao25, co25, eo25⟩ := Kd.R_slice HO_9.out
    subst eo25
    have p211 : 0 ≤ (x41_2 : Int) := of_decide_eq_true (by with_reducible assumption)
    have q211 : x41_2 < (t205.length : Int) := of_decide_eq_true (by with_reducible assumption)
    obtain ⟨ad211, e211, hx211_0⟩ := Kd.at_int (Kd.R_reads' HO_9.out).2.2 x41_2 p211 q211
    cases e211
    replace p211 := eq_true p211
    replace q211 := eq_true q211
    go_wp2
    go_roundg k2
    case measure => have := HJ4.out; have := HK2.out; omega
    case rel => exact ⟨(0), (wrap64 (x41_2 + 1)), (by first | rfl | (simp; done) | (simp [*]; done)), (by first | rfl | (simp; done) | (simp [*]; done)), H', ⟨by have := HJ4.out; have := HK2.out; omega⟩, ⟨by (with_reducible repeat (first | apply Kd.R_alloc | apply Kd.R_drewN | apply Kd.R_drew)); exact HO_9.out⟩, ⟨by repeat (first | (with_reducible first | exact HB.out | apply below_alloc | apply pw_below_drewN | apply below_drew1) | exact HB.out)⟩⟩
  rw [if_neg c24] at H
  have c24b0 : ((rd t205 x41_2) == a2) = false := beq_eq_false_iff_ne.mpr c24
  have c24b1 : ((rd t205 x41_2) != a2) = true := bne_iff_ne.mpr c24
  have H' := Aside0.mk H
  clear H
  obtain ⟨Ao26, co26, eo26⟩ := Kd.R_slice HO_9.out
  subst eo26
  have p211 : 0 ≤ (x41_2 : Int) := of_decide_eq_true (by with_reducible assumption)
  have q211 : x41_2 < (t205.length : Int) := of_decide_eq_true (by with_reducible assumption)
  obtain ⟨ad211, e211, hx211_0⟩ := Kd.at_int (Kd.R_reads' HO_9.out).2.2 x41_2 p211 q211
  cases e211
  replace p211 := eq_true p211
  replace q211 := eq_true q211
  go_wp2
  go_roundg k2
  case measure => have := HJ4.out; have := HK2.out; omega
  case rel => exact ⟨(wrap64 (x11_2 + 1)), (wrap64 (x41_2 + 1)), (by first | rfl | (simp; done) | (simp [*]; done)), (by first | rfl | (simp; done) | (simp [*]; done)), H', ⟨by have := HJ4.out; have := HK2.out; omega⟩, ⟨by (with_reducible repeat (first | apply Kd.R_alloc | apply Kd.R_drewN | apply Kd.R_drew)); exact HO_9.out⟩, ⟨by repeat (first | (with_reducible first | exact HB.out | apply below_alloc | apply pw_below_drewN | apply below_drew1) | exact HB.out)⟩⟩/-! ### laws_FnExactWatchdogTrips: function 14 -/
def laws_FnExactWatchdogTrips.f (k : Nat) (l0 : List (S98)) (a1 : Int) (a2 : Int) (a3 : Int) : Option (Bool) := (laws_szTaskS.f l0 1048576).bind fun t212 => (if t212 < 0 then (some true) else ((laws_toTaskS.f k l0).bind fun t213 => ((spec_WatchdogTrips.f k t213 a1 a2 a3).bind fun t216 => ((laws_toTaskS.f k l0).bind fun t217 => ((impl_WatchdogTrips.f k t217 a1 a2 a3).bind fun t220 => (if t220 = t216 then ((laws_toTaskS.f k l0).bind fun t221 => ((laws_eqTaskS.f k t217 t221).bind fun t224 => (if t224 = true then (some true) else (some false)))) else (some false)))))))
theorem laws_FnExactWatchdogTrips.mono : ∀ a0 a1 a2 a3 k, LeO (laws_FnExactWatchdogTrips.f k a0 a1 a2 a3) (laws_FnExactWatchdogTrips.f (k + 1) a0 a1 a2 a3) := by
  intro a0 a1 a2 a3 k
  unfold laws_FnExactWatchdogTrips.f
  repeat' first
      | (with_reducible exact impl_WatchdogTrips.mono _ _ _ _ _)
      | (with_reducible exact laws_eqTaskS.mono _ _ _)
      | (with_reducible exact laws_toTaskS.mono _ _)
      | (with_reducible exact spec_WatchdogTrips.mono _ _ _ _ _)
      | (with_reducible exact LeO.refl _)
      | (with_reducible exact LeO.none _)
      | (with_reducible refine LeO.ite ?_ ?_)
      | (with_reducible refine LeO.bind ?_ (fun _ => ?_))
      | exact impl_WatchdogTrips.mono _ _ _ _ _
      | exact laws_eqTaskS.mono _ _ _
      | exact laws_toTaskS.mono _ _
      | exact spec_WatchdogTrips.mono _ _ _ _ _
      | exact LeO.none _
      | refine LeO.ite ?_ ?_
      | refine LeO.bind ?_ (fun _ => ?_)
set_option maxHeartbeats 8000000 in
set_option maxRecDepth 100000 in
theorem laws_FnExactWatchdogTrips.calls (k : Nat) (A0 : Option Addr) (c0 : Nat) (l0 : List (S98)) (a1 : Int) (a2 : Int) (a3 : Int) (r : Bool) (w : World) (hr0 : Kd.C k98 w A0 l0.length l0) (hc0 : l0.length ≤ c0) (h : laws_FnExactWatchdogTrips.f k l0 a1 a2 a3 = some r) (hrt : r = true) :
    Calls Try.prog 14 #[.slice A0 l0.length c0, .int .i64 a1, .int .i64 a2, .int .i64 a3] w fun e w' => e = .returned (.bool r) ∧ Below w.heap.size w w' := by
  have HR0 := Aside0.mk hr0
  have HC0 := Aside0.mk hc0
  clear hr0 hc0
  have HB := Aside0.mk (Below.refl w.heap.size w)
  have H : ((laws_szTaskS.f l0 1048576).bind fun t212 => (if t212 < 0 then (some true) else ((laws_toTaskS.f k l0).bind fun t213 => ((spec_WatchdogTrips.f k t213 a1 a2 a3).bind fun t216 => ((laws_toTaskS.f k l0).bind fun t217 => ((impl_WatchdogTrips.f k t217 a1 a2 a3).bind fun t220 => (if t220 = t216 then ((laws_toTaskS.f k l0).bind fun t221 => ((laws_eqTaskS.f k t217 t221).bind fun t224 => (if t224 = true then (some true) else (some false)))) else (some false)))))))) = some r := h
  clear h
  replace H := Option.bind_eq_some_iff.mp H
  obtain ⟨t212, A50, H⟩ := H
  replace H : (if t212 < 0 then (some true) else ((laws_toTaskS.f k l0).bind fun t213 => ((spec_WatchdogTrips.f k t213 a1 a2 a3).bind fun t216 => ((laws_toTaskS.f k l0).bind fun t217 => ((impl_WatchdogTrips.f k t217 a1 a2 a3).bind fun t220 => (if t220 = t216 then ((laws_toTaskS.f k l0).bind fun t221 => ((laws_eqTaskS.f k t217 t221).bind fun t224 => (if t224 = true then (some true) else (some false)))) else (some false))))))) = some r := H
  have A5 := Aside0.mk A50
  clear A50
  by_cases c6 : t212 < 0
  · rw [if_pos c6] at H
    have c6b0 : decide (t212 < 0) = true := decide_eq_true c6
    clear c6
    obtain rfl := Option.some.inj H
    go_enter Try.func14, Try.ntmps14
    go_wp2_with (first | ((with_reducible refine gate_callee (f := 27) rfl ?_); refine goesL_ (some 15) rfl rfl Try.func27 (by kernel_rfl) rfl #[.slice A0 l0.length c0, .int .i64 1048576] rfl (by (try simp only [List.map_toArray, List.map_cons, List.map_nil]); first | done | rfl | (simp only [List.length_drop, List.length_take]; rfl)) ?_; (with_reducible refine (laws_szTaskS.calls _ _ l0 1048576 t212 _ ?side1 ?side2 A5.out).mono ?_); (case side1 => repeat (first | exact HR0.out | (with_reducible refine Kd.C_alloc ?_ _) | (with_reducible refine Kd.C_drewN ?_ _) | (with_reducible refine Kd.C_drew ?_))); (case side2 => exact HC0.out); rintro e w' ⟨rfl, ⟨nd, rfl⟩⟩; refine ⟨_, rfl, ?_⟩))
    go_ret
    exact ⟨by first | rfl | (simp [errW_none, errW_some] <;> rfl) | (simp [*, errW_none, errW_some] <;> rfl), by repeat (first | (with_reducible first | exact HB.out | apply below_alloc | apply pw_below_drewN | apply below_drew1) | exact HB.out)⟩
  rw [if_neg c6] at H
  have c6b0 : decide (t212 < 0) = false := decide_eq_false c6
  clear c6
  replace H := Option.bind_eq_some_iff.mp H
  obtain ⟨t213, A70, H⟩ := H
  replace H : ((spec_WatchdogTrips.f k t213 a1 a2 a3).bind fun t216 => ((laws_toTaskS.f k l0).bind fun t217 => ((impl_WatchdogTrips.f k t217 a1 a2 a3).bind fun t220 => (if t220 = t216 then ((laws_toTaskS.f k l0).bind fun t221 => ((laws_eqTaskS.f k t217 t221).bind fun t224 => (if t224 = true then (some true) else (some false)))) else (some false))))) = some r := H
  have A7 := Aside0.mk A70
  clear A70
  replace H := Option.bind_eq_some_iff.mp H
  obtain ⟨t216, A80, H⟩ := H
  replace H : ((laws_toTaskS.f k l0).bind fun t217 => ((impl_WatchdogTrips.f k t217 a1 a2 a3).bind fun t220 => (if t220 = t216 then ((laws_toTaskS.f k l0).bind fun t221 => ((laws_eqTaskS.f k t217 t221).bind fun t224 => (if t224 = true then (some true) else (some false)))) else (some false)))) = some r := H
  have A8 := Aside0.mk A80
  clear A80
  replace H := Option.bind_eq_some_iff.mp H
  obtain ⟨t217, A90, H⟩ := H
  replace H : ((impl_WatchdogTrips.f k t217 a1 a2 a3).bind fun t220 => (if t220 = t216 then ((laws_toTaskS.f k l0).bind fun t221 => ((laws_eqTaskS.f k t217 t221).bind fun t224 => (if t224 = true then (some true) else (some false)))) else (some false))) = some r := H
  have A9 := Aside0.mk A90
  clear A90
  replace H := Option.bind_eq_some_iff.mp H
  obtain ⟨t220, A100, H⟩ := H
  replace H : (if t220 = t216 then ((laws_toTaskS.f k l0).bind fun t221 => ((laws_eqTaskS.f k t217 t221).bind fun t224 => (if t224 = true then (some true) else (some false)))) else (some false)) = some r := H
  have A10 := Aside0.mk A100
  clear A100
  by_cases c11 : t220 = t216
  rotate_left
  · rw [if_neg c11] at H
    have c11b0 : (t220 == t216) = false := beq_eq_false_iff_ne.mpr c11
    have c11b1 : (t220 != t216) = true := bne_iff_ne.mpr c11
    exact absurd (hrt.symm.trans (Option.some.inj H).symm) (by decide)
  rw [if_pos c11] at H
  have c11b0 : (t220 == t216) = true := beq_iff_eq.mpr c11
  have c11b1 : (t220 != t216) = false := bne_eq_false_iff_eq.mpr c11
  clear c11
  replace H := Option.bind_eq_some_iff.mp H
  obtain ⟨t221, A120, H⟩ := H
  replace H : ((laws_eqTaskS.f k t217 t221).bind fun t224 => (if t224 = true then (some true) else (some false))) = some r := H
  have A12 := Aside0.mk A120
  clear A120
  replace H := Option.bind_eq_some_iff.mp H
  obtain ⟨t224, A130, H⟩ := H
  replace H : (if t224 = true then (some true) else (some false)) = some r := H
  have A13 := Aside0.mk A130
  clear A130
  by_cases c14 : t224 = true
  rotate_left
  · replace c14 := Bool.eq_false_iff.mpr c14
    subst c14
    have H1 : (some false) = some r := by rw [if_neg (show ¬ (false = true) by decide)] at H; exact H
    clear H
    have H := H1
    clear H1
    exact absurd (hrt.symm.trans (Option.some.inj H).symm) (by decide)
  subst c14
  have H1 : (some true) = some r := by rw [if_pos rfl] at H; exact H
  clear H
  have H := H1
  clear H1
  obtain rfl := Option.some.inj H
  go_enter Try.func14, Try.ntmps14
  go_wp2_with (first | ((with_reducible refine gate_callee (f := 27) rfl ?_); refine goesL_ (some 15) rfl rfl Try.func27 (by kernel_rfl) rfl #[.slice A0 l0.length c0, .int .i64 1048576] rfl (by (try simp only [List.map_toArray, List.map_cons, List.map_nil]); first | done | rfl | (simp only [List.length_drop, List.length_take]; rfl)) ?_; (with_reducible refine (laws_szTaskS.calls _ _ l0 1048576 t212 _ ?side1 ?side2 A5.out).mono ?_); (case side1 => repeat (first | exact HR0.out | (with_reducible refine Kd.C_alloc ?_ _) | (with_reducible refine Kd.C_drewN ?_ _) | (with_reducible refine Kd.C_drew ?_))); (case side2 => exact HC0.out); rintro e w' ⟨rfl, ⟨nd, rfl⟩⟩; refine ⟨_, rfl, ?_⟩) | ((with_reducible refine gate_callee (f := 29) rfl ?_); refine goesL_ (some 19) rfl rfl Try.func29 (by kernel_rfl) rfl #[.slice A0 l0.length c0] rfl (by (try simp only [List.map_toArray, List.map_cons, List.map_nil]); first | done | rfl | (simp only [List.length_drop, List.length_take]; rfl)) ?_; (with_reducible refine (laws_toTaskS.calls k _ _ l0 t213 _ ?side1 ?side2 A7.out).mono ?_); (case side1 => repeat (first | exact HR0.out | (with_reducible refine Kd.C_alloc ?_ _) | (with_reducible refine Kd.C_drewN ?_ _) | (with_reducible refine Kd.C_drew ?_))); (case side2 => exact HC0.out); rintro e w15 ⟨v214, rfl, ho0, hb⟩; refine ⟨_, rfl, ?_⟩; have n0_ := Aside0.mk (Kd.R_lower ho0 (below_size (by repeat (first | (with_reducible first | exact HB.out | apply below_alloc | apply pw_below_drewN | apply below_drew1) | exact HB.out)))); have n1_ := Aside0.mk (below_step (by repeat (first | (with_reducible first | exact HB.out | apply below_alloc | apply pw_below_drewN | apply below_drew1) | exact HB.out)) hb); clear HB; have HO215 := n0_; have HB := n1_; clear n0_ n1_; (try clear hb); (try clear hb2); (try clear hk); (try clear hi); (try clear ho0); obtain ⟨Ao16, co16, eo16⟩ := Kd.R_slice HO215.out; subst eo16) | ((with_reducible refine gate_callee (f := 64) rfl ?_); refine goesL_ (some 23) rfl rfl Try.func64 (by kernel_rfl) rfl #[.slice Ao16 t213.length co16, .int .i64 a1, .int .i64 a2, .int .i64 a3] rfl (by (try simp only [List.map_toArray, List.map_cons, List.map_nil]); first | done | rfl | (simp only [List.length_drop, List.length_take]; rfl)) ?_; (with_reducible refine (spec_WatchdogTrips.calls k _ _ t213 a1 a2 a3 t216 _ ?side1 ?side2 A8.out).mono ?_); (case side1 => repeat (first | exact (Kd.R_reads' HO215.out).2.2 | (with_reducible refine Kd.C_alloc ?_ _) | (with_reducible refine Kd.C_drewN ?_ _) | (with_reducible refine Kd.C_drew ?_))); (case side2 => exact (Kd.R_reads' HO215.out).2.1); rintro e w17 ⟨rfl, hb⟩; refine ⟨_, rfl, ?_⟩; have n0_ := Aside0.mk (Kd.R_below (by (with_reducible repeat (first | apply Kd.R_alloc | apply Kd.R_drewN | apply Kd.R_drew)); exact HO215.out) hb); have n1_ := Aside0.mk (below_step (by repeat (first | (with_reducible first | exact HB.out | apply below_alloc | apply pw_below_drewN | apply below_drew1) | exact HB.out)) hb); clear HO215; clear HB; have HO215 := n0_; have HB := n1_; clear n0_ n1_; (try clear hb); (try clear hb2); (try clear hk); (try clear hi)) | ((with_reducible refine gate_callee (f := 29) rfl ?_); refine goesL_ (some 25) rfl rfl Try.func29 (by kernel_rfl) rfl #[.slice A0 l0.length c0] rfl (by (try simp only [List.map_toArray, List.map_cons, List.map_nil]); first | done | rfl | (simp only [List.length_drop, List.length_take]; rfl)) ?_; (with_reducible refine (laws_toTaskS.calls k _ _ l0 t217 _ ?side1 ?side2 A9.out).mono ?_); (case side1 => repeat (first | exact (Kd.C_below HR0.out HB.out) | (with_reducible refine Kd.C_alloc ?_ _) | (with_reducible refine Kd.C_drewN ?_ _) | (with_reducible refine Kd.C_drew ?_))); (case side2 => exact HC0.out); rintro e w18 ⟨v218, rfl, ho0, hb⟩; refine ⟨_, rfl, ?_⟩; have n0_ := Aside0.mk (Kd.R_elder' (by (with_reducible repeat (first | apply Kd.R_alloc | apply Kd.R_drewN | apply Kd.R_drew)); exact HO215.out) (Kd.R_base ho0) hb); have n1_ := Aside0.mk (Kd.R_lower (Kd.R_new' ho0 (Kd.R_lt (by (with_reducible repeat (first | apply Kd.R_alloc | apply Kd.R_drewN | apply Kd.R_drew)); exact HO215.out))) (below_size (by repeat (first | (with_reducible first | exact HB.out | apply below_alloc | apply pw_below_drewN | apply below_drew1) | exact HB.out)))); have n2_ := Aside0.mk (below_step (by repeat (first | (with_reducible first | exact HB.out | apply below_alloc | apply pw_below_drewN | apply below_drew1) | exact HB.out)) hb); clear HO215; clear HB; have HO215 := n0_; have HO219 := n1_; have HB := n2_; clear n0_ n1_ n2_; (try clear hb); (try clear hb2); (try clear hk); (try clear hi); (try clear ho0); obtain ⟨Ao19, co19, eo19⟩ := Kd.R_slice HO219.out; subst eo19) | ((with_reducible refine gate_callee (f := 65) rfl ?_); refine goesL_ (some 30) rfl rfl Try.func65 (by kernel_rfl) rfl #[.slice Ao19 t217.length co19, .int .i64 a1, .int .i64 a2, .int .i64 a3] rfl (by (try simp only [List.map_toArray, List.map_cons, List.map_nil]); first | done | rfl | (simp only [List.length_drop, List.length_take]; rfl)) ?_; (with_reducible refine (impl_WatchdogTrips.calls k _ _ t217 a1 a2 a3 t220 _ ?side1 ?side2 A10.out).mono ?_); (case side1 => repeat (first | exact (Kd.R_reads' HO219.out).2.2 | (with_reducible refine Kd.C_alloc ?_ _) | (with_reducible refine Kd.C_drewN ?_ _) | (with_reducible refine Kd.C_drew ?_))); (case side2 => exact (Kd.R_reads' HO219.out).2.1); rintro e w20 ⟨rfl, hb⟩; refine ⟨_, rfl, ?_⟩; have n0_ := Aside0.mk (Kd.R_below (by (with_reducible repeat (first | apply Kd.R_alloc | apply Kd.R_drewN | apply Kd.R_drew)); exact HO215.out) hb); have n1_ := Aside0.mk (Kd.R_below (by (with_reducible repeat (first | apply Kd.R_alloc | apply Kd.R_drewN | apply Kd.R_drew)); exact HO219.out) hb); have n2_ := Aside0.mk (below_step (by repeat (first | (with_reducible first | exact HB.out | apply below_alloc | apply pw_below_drewN | apply below_drew1) | exact HB.out)) hb); clear HO215; clear HO219; clear HB; have HO215 := n0_; have HO219 := n1_; have HB := n2_; clear n0_ n1_ n2_; (try clear hb); (try clear hb2); (try clear hk); (try clear hi)) | ((with_reducible refine gate_callee (f := 29) rfl ?_); refine goesL_ (some 36) rfl rfl Try.func29 (by kernel_rfl) rfl #[.slice A0 l0.length c0] rfl (by (try simp only [List.map_toArray, List.map_cons, List.map_nil]); first | done | rfl | (simp only [List.length_drop, List.length_take]; rfl)) ?_; (with_reducible refine (laws_toTaskS.calls k _ _ l0 t221 _ ?side1 ?side2 A12.out).mono ?_); (case side1 => repeat (first | exact (Kd.C_below HR0.out HB.out) | (with_reducible refine Kd.C_alloc ?_ _) | (with_reducible refine Kd.C_drewN ?_ _) | (with_reducible refine Kd.C_drew ?_))); (case side2 => exact HC0.out); rintro e w21 ⟨v222, rfl, ho0, hb⟩; refine ⟨_, rfl, ?_⟩; have n0_ := Aside0.mk (Kd.R_elder' (by (with_reducible repeat (first | apply Kd.R_alloc | apply Kd.R_drewN | apply Kd.R_drew)); exact HO215.out) (Kd.R_base ho0) hb); have n1_ := Aside0.mk (Kd.R_elder' (by (with_reducible repeat (first | apply Kd.R_alloc | apply Kd.R_drewN | apply Kd.R_drew)); exact HO219.out) (Kd.R_base ho0) hb); have n2_ := Aside0.mk (Kd.R_lower (Kd.R_new' (Kd.R_new' ho0 (Kd.R_lt (by (with_reducible repeat (first | apply Kd.R_alloc | apply Kd.R_drewN | apply Kd.R_drew)); exact HO215.out))) (Kd.R_lt (by (with_reducible repeat (first | apply Kd.R_alloc | apply Kd.R_drewN | apply Kd.R_drew)); exact HO219.out))) (below_size (by repeat (first | (with_reducible first | exact HB.out | apply below_alloc | apply pw_below_drewN | apply below_drew1) | exact HB.out)))); have n3_ := Aside0.mk (below_step (by repeat (first | (with_reducible first | exact HB.out | apply below_alloc | apply pw_below_drewN | apply below_drew1) | exact HB.out)) hb); clear HO215; clear HO219; clear HB; have HO215 := n0_; have HO219 := n1_; have HO223 := n2_; have HB := n3_; clear n0_ n1_ n2_ n3_; (try clear hb); (try clear hb2); (try clear hk); (try clear hi); (try clear ho0); obtain ⟨Ao22, co22, eo22⟩ := Kd.R_slice HO223.out; subst eo22) | ((with_reducible refine gate_callee (f := 31) rfl ?_); refine goesL_ (some 37) rfl rfl Try.func31 (by kernel_rfl) rfl #[.slice Ao19 t217.length co19, .slice Ao22 t221.length co22] rfl (by (try simp only [List.map_toArray, List.map_cons, List.map_nil]); first | done | rfl | (simp only [List.length_drop, List.length_take]; rfl)) ?_; (with_reducible refine (laws_eqTaskS.calls k _ _ t217 _ _ t221 true _ ?side1 ?side2 ?side3 ?side4 A13.out).mono ?_); (case side1 => repeat (first | exact (Kd.R_reads' HO219.out).2.2 | (with_reducible refine Kd.C_alloc ?_ _) | (with_reducible refine Kd.C_drewN ?_ _) | (with_reducible refine Kd.C_drew ?_))); (case side2 => exact (Kd.R_reads' HO219.out).2.1); (case side3 => repeat (first | exact (Kd.R_reads' HO223.out).2.2 | (with_reducible refine Kd.C_alloc ?_ _) | (with_reducible refine Kd.C_drewN ?_ _) | (with_reducible refine Kd.C_drew ?_))); (case side4 => exact (Kd.R_reads' HO223.out).2.1); rintro e w23 ⟨rfl, hb⟩; refine ⟨_, rfl, ?_⟩; have n0_ := Aside0.mk (Kd.R_below (by (with_reducible repeat (first | apply Kd.R_alloc | apply Kd.R_drewN | apply Kd.R_drew)); exact HO215.out) hb); have n1_ := Aside0.mk (Kd.R_below (by (with_reducible repeat (first | apply Kd.R_alloc | apply Kd.R_drewN | apply Kd.R_drew)); exact HO219.out) hb); have n2_ := Aside0.mk (Kd.R_below (by (with_reducible repeat (first | apply Kd.R_alloc | apply Kd.R_drewN | apply Kd.R_drew)); exact HO223.out) hb); have n3_ := Aside0.mk (below_step (by repeat (first | (with_reducible first | exact HB.out | apply below_alloc | apply pw_below_drewN | apply below_drew1) | exact HB.out)) hb); clear HO215; clear HO219; clear HO223; clear HB; have HO215 := n0_; have HO219 := n1_; have HO223 := n2_; have HB := n3_; clear n0_ n1_ n2_ n3_; (try clear hb); (try clear hb2); (try clear hk); (try clear hi)))
  go_ret
  exact ⟨by first | rfl | (simp [errW_none, errW_some] <;> rfl) | (simp [*, errW_none, errW_some] <;> rfl), by repeat (first | (with_reducible first | exact HB.out | apply below_alloc | apply pw_below_drewN | apply below_drew1) | exact HB.out)⟩
end Go.Proofs.Ythbbhdadioiefaa.QFnExactWatchdogTrips
