-- Written by wip/pr2.py: a program of this session's own, which runs the kit's print over contracts of its own.
import Derived.Test.YthbbhdadioiefaaQFnCompressLinex0
import Derived.Test.YthbbhdadioiefaaQFnCompressLinex1
import Derived.Test.YthbbhdadioiefaaQFnCompressLinex2
import Derived.Test.YthbbhdadioiefaaQFnCompressLinex4
import Derived.Test.YthbbhdadioiefaaQFnCompressLinex6
import Derived.Test.YthbbhdadioiefaaQFnCompressLinex7
namespace Go.Proofs.Ythbbhdadioiefaa.QFnCompressLine
open Go.RowKit Go.Proofs.YthbbhdadioiefaaW.PrintWords Go.Proofs.YthbbhdadioiefaaW.PrintLast Go.Proofs.YthbbhdadioiefaaW.PrintMore
attribute [local go_sem] max2_int min2_int max_two min_two max_three min_three max_four min_four   -- for this text's walks alone
set_option linter.unusedVariables false
set_option linter.unusedSimpArgs false

attribute [local go_sem high] eqA84
/-! ### laws_samePoints: function 70 -/
def laws_samePoints.l0 : Nat → List (S84) → List (S84) → Int → Option (Bool)
  | 0, _, _, _ => none
  | k + 1, x0, x1, x5 => if x5 < (x0.length : Int) then (if 0 ≤ x5 then (if x5 < (x1.length : Int) then (if (!(((rd_T84 x0 x5).f0) == ((rd_T84 x1 x5).f0)) || (!(((rd_T84 x0 x5).f1) == ((rd_T84 x1 x5).f1)))) = true then (some false) else (laws_samePoints.l0 k x0 x1 (wrap64 (x5 + 1)))) else (none)) else (none)) else (some true)
def laws_samePoints.f (k : Nat) (l0 : List (S84)) (l1 : List (S84)) : Option (Bool) := if (l0.length : Int) = (l1.length : Int) then (laws_samePoints.l0 k l0 l1 0) else (some false)
theorem laws_samePoints.mono_l : ∀ k, (∀ y0 y1 y2, LeO (laws_samePoints.l0 k y0 y1 y2) (laws_samePoints.l0 (k + 1) y0 y1 y2))
  | 0 => fun _ _ _ r h => by simp [laws_samePoints.l0] at h
  | k + 1 => by
    have ih0 := laws_samePoints.mono_l k
    · intro y0 y1 y2
      unfold laws_samePoints.l0
      repeat' first
      | (with_reducible exact ih0 _ _ _)
      | (with_reducible exact LeO.refl _)
      | (with_reducible exact LeO.none _)
      | (with_reducible refine LeO.ite ?_ ?_)
      | (with_reducible refine LeO.bind ?_ (fun _ => ?_))
      | exact ih0 _ _ _
      | exact LeO.none _
      | refine LeO.ite ?_ ?_
      | refine LeO.bind ?_ (fun _ => ?_)
theorem laws_samePoints.mono : ∀ a0 a1 k, LeO (laws_samePoints.f k a0 a1) (laws_samePoints.f (k + 1) a0 a1) := by
  intro a0 a1 k
  have ih0 := laws_samePoints.mono_l k
  unfold laws_samePoints.f
  repeat' first
      | (with_reducible exact ih0 _ _ _)
      | (with_reducible exact LeO.refl _)
      | (with_reducible exact LeO.none _)
      | (with_reducible refine LeO.ite ?_ ?_)
      | (with_reducible refine LeO.bind ?_ (fun _ => ?_))
      | exact ih0 _ _ _
      | exact LeO.none _
      | refine LeO.ite ?_ ?_
      | refine LeO.bind ?_ (fun _ => ?_)
set_option maxHeartbeats 8000000 in
set_option maxRecDepth 100000 in
theorem laws_samePoints.calls (k : Nat) (A0 : Option Addr) (c0 : Nat) (l0 : List (S84)) (A1 : Option Addr) (c1 : Nat) (l1 : List (S84)) (r : Bool) (w : World) (hr0 : Kd.C k84 w A0 l0.length l0) (hc0 : l0.length ≤ c0) (hr1 : Kd.C k84 w A1 l1.length l1) (hc1 : l1.length ≤ c1) (h : laws_samePoints.f k l0 l1 = some r) :
    Calls Try.prog 70 #[.slice A0 l0.length c0, .slice A1 l1.length c1] w fun e w' => e = .returned (.bool r) ∧ Drawn0 w w' := by
  have hu84 := Try.underlying84
  have HR0 := Aside0.mk hr0
  have HC0 := Aside0.mk hc0
  clear hr0 hc0
  have HR1 := Aside0.mk hr1
  have HC1 := Aside0.mk hc1
  clear hr1 hc1
  have H : (if (l0.length : Int) = (l1.length : Int) then (laws_samePoints.l0 k l0 l1 0) else (some false)) = some r := h
  clear h
  by_cases c3 : (l0.length : Int) = (l1.length : Int)
  · rw [if_pos c3] at H
    have c3b0 : ((l0.length : Int) == (l1.length : Int)) = true := beq_iff_eq.mpr c3
    have c3b1 : ((l0.length : Int) != (l1.length : Int)) = false := bne_eq_false_iff_eq.mpr c3
    have c3b2 : (l0.length == l1.length) = true := by first | simpa using c3 | (simp at c3 ⊢; omega)
    clear c3
    have H' := Aside0.mk H
    clear H
    go_enter Try.func70, Try.ntmps70
    go_wp2
    repeat (go_quiet (fail); try go_wp2)
    go_loopg [5] k (fun kq v5 w' => ∃ (x5_1 : Int), v5 = .int .i64 x5_1 ∧ Aside0 (laws_samePoints.l0 kq l0 l1 x5_1 = some r) ∧ Aside0 (kq ≤ k) ∧ Drawn0 w w')
    case atStart => exact ⟨(0), (by first | rfl | (simp; done) | (simp [*]; done)), H', ⟨Nat.le_refl _⟩, by repeat (first | exact Drawn0.refl _ | apply Drawn0.step)⟩
    case round =>
      clear H'
      try clear c1
      try clear p2
      try clear c3
      try clear c3b0
      try clear c3b1
      try clear c3b2
      obtain ⟨x5_1, rfl, HA, HK1, ⟨m1, rfl⟩⟩ := hrel
      cases gk with
      | zero => exact absurd HA.out (by simp [laws_samePoints.l0])
      | succ k1 =>
        have H := HA.out
        clear HA
        simp only [laws_samePoints.l0] at H
        by_cases c4 : x5_1 < (l0.length : Int)
        · rw [if_pos c4] at H
          have c4b0 : decide (x5_1 < (l0.length : Int)) = true := decide_eq_true c4
          clear c4
          by_cases c5 : 0 ≤ x5_1
          · rw [if_pos c5] at H
            have c5b0 : decide (0 ≤ x5_1) = true := decide_eq_true c5
            clear c5
            by_cases c6 : x5_1 < (l1.length : Int)
            · rw [if_pos c6] at H
              have c6b0 : decide (x5_1 < (l1.length : Int)) = true := decide_eq_true c6
              clear c6
              by_cases c7 : (!(((rd_T84 l0 x5_1).f0) == ((rd_T84 l1 x5_1).f0)) || (!(((rd_T84 l0 x5_1).f1) == ((rd_T84 l1 x5_1).f1)))) = true
              · rw [if_pos c7] at H
                have c7b0 : (!(((rd_T84 l0 x5_1).f0) == ((rd_T84 l1 x5_1).f0)) || (!(((rd_T84 l0 x5_1).f1) == ((rd_T84 l1 x5_1).f1)))) = true := c7
                clear c7
                obtain rfl := Option.some.inj H
                have p281 : 0 ≤ (x5_1 : Int) := of_decide_eq_true (by first | (with_reducible assumption) | assumption)
                have q281 : x5_1 < (l0.length : Int) := of_decide_eq_true (by first | (with_reducible assumption) | assumption)
                obtain ⟨ad281, e281, hx281_0, hx281_1⟩ := at_T84 HR0.out x5_1 p281 q281
                cases e281
                replace p281 := eq_true p281
                replace q281 := eq_true q281
                have p282 : 0 ≤ (x5_1 : Int) := of_decide_eq_true (by first | (with_reducible assumption) | assumption)
                have q282 : x5_1 < (l1.length : Int) := of_decide_eq_true (by first | (with_reducible assumption) | assumption)
                obtain ⟨ad282, e282, hx282_0, hx282_1⟩ := at_T84 HR1.out x5_1 p282 q282
                cases e282
                replace p282 := eq_true p282
                replace q282 := eq_true q282
                go_wp2
                repeat (go_quiet (fail); try go_wp2)
                go_ret
                exact ⟨by first | rfl | (simp; done) | (simp [*]; done), by repeat (first | exact Drawn0.refl _ | apply Drawn0.step)⟩
              · rw [if_neg c7] at H
                have c7b0 : (!(((rd_T84 l0 x5_1).f0) == ((rd_T84 l1 x5_1).f0)) || (!(((rd_T84 l0 x5_1).f1) == ((rd_T84 l1 x5_1).f1)))) = false := by simpa using c7
                clear c7
                have H' := Aside0.mk H
                clear H
                have p281 : 0 ≤ (x5_1 : Int) := of_decide_eq_true (by first | (with_reducible assumption) | assumption)
                have q281 : x5_1 < (l0.length : Int) := of_decide_eq_true (by first | (with_reducible assumption) | assumption)
                obtain ⟨ad281, e281, hx281_0, hx281_1⟩ := at_T84 HR0.out x5_1 p281 q281
                cases e281
                replace p281 := eq_true p281
                replace q281 := eq_true q281
                have p282 : 0 ≤ (x5_1 : Int) := of_decide_eq_true (by first | (with_reducible assumption) | assumption)
                have q282 : x5_1 < (l1.length : Int) := of_decide_eq_true (by first | (with_reducible assumption) | assumption)
                obtain ⟨ad282, e282, hx282_0, hx282_1⟩ := at_T84 HR1.out x5_1 p282 q282
                cases e282
                replace p282 := eq_true p282
                replace q282 := eq_true q282
                go_wp2
                repeat (go_quiet (fail); try go_wp2)
                go_roundg k1
                case measure => have := HK1.out; omega
                case rel => exact ⟨(wrap64 (x5_1 + 1)), (by first | rfl | (simp; done) | (simp [*]; done)), H', ⟨by have := HK1.out; omega⟩, by repeat (first | exact Drawn0.refl _ | apply Drawn0.step)⟩
            · rw [if_neg c6] at H
              exact absurd H (by simp)
          · rw [if_neg c5] at H
            exact absurd H (by simp)
        · rw [if_neg c4] at H
          have c4b0 : decide (x5_1 < (l0.length : Int)) = false := decide_eq_false c4
          clear c4
          obtain rfl := Option.some.inj H
          go_wp2
          repeat (go_quiet (fail); try go_wp2)
          go_ret
          exact ⟨by first | rfl | (simp; done) | (simp [*]; done), by repeat (first | exact Drawn0.refl _ | apply Drawn0.step)⟩
  · rw [if_neg c3] at H
    have c3b0 : ((l0.length : Int) == (l1.length : Int)) = false := beq_eq_false_iff_ne.mpr c3
    have c3b1 : ((l0.length : Int) != (l1.length : Int)) = true := bne_iff_ne.mpr c3
    have c3b2 : (l0.length == l1.length) = false := by first | simpa using c3 | (simp at c3 ⊢; omega)
    obtain rfl := Option.some.inj H
    go_enter Try.func70, Try.ntmps70
    go_wp2
    repeat (go_quiet (fail); try go_wp2)
    go_ret
    exact ⟨by first | rfl | (simp; done) | (simp [*]; done), by repeat (first | exact Drawn0.refl _ | apply Drawn0.step)⟩

/-! ### laws_FnCompressLine: function 16 -/
def laws_FnCompressLine.l0 : Nat → Int → List (S84) → List (S84) → Int → Option (Bool)
  | 0, _, _, _, _ => none
  | k + 1, x4, x5, x6, x7 => if x7 < 9 then (if x6.length < 8796093022208 then (laws_FnCompressLine.l0 k x4 x5 (x6 ++ [(⟨wrap64 (3 * x7), wrap64 (100 - (wrap64 (7 * x7)))⟩ : S84)]) (wrap64 (x7 + 1))) else (none)) else ((impl_CompressTrend.f k x6 (mx 0 x4)).bind fun t300 => (if (t300.length : Int) = 2 then (if (x5.length : Int) = 0 then (some true) else ((impl_TrendError.f k x5 x5).bind fun t303 => (some (t303 == 0)))) else (some false)))
def laws_FnCompressLine.f (k : Nat) (l0 : List Int) : Option (Bool) := if (l0.length : Int) > 1048576 then (some true) else ((spec_DrawCompressTrend.f k l0).bind fun bt283 => ((impl_CompressTrend.f k bt283.1 bt283.2).bind fun t287 => ((spec_CompressTrend.f k bt283.1 bt283.2).bind fun t290 => ((laws_samePoints.f k t287 t290).bind fun t293 => (if t293 = true then (laws_FnCompressLine.l0 k bt283.2 t287 (([] : List (S84))) 0) else (some false))))))
theorem laws_FnCompressLine.mono_l : ∀ k, (∀ y0 y1 y2 y3, LeO (laws_FnCompressLine.l0 k y0 y1 y2 y3) (laws_FnCompressLine.l0 (k + 1) y0 y1 y2 y3))
  | 0 => fun _ _ _ _ r h => by simp [laws_FnCompressLine.l0] at h
  | k + 1 => by
    have ih0 := laws_FnCompressLine.mono_l k
    · intro y0 y1 y2 y3
      unfold laws_FnCompressLine.l0
      repeat' first
      | (with_reducible exact ih0 _ _ _ _)
      | (with_reducible exact impl_CompressTrend.mono _ _ _)
      | (with_reducible exact impl_TrendError.mono _ _ _)
      | (with_reducible exact laws_samePoints.mono _ _ _)
      | (with_reducible exact spec_CompressTrend.mono _ _ _)
      | (with_reducible exact spec_DrawCompressTrend.mono _ _)
      | (with_reducible exact LeO.refl _)
      | (with_reducible exact LeO.none _)
      | (with_reducible refine LeO.ite ?_ ?_)
      | (with_reducible refine LeO.bind ?_ (fun _ => ?_))
      | exact ih0 _ _ _ _
      | exact impl_CompressTrend.mono _ _ _
      | exact impl_TrendError.mono _ _ _
      | exact laws_samePoints.mono _ _ _
      | exact spec_CompressTrend.mono _ _ _
      | exact spec_DrawCompressTrend.mono _ _
      | exact LeO.none _
      | refine LeO.ite ?_ ?_
      | refine LeO.bind ?_ (fun _ => ?_)
theorem laws_FnCompressLine.mono : ∀ a0 k, LeO (laws_FnCompressLine.f k a0) (laws_FnCompressLine.f (k + 1) a0) := by
  intro a0 k
  have ih0 := laws_FnCompressLine.mono_l k
  unfold laws_FnCompressLine.f
  repeat' first
      | (with_reducible exact ih0 _ _ _ _)
      | (with_reducible exact impl_CompressTrend.mono _ _ _)
      | (with_reducible exact impl_TrendError.mono _ _ _)
      | (with_reducible exact laws_samePoints.mono _ _ _)
      | (with_reducible exact spec_CompressTrend.mono _ _ _)
      | (with_reducible exact spec_DrawCompressTrend.mono _ _)
      | (with_reducible exact LeO.refl _)
      | (with_reducible exact LeO.none _)
      | (with_reducible refine LeO.ite ?_ ?_)
      | (with_reducible refine LeO.bind ?_ (fun _ => ?_))
      | exact ih0 _ _ _ _
      | exact impl_CompressTrend.mono _ _ _
      | exact impl_TrendError.mono _ _ _
      | exact laws_samePoints.mono _ _ _
      | exact spec_CompressTrend.mono _ _ _
      | exact spec_DrawCompressTrend.mono _ _
      | exact LeO.none _
      | refine LeO.ite ?_ ?_
      | refine LeO.bind ?_ (fun _ => ?_)
set_option maxHeartbeats 8000000 in
set_option maxRecDepth 100000 in
theorem laws_FnCompressLine.calls (k : Nat) (A0 : Option Addr) (c0 : Nat) (l0 : List Int) (r : Bool) (w : World) (hr0 : Kd.C (Kd.int .u8) w A0 l0.length l0) (hc0 : l0.length ≤ c0) (h : laws_FnCompressLine.f k l0 = some r) :
    Calls Try.prog 16 #[.slice A0 l0.length c0] w fun e w' => e = .returned (.bool r) ∧ Below w.heap.size w w' := by
  have hu84 := Try.underlying84
  have HR0 := Aside0.mk hr0
  have HC0 := Aside0.mk hc0
  clear hr0 hc0
  have HB := Aside0.mk (Below.refl w.heap.size w)
  have H : (if (l0.length : Int) > 1048576 then (some true) else ((spec_DrawCompressTrend.f k l0).bind fun bt283 => ((impl_CompressTrend.f k bt283.1 bt283.2).bind fun t287 => ((spec_CompressTrend.f k bt283.1 bt283.2).bind fun t290 => ((laws_samePoints.f k t287 t290).bind fun t293 => (if t293 = true then (laws_FnCompressLine.l0 k bt283.2 t287 (([] : List (S84))) 0) else (some false))))))) = some r := h
  clear h
  by_cases c2 : (l0.length : Int) > 1048576
  · rw [if_pos c2] at H
    have c2b0 : decide (1048576 < (l0.length : Int)) = true := decide_eq_true c2
    have c2b1 : decide (1048576 < l0.length) = true := decide_eq_true (by omega)
    clear c2
    obtain rfl := Option.some.inj H
    go_enter Try.func16, Try.ntmps16
    go_wp2
    go_ret
    exact ⟨by first | rfl | (simp [errW_none, errW_some] <;> rfl) | (simp [*, errW_none, errW_some] <;> rfl), by repeat (first | (with_reducible first | exact HB.out | apply below_alloc | apply pw_below_drewN | apply below_drew1) | exact HB.out)⟩
  · rw [if_neg c2] at H
    have c2b0 : decide (1048576 < (l0.length : Int)) = false := decide_eq_false c2
    have c2b1 : decide (1048576 < l0.length) = false := decide_eq_false (by omega)
    clear c2
    replace H := Option.bind_eq_some_iff.mp H
    obtain ⟨⟨t283, t284⟩, A30, H⟩ := H
    replace H : ((impl_CompressTrend.f k t283 t284).bind fun t287 => ((spec_CompressTrend.f k t283 t284).bind fun t290 => ((laws_samePoints.f k t287 t290).bind fun t293 => (if t293 = true then (laws_FnCompressLine.l0 k t284 t287 (([] : List (S84))) 0) else (some false))))) = some r := H
    have A3 := Aside0.mk A30
    clear A30
    replace H := Option.bind_eq_some_iff.mp H
    obtain ⟨t287, A40, H⟩ := H
    replace H : ((spec_CompressTrend.f k t283 t284).bind fun t290 => ((laws_samePoints.f k t287 t290).bind fun t293 => (if t293 = true then (laws_FnCompressLine.l0 k t284 t287 (([] : List (S84))) 0) else (some false)))) = some r := H
    have A4 := Aside0.mk A40
    clear A40
    replace H := Option.bind_eq_some_iff.mp H
    obtain ⟨t290, A50, H⟩ := H
    replace H : ((laws_samePoints.f k t287 t290).bind fun t293 => (if t293 = true then (laws_FnCompressLine.l0 k t284 t287 (([] : List (S84))) 0) else (some false))) = some r := H
    have A5 := Aside0.mk A50
    clear A50
    replace H := Option.bind_eq_some_iff.mp H
    obtain ⟨t293, A60, H⟩ := H
    replace H : (if t293 = true then (laws_FnCompressLine.l0 k t284 t287 (([] : List (S84))) 0) else (some false)) = some r := H
    have A6 := Aside0.mk A60
    clear A60
    by_cases c7 : t293 = true
    · subst c7
      have H1 : (laws_FnCompressLine.l0 k t284 t287 (([] : List (S84))) 0) = some r := by rw [if_pos rfl] at H; exact H
      clear H
      have H := H1
      clear H1
      obtain ⟨y294, hy294⟩ : ∃ y_ : List (S84), y_ = (([] : List (S84))) := ⟨_, rfl⟩
      replace H : (laws_FnCompressLine.l0 k t284 t287 y294 0) = some r := by first | (rw [hy294]; with_reducible exact H) | (have H2_ := (Option.bind_some _ _).symm.trans H; rw [hy294]; with_reducible exact H2_) | (have H2_ := (Option.bind_some _ _).symm.trans H; with_reducible exact H2_) | with_reducible exact H | (rw [hy294]; exact H) | exact H
      have Ny294 := Aside0.mk hy294
      clear hy294
      have H' := Aside0.mk H
      clear H
      go_enter Try.func16, Try.ntmps16
      go_wp2_with (first | ((with_reducible refine gate_callee (f := 69) rfl ?_); refine goesL_ (some 14) rfl rfl Try.func69 (by kernel_rfl) rfl #[.slice A0 l0.length c0] rfl (by (try simp only [List.map_toArray, List.map_cons, List.map_nil]); first | done | rfl | (simp only [List.length_drop, List.length_take]; rfl)) ?_; (with_reducible refine (spec_DrawCompressTrend.calls k _ _ l0 t283 t284 _ ?side1 ?side2 A3.out).mono ?_); (case side1 => repeat (first | exact HR0.out | (with_reducible refine Kd.C_alloc ?_ _) | (with_reducible refine Kd.C_drewN ?_ _) | (with_reducible refine Kd.C_drew ?_))); (case side2 => exact HC0.out); rintro e w8 ⟨v285, rfl, ho0, hb⟩; refine ⟨_, rfl, ?_⟩; have n0_ := Aside0.mk (Kd.R_lower ho0 (below_size (by repeat (first | (with_reducible first | exact HB.out | apply below_alloc | apply pw_below_drewN | apply below_drew1) | exact HB.out)))); have n1_ := Aside0.mk (below_step (by repeat (first | (with_reducible first | exact HB.out | apply below_alloc | apply pw_below_drewN | apply below_drew1) | exact HB.out)) hb); clear HB; have HO286 := n0_; have HB := n1_; clear n0_ n1_; (try clear hb); (try clear hb2); (try clear hk); (try clear hi); (try clear ho0); obtain ⟨Ao9, co9, eo9⟩ := Kd.R_slice HO286.out; subst eo9) | ((with_reducible refine gate_callee (f := 61) rfl ?_); refine goesL_ (some 19) rfl rfl Try.func61 (by kernel_rfl) rfl #[.slice Ao9 t283.length co9, .int .i64 t284] rfl (by (try simp only [List.map_toArray, List.map_cons, List.map_nil]); first | done | rfl | (simp only [List.length_drop, List.length_take]; rfl)) ?_; (with_reducible refine (impl_CompressTrend.calls k _ _ t283 t284 t287 _ ?side1 ?side2 A4.out).mono ?_); (case side1 => repeat (first | exact (Kd.R_reads' HO286.out).2.2 | (with_reducible refine Kd.C_alloc ?_ _) | (with_reducible refine Kd.C_drewN ?_ _) | (with_reducible refine Kd.C_drew ?_))); (case side2 => exact (Kd.R_reads' HO286.out).2.1); rintro e w10 ⟨v288, rfl, ho0, hb⟩; refine ⟨_, rfl, ?_⟩; have n0_ := Aside0.mk (Kd.R_elder' (by (with_reducible repeat (first | apply Kd.R_alloc | apply Kd.R_drewN | apply Kd.R_drew)); exact HO286.out) (Kd.W_base ho0) hb); have n1_ := Aside0.mk (Kd.W_lower (Kd.W_new' ho0 (Kd.R_lt (by (with_reducible repeat (first | apply Kd.R_alloc | apply Kd.R_drewN | apply Kd.R_drew)); exact HO286.out))) (below_size (by repeat (first | (with_reducible first | exact HB.out | apply below_alloc | apply pw_below_drewN | apply below_drew1) | exact HB.out)))); have n2_ := Aside0.mk (below_step (by repeat (first | (with_reducible first | exact HB.out | apply below_alloc | apply pw_below_drewN | apply below_drew1) | exact HB.out)) hb); clear HO286; clear HB; have HO286 := n0_; have HO289 := n1_; have HB := n2_; clear n0_ n1_ n2_; (try clear hb); (try clear hb2); (try clear hk); (try clear hi); (try clear ho0)) | ((with_reducible refine gate_callee (f := 60) rfl ?_); refine goesL_ (some 23) rfl rfl Try.func60 (by kernel_rfl) rfl #[.slice Ao9 t283.length co9, .int .i64 t284] rfl (by (try simp only [List.map_toArray, List.map_cons, List.map_nil]); first | done | rfl | (simp only [List.length_drop, List.length_take]; rfl)) ?_; (with_reducible refine (spec_CompressTrend.calls k _ _ t283 t284 t290 _ ?side1 ?side2 A5.out).mono ?_); (case side1 => repeat (first | exact (Kd.R_reads' HO286.out).2.2 | (with_reducible refine Kd.C_alloc ?_ _) | (with_reducible refine Kd.C_drewN ?_ _) | (with_reducible refine Kd.C_drew ?_))); (case side2 => exact (Kd.R_reads' HO286.out).2.1); rintro e w11 ⟨v291, rfl, ho0, hb⟩; refine ⟨_, rfl, ?_⟩; have n0_ := Aside0.mk (Kd.R_elder' (by (with_reducible repeat (first | apply Kd.R_alloc | apply Kd.R_drewN | apply Kd.R_drew)); exact HO286.out) (Kd.R_base ho0) hb); have n1_ := Aside0.mk (Kd.W_elder' (by (with_reducible repeat (first | apply Kd.W_alloc | apply Kd.W_drewN | apply Kd.W_drew)); exact HO289.out) (Kd.R_base ho0) hb); have n2_ := Aside0.mk (Kd.R_lower (Kd.R_new' (Kd.R_new' ho0 (Kd.R_lt (by (with_reducible repeat (first | apply Kd.R_alloc | apply Kd.R_drewN | apply Kd.R_drew)); exact HO286.out))) (Kd.W_lt (by (with_reducible repeat (first | apply Kd.W_alloc | apply Kd.W_drewN | apply Kd.W_drew)); exact HO289.out))) (below_size (by repeat (first | (with_reducible first | exact HB.out | apply below_alloc | apply pw_below_drewN | apply below_drew1) | exact HB.out)))); have n3_ := Aside0.mk (below_step (by repeat (first | (with_reducible first | exact HB.out | apply below_alloc | apply pw_below_drewN | apply below_drew1) | exact HB.out)) hb); clear HO286; clear HO289; clear HB; have HO286 := n0_; have HO289 := n1_; have HO292 := n2_; have HB := n3_; clear n0_ n1_ n2_ n3_; (try clear hb); (try clear hb2); (try clear hk); (try clear hi); (try clear ho0); obtain ⟨Ao12, co12, eo12, _⟩ := Kd.W_slice HO289.out; subst eo12; obtain ⟨Ao13, co13, eo13⟩ := Kd.R_slice HO292.out; subst eo13) | ((with_reducible refine gate_callee (f := 70) rfl ?_); refine goesL_ (some 24) rfl rfl Try.func70 (by kernel_rfl) rfl #[.slice Ao12 t287.length co12, .slice Ao13 t290.length co13] rfl (by (try simp only [List.map_toArray, List.map_cons, List.map_nil]); first | done | rfl | (simp only [List.length_drop, List.length_take]; rfl)) ?_; (with_reducible refine (laws_samePoints.calls k _ _ t287 _ _ t290 true _ ?side1 ?side2 ?side3 ?side4 A6.out).mono ?_); (case side1 => repeat (first | exact (Kd.W_reads' HO289.out).2.2 | (with_reducible refine Kd.C_alloc ?_ _) | (with_reducible refine Kd.C_drewN ?_ _) | (with_reducible refine Kd.C_drew ?_))); (case side2 => exact (Kd.W_reads' HO289.out).2.1); (case side3 => repeat (first | exact (Kd.R_reads' HO292.out).2.2 | (with_reducible refine Kd.C_alloc ?_ _) | (with_reducible refine Kd.C_drewN ?_ _) | (with_reducible refine Kd.C_drew ?_))); (case side4 => exact (Kd.R_reads' HO292.out).2.1); rintro e w' ⟨rfl, ⟨nd, rfl⟩⟩; refine ⟨_, rfl, ?_⟩) | ((with_reducible refine gate_dst (N := 26) rfl ?_); (try (refine gate_guard (by rfl) ?_; dsimp only)); refine Kd.R_lit k84 _ 84 ?hg (N := 26) ?hd (xs := ([] : List (S84))) (inner := []) (ok := fun _ => True) (okp := fun _ => True) ?hr ?hp (fun _ hk => hk) trivial (Below.refl _ _) (Nat.le_refl _) (by simp) ?_; (case hd => rfl); (case hg => rfl); (case hr => first | (go_simp; done) | (go_simp; rfl)); (case hp => exact (Reps.none _ _)); intro v295 w14 ho15 hb hg_ hnew_; clear hg_ hnew_; (first | rw [← Ny294.out] at ho15 | (simp only [Int.reduceToNat] at ho15; rw [← Ny294.out] at ho15)); have n0_ := Aside0.mk (Kd.R_elder' (by (with_reducible repeat (first | apply Kd.R_alloc | apply Kd.R_drewN | apply Kd.R_drew)); exact HO286.out) (Kd.R_base ho15) hb); have n1_ := Aside0.mk (Kd.W_elder' (by (with_reducible repeat (first | apply Kd.W_alloc | apply Kd.W_drewN | apply Kd.W_drew)); exact HO289.out) (Kd.R_base ho15) hb); have n2_ := Aside0.mk (Kd.R_elder' (by (with_reducible repeat (first | apply Kd.R_alloc | apply Kd.R_drewN | apply Kd.R_drew)); exact HO292.out) (Kd.R_base ho15) hb); have n3_ := Aside0.mk (Kd.R_lower (Kd.R_new' (Kd.R_new' (Kd.R_new' ho15 (Kd.R_lt (by (with_reducible repeat (first | apply Kd.R_alloc | apply Kd.R_drewN | apply Kd.R_drew)); exact HO286.out))) (Kd.W_lt (by (with_reducible repeat (first | apply Kd.W_alloc | apply Kd.W_drewN | apply Kd.W_drew)); exact HO289.out))) (Kd.R_lt (by (with_reducible repeat (first | apply Kd.R_alloc | apply Kd.R_drewN | apply Kd.R_drew)); exact HO292.out))) (below_size (by repeat (first | (with_reducible first | exact HB.out | apply below_alloc | apply pw_below_drewN | apply below_drew1) | exact HB.out)))); have n4_ := Aside0.mk (below_step (by repeat (first | (with_reducible first | exact HB.out | apply below_alloc | apply pw_below_drewN | apply below_drew1) | exact HB.out)) hb); clear HO286; clear HO289; clear HO292; clear HB; have HO286 := n0_; have HO289 := n1_; have HO292 := n2_; have HO296 := n3_; have HB := n4_; clear n0_ n1_ n2_ n3_ n4_; clear hb ho15))
      go_loopg [6, 7] k (fun kq v6 v7 w' => ∃ (x6_1 : List (S84)) (x7_1 : Int), v7 = .int .i64 x7_1 ∧ Aside0 (laws_FnCompressLine.l0 kq t284 t287 x6_1 x7_1 = some r) ∧ Aside0 (kq ≤ k) ∧ Aside0 (Kd.W k84 84 w' w.heap.size (fun k_ => some k_ ≠ (v6 : Value).ownBlock) (.slice Ao12 t287.length co12) t287) ∧ Aside0 (Kd.R k84 84 w' w.heap.size (fun k_ => some k_ ≠ ((.slice Ao12 t287.length co12) : Value).ownBlock) v6 x6_1) ∧ Aside0 (Below w.heap.size w w'))
      case atStart => exact ⟨(y294), (0), (by first | rfl | (simp; done) | (simp [*]; done)), H', ⟨Nat.le_refl _⟩, ⟨by (with_reducible repeat (first | apply Kd.W_alloc | apply Kd.W_drewN | apply Kd.W_drew)); exact Kd.W_mono HO289.out (fun _ hk => by first | exact hk.2 | exact trivial)⟩, ⟨by (with_reducible repeat (first | apply Kd.R_alloc | apply Kd.R_drewN | apply Kd.R_drew)); exact Kd.R_mono HO296.out (fun _ hk => hk.1.2)⟩, ⟨by repeat (first | (with_reducible first | exact HB.out | apply below_alloc | apply pw_below_drewN | apply below_drew1) | exact HB.out)⟩⟩
      case round =>
        clear H'
        try clear c1
        try clear c2
        try clear c2b0
        try clear c2b1
        try clear p2
        try clear c6
        try clear c7
        obtain ⟨x6_1, x7_1, rfl, HA, HK1, HO_5, HO_6, HB⟩ := hrel
        cases gk with
        | zero => exact absurd HA.out (by simp [laws_FnCompressLine.l0])
        | succ k1 =>
          have H := HA.out
          clear HA
          simp only [laws_FnCompressLine.l0] at H
          by_cases c16 : x7_1 < 9
          · rw [if_pos c16] at H
            have c16b0 : decide (x7_1 < 9) = true := decide_eq_true c16
            clear c16
            by_cases c17 : x6_1.length < 8796093022208
            · rw [if_pos c17] at H
              have LMc17 := Aside0.mk c17
              clear c17
              obtain ⟨y297, hy297⟩ : ∃ y_ : List (S84), y_ = (x6_1 ++ [(⟨wrap64 (3 * x7_1), wrap64 (100 - (wrap64 (7 * x7_1)))⟩ : S84)]) := ⟨_, rfl⟩
              replace H : (laws_FnCompressLine.l0 k1 t284 t287 y297 (wrap64 (x7_1 + 1))) = some r := by first | (rw [hy297]; with_reducible exact H) | (have H2_ := (Option.bind_some _ _).symm.trans H; rw [hy297]; with_reducible exact H2_) | (have H2_ := (Option.bind_some _ _).symm.trans H; with_reducible exact H2_) | with_reducible exact H | (rw [hy297]; exact H) | exact H
              have Ny297 := Aside0.mk hy297
              clear hy297
              have H' := Aside0.mk H
              clear H
              go_wp2_with (first | ((with_reducible refine gate_builtin (b := .append) (xs := #[.tmp 31, .tmp 38]) rfl ?_); (try (refine gate_guard (by rfl) ?_; dsimp only)); at_builtin; refine Kd.R_append k84 (w0 := w) w.heap.size rfl (.tmp 31) (.tmp 38) 25 84 (.agg #[(.int .i64 0), (.int .i64 0)]) 16 rfl Try.underlying25 info84 rfl (by decide) (by omega) u6 x6_1 (⟨wrap64 (3 * x7_1), wrap64 (100 - (wrap64 (7 * x7_1)))⟩ : S84) [.int .i64 (wrap64 (3 * x7_1)), .int .i64 (wrap64 (100 - (wrap64 (7 * x7_1))))] (fun k_ => some k_ ≠ (.slice Ao12 t287.length co12 : Value).ownBlock) (fun _ => False) rfl rfl ?aP (fun _ hk => hk.elim) ?aF ?aO ?aB ?aS ?aL ?_; (case aP => exact k84_mkM _ _ _ (⟨wrap64 (3 * x7_1), wrap64 (100 - (wrap64 (7 * x7_1)))⟩ : S84)); (case aB => exact (by repeat (first | (with_reducible first | exact HB.out | apply below_alloc | apply pw_below_drewN | apply below_drew1) | exact HB.out))); (case aF => exact (fun k_ hk => Kd.fresh' (Kd.W_lt (by (with_reducible repeat (first | apply Kd.W_alloc | apply Kd.W_drewN | apply Kd.W_drew)); exact HO_5.out)) k_ hk)); (case aO => exact (by (with_reducible repeat (first | apply Kd.R_alloc | apply Kd.R_drewN | apply Kd.R_drew)); exact HO_6.out)); (case aS => exact (below_size (by repeat (first | (with_reducible first | exact HB.out | apply below_alloc | apply pw_below_drewN | apply below_drew1) | exact HB.out)))); (case aL => have := LMc17.out; omega); intro v298 w18 ho hb hg hat; rw [← Ny297.out] at ho; have n0_ := Aside0.mk (Kd.W_after (ok := (fun _ => True)) (by (with_reducible repeat (first | apply Kd.W_alloc | apply Kd.W_drewN | apply Kd.W_drew)); exact Kd.W_mono HO_5.out (fun _ hk => ⟨trivial, hk⟩)) hg hat); have n1_ := Aside0.mk (hb); have n2_ := Aside0.mk (ho); clear HO_5; clear HB; clear HO_6; have HO_5 := n0_; have HB := n1_; have HO299 := n2_; clear n0_ n1_ n2_; clear ho hb hg hat))
              go_roundg k1
              case measure => have := HK1.out; omega
              case rel => exact ⟨(y297), (wrap64 (x7_1 + 1)), (by first | rfl | (simp; done) | (simp [*]; done)), H', ⟨by have := HK1.out; omega⟩, ⟨by (with_reducible repeat (first | apply Kd.W_alloc | apply Kd.W_drewN | apply Kd.W_drew)); exact Kd.W_mono HO_5.out (fun _ hk => by first | exact hk.2 | exact trivial)⟩, ⟨by (with_reducible repeat (first | apply Kd.R_alloc | apply Kd.R_drewN | apply Kd.R_drew)); exact HO299.out⟩, ⟨by repeat (first | (with_reducible first | exact HB.out | apply below_alloc | apply pw_below_drewN | apply below_drew1) | exact HB.out)⟩⟩
            · rw [if_neg c17] at H
              exact absurd H (by simp)
          · rw [if_neg c16] at H
            have c16b0 : decide (x7_1 < 9) = false := decide_eq_false c16
            clear c16
            obtain ⟨ji19, hji19⟩ : ∃ j_ : Int, (mx 0 t284) = j_ := ⟨_, rfl⟩
            replace H : ((impl_CompressTrend.f k1 x6_1 (ji19)).bind fun t300 => (if (t300.length : Int) = 2 then (if (t287.length : Int) = 0 then (some true) else ((impl_TrendError.f k1 t287 t287).bind fun t303 => (some (t303 == 0)))) else (some false))) = some r := by first | (rw [hji19] at H; exact H) | (simp only [hji19] at H ⊢; exact H)
            have hji19_ : (if 0 < t284 then t284 else 0) = ji19 := hji19
            replace H := Option.bind_eq_some_iff.mp H
            obtain ⟨t300, A200, H⟩ := H
            replace H : (if (t300.length : Int) = 2 then (if (t287.length : Int) = 0 then (some true) else ((impl_TrendError.f k1 t287 t287).bind fun t303 => (some (t303 == 0)))) else (some false)) = some r := H
            have A20 := Aside0.mk A200
            clear A200
            by_cases c21 : (t300.length : Int) = 2
            · rw [if_pos c21] at H
              have c21b0 : ((t300.length : Int) == 2) = true := beq_iff_eq.mpr c21
              have c21b1 : ((t300.length : Int) != 2) = false := bne_eq_false_iff_eq.mpr c21
              clear c21
              by_cases c22 : (t287.length : Int) = 0
              · rw [if_pos c22] at H
                have c22b0 : ((t287.length : Int) == 0) = true := beq_iff_eq.mpr c22
                have c22b1 : ((t287.length : Int) != 0) = false := bne_eq_false_iff_eq.mpr c22
                clear c22
                obtain rfl := Option.some.inj H
                obtain ⟨Ao23, co23, eo23⟩ := Kd.R_slice HO_6.out
                subst eo23
                go_wp2_with (first | ((with_reducible refine gate_callee (f := 61) rfl ?_); refine goesL_ (some 43) rfl rfl Try.func61 (by kernel_rfl) rfl #[.slice Ao23 x6_1.length co23, .int .i64 ji19] rfl (by (try simp only [List.map_toArray, List.map_cons, List.map_nil]); first | done | (simp only [hji19]; rfl) | rfl | (simp only [List.length_drop, List.length_take]; rfl)) ?_; (with_reducible refine (impl_CompressTrend.calls k1 _ _ x6_1 ji19 t300 _ ?side1 ?side2 A20.out).mono ?_); (case side1 => repeat (first | exact (Kd.R_reads' HO_6.out).2.2 | (with_reducible refine Kd.C_alloc ?_ _) | (with_reducible refine Kd.C_drewN ?_ _) | (with_reducible refine Kd.C_drew ?_))); (case side2 => exact (Kd.R_reads' HO_6.out).2.1); rintro e w24 ⟨v301, rfl, ho0, hb⟩; refine ⟨_, rfl, ?_⟩; have n0_ := Aside0.mk (Kd.W_elder' (by (with_reducible repeat (first | apply Kd.W_alloc | apply Kd.W_drewN | apply Kd.W_drew)); exact HO_5.out) (Kd.W_base ho0) hb); have n1_ := Aside0.mk (Kd.R_elder' (by (with_reducible repeat (first | apply Kd.R_alloc | apply Kd.R_drewN | apply Kd.R_drew)); exact HO_6.out) (Kd.W_base ho0) hb); have n2_ := Aside0.mk (Kd.W_lower (Kd.W_new' (Kd.W_new' ho0 (Kd.W_lt (by (with_reducible repeat (first | apply Kd.W_alloc | apply Kd.W_drewN | apply Kd.W_drew)); exact HO_5.out))) (Kd.R_lt (by (with_reducible repeat (first | apply Kd.R_alloc | apply Kd.R_drewN | apply Kd.R_drew)); exact HO_6.out))) (below_size (by repeat (first | (with_reducible first | exact HB.out | apply below_alloc | apply pw_below_drewN | apply below_drew1) | exact HB.out)))); have n3_ := Aside0.mk (below_step (by repeat (first | (with_reducible first | exact HB.out | apply below_alloc | apply pw_below_drewN | apply below_drew1) | exact HB.out)) hb); clear HO_5; clear HO_6; clear HB; have HO_5 := n0_; have HO_6 := n1_; have HO302 := n2_; have HB := n3_; clear n0_ n1_ n2_ n3_; (try clear hb); (try clear hb2); (try clear hk); (try clear hi); (try clear ho0); obtain ⟨Ao25, co25, eo25, _⟩ := Kd.W_slice HO302.out; subst eo25))
                go_ret
                exact ⟨by first | rfl | (simp [errW_none, errW_some] <;> rfl) | (simp only [← hji19]; first | rfl | (simp [errW_none, errW_some] <;> rfl)) | (simp [*, errW_none, errW_some] <;> rfl), by repeat (first | (with_reducible first | exact HB.out | apply below_alloc | apply pw_below_drewN | apply below_drew1) | exact HB.out)⟩
              · rw [if_neg c22] at H
                have c22b0 : ((t287.length : Int) == 0) = false := beq_eq_false_iff_ne.mpr c22
                have c22b1 : ((t287.length : Int) != 0) = true := bne_iff_ne.mpr c22
                have c22b2 : ¬ (t287 = []) := fun h_ => c22 (by rw [h_]; rfl)
                replace H := Option.bind_eq_some_iff.mp H
                obtain ⟨t303, A260, H⟩ := H
                replace H : (some (t303 == 0)) = some r := H
                have A26 := Aside0.mk A260
                clear A260
                obtain rfl := Option.some.inj H
                obtain ⟨Ao27, co27, eo27⟩ := Kd.R_slice HO_6.out
                subst eo27
                go_wp2_with (first | ((with_reducible refine gate_callee (f := 61) rfl ?_); refine goesL_ (some 43) rfl rfl Try.func61 (by kernel_rfl) rfl #[.slice Ao27 x6_1.length co27, .int .i64 ji19] rfl (by (try simp only [List.map_toArray, List.map_cons, List.map_nil]); first | done | (simp only [hji19]; rfl) | rfl | (simp only [List.length_drop, List.length_take]; rfl)) ?_; (with_reducible refine (impl_CompressTrend.calls k1 _ _ x6_1 ji19 t300 _ ?side1 ?side2 A20.out).mono ?_); (case side1 => repeat (first | exact (Kd.R_reads' HO_6.out).2.2 | (with_reducible refine Kd.C_alloc ?_ _) | (with_reducible refine Kd.C_drewN ?_ _) | (with_reducible refine Kd.C_drew ?_))); (case side2 => exact (Kd.R_reads' HO_6.out).2.1); rintro e w28 ⟨v301, rfl, ho0, hb⟩; refine ⟨_, rfl, ?_⟩; have n0_ := Aside0.mk (Kd.W_elder' (by (with_reducible repeat (first | apply Kd.W_alloc | apply Kd.W_drewN | apply Kd.W_drew)); exact HO_5.out) (Kd.W_base ho0) hb); have n1_ := Aside0.mk (Kd.R_elder' (by (with_reducible repeat (first | apply Kd.R_alloc | apply Kd.R_drewN | apply Kd.R_drew)); exact HO_6.out) (Kd.W_base ho0) hb); have n2_ := Aside0.mk (Kd.W_lower (Kd.W_new' (Kd.W_new' ho0 (Kd.W_lt (by (with_reducible repeat (first | apply Kd.W_alloc | apply Kd.W_drewN | apply Kd.W_drew)); exact HO_5.out))) (Kd.R_lt (by (with_reducible repeat (first | apply Kd.R_alloc | apply Kd.R_drewN | apply Kd.R_drew)); exact HO_6.out))) (below_size (by repeat (first | (with_reducible first | exact HB.out | apply below_alloc | apply pw_below_drewN | apply below_drew1) | exact HB.out)))); have n3_ := Aside0.mk (below_step (by repeat (first | (with_reducible first | exact HB.out | apply below_alloc | apply pw_below_drewN | apply below_drew1) | exact HB.out)) hb); clear HO_5; clear HO_6; clear HB; have HO_5 := n0_; have HO_6 := n1_; have HO302 := n2_; have HB := n3_; clear n0_ n1_ n2_ n3_; (try clear hb); (try clear hb2); (try clear hk); (try clear hi); (try clear ho0); obtain ⟨Ao29, co29, eo29, _⟩ := Kd.W_slice HO302.out; subst eo29) | (go_at_call 44; (with_reducible refine (impl_TrendError.calls k1 _ _ t287 _ _ t287 t303 _ ?side1 ?side2 ?side3 ?side4 A26.out).mono ?_); (case side1 => repeat (first | exact (Kd.W_reads' HO_5.out).2.2 | (with_reducible refine Kd.C_alloc ?_ _) | (with_reducible refine Kd.C_drewN ?_ _) | (with_reducible refine Kd.C_drew ?_))); (case side2 => exact (Kd.W_reads' HO_5.out).2.1); (case side3 => repeat (first | exact (Kd.W_reads' HO_5.out).2.2 | (with_reducible refine Kd.C_alloc ?_ _) | (with_reducible refine Kd.C_drewN ?_ _) | (with_reducible refine Kd.C_drew ?_))); (case side4 => exact (Kd.W_reads' HO_5.out).2.1); rintro e w30 ⟨rfl, hb⟩; have n0_ := Aside0.mk (Kd.W_below (by (with_reducible repeat (first | apply Kd.W_alloc | apply Kd.W_drewN | apply Kd.W_drew)); exact HO_5.out) hb); have n1_ := Aside0.mk (Kd.R_below (by (with_reducible repeat (first | apply Kd.R_alloc | apply Kd.R_drewN | apply Kd.R_drew)); exact HO_6.out) hb); have n2_ := Aside0.mk (Kd.W_below (by (with_reducible repeat (first | apply Kd.W_alloc | apply Kd.W_drewN | apply Kd.W_drew)); exact HO302.out) hb); have n3_ := Aside0.mk (below_step (by repeat (first | (with_reducible first | exact HB.out | apply below_alloc | apply pw_below_drewN | apply below_drew1) | exact HB.out)) hb); clear HO_5; clear HO_6; clear HO302; clear HB; have HO_5 := n0_; have HO_6 := n1_; have HO302 := n2_; have HB := n3_; clear n0_ n1_ n2_ n3_; (try clear hb); (try clear hb2); (try clear hk); (try clear hi)))
                go_ret
                exact ⟨by first | rfl | (simp [errW_none, errW_some] <;> rfl) | (simp only [← hji19]; first | rfl | (simp [errW_none, errW_some] <;> rfl)) | (simp [*, errW_none, errW_some] <;> rfl), by repeat (first | (with_reducible first | exact HB.out | apply below_alloc | apply pw_below_drewN | apply below_drew1) | exact HB.out)⟩
            · rw [if_neg c21] at H
              have c21b0 : ((t300.length : Int) == 2) = false := beq_eq_false_iff_ne.mpr c21
              have c21b1 : ((t300.length : Int) != 2) = true := bne_iff_ne.mpr c21
              obtain rfl := Option.some.inj H
              obtain ⟨Ao31, co31, eo31⟩ := Kd.R_slice HO_6.out
              subst eo31
              go_wp2_with (first | ((with_reducible refine gate_callee (f := 61) rfl ?_); refine goesL_ (some 43) rfl rfl Try.func61 (by kernel_rfl) rfl #[.slice Ao31 x6_1.length co31, .int .i64 ji19] rfl (by (try simp only [List.map_toArray, List.map_cons, List.map_nil]); first | done | (simp only [hji19]; rfl) | rfl | (simp only [List.length_drop, List.length_take]; rfl)) ?_; (with_reducible refine (impl_CompressTrend.calls k1 _ _ x6_1 ji19 t300 _ ?side1 ?side2 A20.out).mono ?_); (case side1 => repeat (first | exact (Kd.R_reads' HO_6.out).2.2 | (with_reducible refine Kd.C_alloc ?_ _) | (with_reducible refine Kd.C_drewN ?_ _) | (with_reducible refine Kd.C_drew ?_))); (case side2 => exact (Kd.R_reads' HO_6.out).2.1); rintro e w32 ⟨v301, rfl, ho0, hb⟩; refine ⟨_, rfl, ?_⟩; have n0_ := Aside0.mk (Kd.W_elder' (by (with_reducible repeat (first | apply Kd.W_alloc | apply Kd.W_drewN | apply Kd.W_drew)); exact HO_5.out) (Kd.W_base ho0) hb); have n1_ := Aside0.mk (Kd.R_elder' (by (with_reducible repeat (first | apply Kd.R_alloc | apply Kd.R_drewN | apply Kd.R_drew)); exact HO_6.out) (Kd.W_base ho0) hb); have n2_ := Aside0.mk (Kd.W_lower (Kd.W_new' (Kd.W_new' ho0 (Kd.W_lt (by (with_reducible repeat (first | apply Kd.W_alloc | apply Kd.W_drewN | apply Kd.W_drew)); exact HO_5.out))) (Kd.R_lt (by (with_reducible repeat (first | apply Kd.R_alloc | apply Kd.R_drewN | apply Kd.R_drew)); exact HO_6.out))) (below_size (by repeat (first | (with_reducible first | exact HB.out | apply below_alloc | apply pw_below_drewN | apply below_drew1) | exact HB.out)))); have n3_ := Aside0.mk (below_step (by repeat (first | (with_reducible first | exact HB.out | apply below_alloc | apply pw_below_drewN | apply below_drew1) | exact HB.out)) hb); clear HO_5; clear HO_6; clear HB; have HO_5 := n0_; have HO_6 := n1_; have HO302 := n2_; have HB := n3_; clear n0_ n1_ n2_ n3_; (try clear hb); (try clear hb2); (try clear hk); (try clear hi); (try clear ho0); obtain ⟨Ao33, co33, eo33, _⟩ := Kd.W_slice HO302.out; subst eo33))
              go_ret
              exact ⟨by first | rfl | (simp [errW_none, errW_some] <;> rfl) | (simp only [← hji19]; first | rfl | (simp [errW_none, errW_some] <;> rfl)) | (simp [*, errW_none, errW_some] <;> rfl), by repeat (first | (with_reducible first | exact HB.out | apply below_alloc | apply pw_below_drewN | apply below_drew1) | exact HB.out)⟩
    · replace c7 := Bool.eq_false_iff.mpr c7
      subst c7
      have H1 : (some false) = some r := by rw [if_neg (show ¬ (false = true) by decide)] at H; exact H
      clear H
      have H := H1
      clear H1
      obtain rfl := Option.some.inj H
      go_enter Try.func16, Try.ntmps16
      go_wp2_with (first | ((with_reducible refine gate_callee (f := 69) rfl ?_); refine goesL_ (some 14) rfl rfl Try.func69 (by kernel_rfl) rfl #[.slice A0 l0.length c0] rfl (by (try simp only [List.map_toArray, List.map_cons, List.map_nil]); first | done | rfl | (simp only [List.length_drop, List.length_take]; rfl)) ?_; (with_reducible refine (spec_DrawCompressTrend.calls k _ _ l0 t283 t284 _ ?side1 ?side2 A3.out).mono ?_); (case side1 => repeat (first | exact HR0.out | (with_reducible refine Kd.C_alloc ?_ _) | (with_reducible refine Kd.C_drewN ?_ _) | (with_reducible refine Kd.C_drew ?_))); (case side2 => exact HC0.out); rintro e w34 ⟨v285, rfl, ho0, hb⟩; refine ⟨_, rfl, ?_⟩; have n0_ := Aside0.mk (Kd.R_lower ho0 (below_size (by repeat (first | (with_reducible first | exact HB.out | apply below_alloc | apply pw_below_drewN | apply below_drew1) | exact HB.out)))); have n1_ := Aside0.mk (below_step (by repeat (first | (with_reducible first | exact HB.out | apply below_alloc | apply pw_below_drewN | apply below_drew1) | exact HB.out)) hb); clear HB; have HO286 := n0_; have HB := n1_; clear n0_ n1_; (try clear hb); (try clear hb2); (try clear hk); (try clear hi); (try clear ho0); obtain ⟨Ao35, co35, eo35⟩ := Kd.R_slice HO286.out; subst eo35) | ((with_reducible refine gate_callee (f := 61) rfl ?_); refine goesL_ (some 19) rfl rfl Try.func61 (by kernel_rfl) rfl #[.slice Ao35 t283.length co35, .int .i64 t284] rfl (by (try simp only [List.map_toArray, List.map_cons, List.map_nil]); first | done | rfl | (simp only [List.length_drop, List.length_take]; rfl)) ?_; (with_reducible refine (impl_CompressTrend.calls k _ _ t283 t284 t287 _ ?side1 ?side2 A4.out).mono ?_); (case side1 => repeat (first | exact (Kd.R_reads' HO286.out).2.2 | (with_reducible refine Kd.C_alloc ?_ _) | (with_reducible refine Kd.C_drewN ?_ _) | (with_reducible refine Kd.C_drew ?_))); (case side2 => exact (Kd.R_reads' HO286.out).2.1); rintro e w36 ⟨v288, rfl, ho0, hb⟩; refine ⟨_, rfl, ?_⟩; have n0_ := Aside0.mk (Kd.R_elder' (by (with_reducible repeat (first | apply Kd.R_alloc | apply Kd.R_drewN | apply Kd.R_drew)); exact HO286.out) (Kd.W_base ho0) hb); have n1_ := Aside0.mk (Kd.W_lower (Kd.W_new' ho0 (Kd.R_lt (by (with_reducible repeat (first | apply Kd.R_alloc | apply Kd.R_drewN | apply Kd.R_drew)); exact HO286.out))) (below_size (by repeat (first | (with_reducible first | exact HB.out | apply below_alloc | apply pw_below_drewN | apply below_drew1) | exact HB.out)))); have n2_ := Aside0.mk (below_step (by repeat (first | (with_reducible first | exact HB.out | apply below_alloc | apply pw_below_drewN | apply below_drew1) | exact HB.out)) hb); clear HO286; clear HB; have HO286 := n0_; have HO289 := n1_; have HB := n2_; clear n0_ n1_ n2_; (try clear hb); (try clear hb2); (try clear hk); (try clear hi); (try clear ho0)) | ((with_reducible refine gate_callee (f := 60) rfl ?_); refine goesL_ (some 23) rfl rfl Try.func60 (by kernel_rfl) rfl #[.slice Ao35 t283.length co35, .int .i64 t284] rfl (by (try simp only [List.map_toArray, List.map_cons, List.map_nil]); first | done | rfl | (simp only [List.length_drop, List.length_take]; rfl)) ?_; (with_reducible refine (spec_CompressTrend.calls k _ _ t283 t284 t290 _ ?side1 ?side2 A5.out).mono ?_); (case side1 => repeat (first | exact (Kd.R_reads' HO286.out).2.2 | (with_reducible refine Kd.C_alloc ?_ _) | (with_reducible refine Kd.C_drewN ?_ _) | (with_reducible refine Kd.C_drew ?_))); (case side2 => exact (Kd.R_reads' HO286.out).2.1); rintro e w37 ⟨v291, rfl, ho0, hb⟩; refine ⟨_, rfl, ?_⟩; have n0_ := Aside0.mk (Kd.R_elder' (by (with_reducible repeat (first | apply Kd.R_alloc | apply Kd.R_drewN | apply Kd.R_drew)); exact HO286.out) (Kd.R_base ho0) hb); have n1_ := Aside0.mk (Kd.W_elder' (by (with_reducible repeat (first | apply Kd.W_alloc | apply Kd.W_drewN | apply Kd.W_drew)); exact HO289.out) (Kd.R_base ho0) hb); have n2_ := Aside0.mk (Kd.R_lower (Kd.R_new' (Kd.R_new' ho0 (Kd.R_lt (by (with_reducible repeat (first | apply Kd.R_alloc | apply Kd.R_drewN | apply Kd.R_drew)); exact HO286.out))) (Kd.W_lt (by (with_reducible repeat (first | apply Kd.W_alloc | apply Kd.W_drewN | apply Kd.W_drew)); exact HO289.out))) (below_size (by repeat (first | (with_reducible first | exact HB.out | apply below_alloc | apply pw_below_drewN | apply below_drew1) | exact HB.out)))); have n3_ := Aside0.mk (below_step (by repeat (first | (with_reducible first | exact HB.out | apply below_alloc | apply pw_below_drewN | apply below_drew1) | exact HB.out)) hb); clear HO286; clear HO289; clear HB; have HO286 := n0_; have HO289 := n1_; have HO292 := n2_; have HB := n3_; clear n0_ n1_ n2_ n3_; (try clear hb); (try clear hb2); (try clear hk); (try clear hi); (try clear ho0); obtain ⟨Ao38, co38, eo38, _⟩ := Kd.W_slice HO289.out; subst eo38; obtain ⟨Ao39, co39, eo39⟩ := Kd.R_slice HO292.out; subst eo39) | ((with_reducible refine gate_callee (f := 70) rfl ?_); refine goesL_ (some 24) rfl rfl Try.func70 (by kernel_rfl) rfl #[.slice Ao38 t287.length co38, .slice Ao39 t290.length co39] rfl (by (try simp only [List.map_toArray, List.map_cons, List.map_nil]); first | done | rfl | (simp only [List.length_drop, List.length_take]; rfl)) ?_; (with_reducible refine (laws_samePoints.calls k _ _ t287 _ _ t290 false _ ?side1 ?side2 ?side3 ?side4 A6.out).mono ?_); (case side1 => repeat (first | exact (Kd.W_reads' HO289.out).2.2 | (with_reducible refine Kd.C_alloc ?_ _) | (with_reducible refine Kd.C_drewN ?_ _) | (with_reducible refine Kd.C_drew ?_))); (case side2 => exact (Kd.W_reads' HO289.out).2.1); (case side3 => repeat (first | exact (Kd.R_reads' HO292.out).2.2 | (with_reducible refine Kd.C_alloc ?_ _) | (with_reducible refine Kd.C_drewN ?_ _) | (with_reducible refine Kd.C_drew ?_))); (case side4 => exact (Kd.R_reads' HO292.out).2.1); rintro e w' ⟨rfl, ⟨nd, rfl⟩⟩; refine ⟨_, rfl, ?_⟩))
      go_ret
      exact ⟨by first | rfl | (simp [errW_none, errW_some] <;> rfl) | (simp [*, errW_none, errW_some] <;> rfl), by repeat (first | (with_reducible first | exact HB.out | apply below_alloc | apply pw_below_drewN | apply below_drew1) | exact HB.out)⟩

/-- THE ONE PURE STATEMENT of laws_FnCompressLine: yours. -/
def laws_FnCompressLine.Pure : Prop := ∀ (l0 : List Int), l0.length ≤ maxLen → l0.length * 1 ≤ 140737488351232 → (∀ x ∈ l0, (Lit.int .u8 x).wf = true) → ∃ k, laws_FnCompressLine.f k l0 = some true
theorem laws_FnCompressLine.walk (P : laws_FnCompressLine.Pure) (a0 : Option Addr) (len0 cap0 : Nat) (z0 : List Int) (w : World) (w0 : (a0 = none ∧ len0 = 0 ∧ cap0 = 0 ∧ z0 = []) ∨ ∃ x, a0 = some x ∧ len0 ≤ cap0 ∧ cap0 ≤ maxLen ∧ z0.length = cap0 ∧ (∀ i, i < z0.length → w.cell? (x.add i) = some (.int .u8 (z0.getD i 0))) ∧ ∀ n ∈ z0, (Lit.int .u8 n).wf = true) (y0 : len0 * 1 ≤ 140737488351232) :
    Calls Try.prog 16 #[.slice a0 len0 cap0] w fun e w' => e = .returned (.bool true) ∧ Below w.heap.size w w' := by
  obtain ⟨l0, rfl, hr0, hm0, hw0, hc0⟩ := ReadsInt.ofRowC w0
  obtain ⟨k, h⟩ := P l0 hm0 y0 hw0
  refine (laws_FnCompressLine.calls k _ _ l0 true w (Kd.C_of_reads (d := (0 : Int)) (h1 := fun _ => rfl) hr0) hc0 h).mono ?_
  rintro e w' ⟨rfl, hd⟩
  exact ⟨rfl, hd⟩

end Go.Proofs.Ythbbhdadioiefaa.QFnCompressLine
