-- Written by wip/pr2.py: a program of this session's own, which runs the kit's print over contracts of its own.
import Derived.Test.YtdbbdikkboppnaaQFnExactTraceFromx0
import Derived.Test.YtdbbdikkboppnaaQFnExactTraceFromx2
namespace Go.Proofs.Ytdbbdikkboppnaa.QFnExactTraceFrom
open Go.RowKit Go.Proofs.YtdbbdikkboppnaaW.PrintWords Go.Proofs.YtdbbdikkboppnaaW.PrintLast Go.Proofs.YtdbbdikkboppnaaW.PrintMore
attribute [local go_sem] max2_int min2_int max_two min_two max_three min_three max_four min_four   -- for this text's walks alone
set_option linter.unusedVariables false
set_option linter.unusedSimpArgs false

/-! ### impl_TraceFrom: function 33 -/
mutual
def impl_TraceFrom.l0 : Nat → List Int → List Bool → List Int → Int → Int → Option (List Bool × Bool)
  | 0, _, _, _, _, _ => none
  | k + 1, x0, x4, x8, x9, x10 => if x10 < x9 then (if 0 ≤ x10 then (if x10 < (x8.length : Int) then (if x10 = 0 then (impl_TraceFrom.j1 k x0 x4 x10 (rd x8 x10) 1 x8 x9 x10 (decide ((x0.length : Int) > 1))) else (impl_TraceFrom.j1 k x0 x4 x10 (rd x8 x10) 1 x8 x9 x10 false)) else (none)) else (none)) else ((impl_clone_bool.f x4).bind fun t126 => (some (t126, true)))
def impl_TraceFrom.j1 : Nat → List Int → List Bool → Int → Int → Int → List Int → Int → Int → Bool → Option (List Bool × Bool)
  | 0, _, _, _, _, _, _, _, _, _ => none
  | k + 1, x0, x4, x5, x6, x7, x8, x9, x10, x21 => if x21 = true then (impl_TraceFrom.j2 k x0 x4 x5 x6 0 x8 x9 x10) else (impl_TraceFrom.j2 k x0 x4 x5 x6 x7 x8 x9 x10)
def impl_TraceFrom.j2 : Nat → List Int → List Bool → Int → Int → Int → List Int → Int → Int → Option (List Bool × Bool)
  | 0, _, _, _, _, _, _, _, _ => none
  | k + 1, x0, x4, x5, x6, x7, x8, x9, x10 => (impl_in.f x6 x7 (wrap64 (200 - (x4.length : Int)))).bind fun t130 => (if t130 = true then (impl_TraceFrom.l1 k x0 x4 x5 x8 x9 x10 x6 0) else (some (([] : List Bool), false)))
def impl_TraceFrom.l1 : Nat → List Int → List Bool → Int → List Int → Int → Int → Int → Int → Option (List Bool × Bool)
  | 0, _, _, _, _, _, _, _, _ => none
  | k + 1, x0, x4, x5, x8, x9, x10, x29, x30 => if x30 < x29 then (if x4.length < 140737488355328 then (impl_TraceFrom.l1 k x0 (x4 ++ [((Int.tmod x5 2) == 1)]) x5 x8 x9 x10 x29 (wrap64 (x30 + 1))) else (none)) else (impl_TraceFrom.l0 k x0 x4 x8 x9 (wrap64 (x10 + 1)))
end
def impl_TraceFrom.f (k : Nat) (l0 : List Int) : Option (List Bool × Bool) := impl_TraceFrom.l0 k l0 ([] : List Bool) l0 (l0.length : Int) 0
theorem impl_TraceFrom.mono_l : ∀ k, (∀ y0 y1 y2 y3 y4, LeO (impl_TraceFrom.l0 k y0 y1 y2 y3 y4) (impl_TraceFrom.l0 (k + 1) y0 y1 y2 y3 y4)) ∧ (∀ y0 y1 y2 y3 y4 y5 y6 y7 y8, LeO (impl_TraceFrom.j1 k y0 y1 y2 y3 y4 y5 y6 y7 y8) (impl_TraceFrom.j1 (k + 1) y0 y1 y2 y3 y4 y5 y6 y7 y8)) ∧ (∀ y0 y1 y2 y3 y4 y5 y6 y7, LeO (impl_TraceFrom.j2 k y0 y1 y2 y3 y4 y5 y6 y7) (impl_TraceFrom.j2 (k + 1) y0 y1 y2 y3 y4 y5 y6 y7)) ∧ (∀ y0 y1 y2 y3 y4 y5 y6 y7, LeO (impl_TraceFrom.l1 k y0 y1 y2 y3 y4 y5 y6 y7) (impl_TraceFrom.l1 (k + 1) y0 y1 y2 y3 y4 y5 y6 y7))
  | 0 => ⟨fun _ _ _ _ _ r h => by simp [impl_TraceFrom.l0] at h, fun _ _ _ _ _ _ _ _ _ r h => by simp [impl_TraceFrom.j1] at h, fun _ _ _ _ _ _ _ _ r h => by simp [impl_TraceFrom.j2] at h, fun _ _ _ _ _ _ _ _ r h => by simp [impl_TraceFrom.l1] at h⟩
  | k + 1 => by
    obtain ⟨ih0, ih1, ih2, ih3⟩ := impl_TraceFrom.mono_l k
    refine ⟨?_, ?_, ?_, ?_⟩
    · intro y0 y1 y2 y3 y4
      unfold impl_TraceFrom.l0
      repeat' first
      | (with_reducible exact ih0 _ _ _ _ _)
      | (with_reducible exact ih1 _ _ _ _ _ _ _ _ _)
      | (with_reducible exact ih2 _ _ _ _ _ _ _ _)
      | (with_reducible exact ih3 _ _ _ _ _ _ _ _)
      | (with_reducible exact LeO.refl _)
      | (with_reducible exact LeO.none _)
      | (with_reducible refine LeO.ite ?_ ?_)
      | (with_reducible refine LeO.bind ?_ (fun _ => ?_))
      | exact ih0 _ _ _ _ _
      | exact ih1 _ _ _ _ _ _ _ _ _
      | exact ih2 _ _ _ _ _ _ _ _
      | exact ih3 _ _ _ _ _ _ _ _
      | exact LeO.none _
      | refine LeO.ite ?_ ?_
      | refine LeO.bind ?_ (fun _ => ?_)
    · intro y0 y1 y2 y3 y4 y5 y6 y7 y8
      unfold impl_TraceFrom.j1
      repeat' first
      | (with_reducible exact ih0 _ _ _ _ _)
      | (with_reducible exact ih1 _ _ _ _ _ _ _ _ _)
      | (with_reducible exact ih2 _ _ _ _ _ _ _ _)
      | (with_reducible exact ih3 _ _ _ _ _ _ _ _)
      | (with_reducible exact LeO.refl _)
      | (with_reducible exact LeO.none _)
      | (with_reducible refine LeO.ite ?_ ?_)
      | (with_reducible refine LeO.bind ?_ (fun _ => ?_))
      | exact ih0 _ _ _ _ _
      | exact ih1 _ _ _ _ _ _ _ _ _
      | exact ih2 _ _ _ _ _ _ _ _
      | exact ih3 _ _ _ _ _ _ _ _
      | exact LeO.none _
      | refine LeO.ite ?_ ?_
      | refine LeO.bind ?_ (fun _ => ?_)
    · intro y0 y1 y2 y3 y4 y5 y6 y7
      unfold impl_TraceFrom.j2
      repeat' first
      | (with_reducible exact ih0 _ _ _ _ _)
      | (with_reducible exact ih1 _ _ _ _ _ _ _ _ _)
      | (with_reducible exact ih2 _ _ _ _ _ _ _ _)
      | (with_reducible exact ih3 _ _ _ _ _ _ _ _)
      | (with_reducible exact LeO.refl _)
      | (with_reducible exact LeO.none _)
      | (with_reducible refine LeO.ite ?_ ?_)
      | (with_reducible refine LeO.bind ?_ (fun _ => ?_))
      | exact ih0 _ _ _ _ _
      | exact ih1 _ _ _ _ _ _ _ _ _
      | exact ih2 _ _ _ _ _ _ _ _
      | exact ih3 _ _ _ _ _ _ _ _
      | exact LeO.none _
      | refine LeO.ite ?_ ?_
      | refine LeO.bind ?_ (fun _ => ?_)
    · intro y0 y1 y2 y3 y4 y5 y6 y7
      unfold impl_TraceFrom.l1
      repeat' first
      | (with_reducible exact ih0 _ _ _ _ _)
      | (with_reducible exact ih1 _ _ _ _ _ _ _ _ _)
      | (with_reducible exact ih2 _ _ _ _ _ _ _ _)
      | (with_reducible exact ih3 _ _ _ _ _ _ _ _)
      | (with_reducible exact LeO.refl _)
      | (with_reducible exact LeO.none _)
      | (with_reducible refine LeO.ite ?_ ?_)
      | (with_reducible refine LeO.bind ?_ (fun _ => ?_))
      | exact ih0 _ _ _ _ _
      | exact ih1 _ _ _ _ _ _ _ _ _
      | exact ih2 _ _ _ _ _ _ _ _
      | exact ih3 _ _ _ _ _ _ _ _
      | exact LeO.none _
      | refine LeO.ite ?_ ?_
      | refine LeO.bind ?_ (fun _ => ?_)
theorem impl_TraceFrom.mono : ∀ a0 k, LeO (impl_TraceFrom.f k a0) (impl_TraceFrom.f (k + 1) a0) := by
  intro a0 k
  obtain ⟨ih0, ih1, ih2, ih3⟩ := impl_TraceFrom.mono_l k
  unfold impl_TraceFrom.f
  repeat' first
      | (with_reducible exact ih0 _ _ _ _ _)
      | (with_reducible exact ih1 _ _ _ _ _ _ _ _ _)
      | (with_reducible exact ih2 _ _ _ _ _ _ _ _)
      | (with_reducible exact ih3 _ _ _ _ _ _ _ _)
      | (with_reducible exact LeO.refl _)
      | (with_reducible exact LeO.none _)
      | (with_reducible refine LeO.ite ?_ ?_)
      | (with_reducible refine LeO.bind ?_ (fun _ => ?_))
      | exact ih0 _ _ _ _ _
      | exact ih1 _ _ _ _ _ _ _ _ _
      | exact ih2 _ _ _ _ _ _ _ _
      | exact ih3 _ _ _ _ _ _ _ _
      | exact LeO.none _
      | refine LeO.ite ?_ ?_
      | refine LeO.bind ?_ (fun _ => ?_)
set_option maxHeartbeats 8000000 in
set_option maxRecDepth 100000 in
theorem impl_TraceFrom.calls (k : Nat) (A0 : Option Addr) (c0 : Nat) (l0 : List Int) (r1 : List Bool) (r2 : Bool) (w : World) (hr0 : Kd.C (Kd.int .i64) w A0 l0.length l0) (hc0 : l0.length ≤ c0) (h : impl_TraceFrom.f k l0 = some (r1, r2)) :
    Calls Try.prog 33 #[.slice A0 l0.length c0] w fun e w' => ∃ v0_ : Value, e = .returned (.tuple #[v0_, .bool r2]) ∧ Kd.W Kd.bool 4 w' w.heap.size (fun _ => True) v0_ r1 ∧ Below w.heap.size w w' := by
  have HR0 := Aside0.mk hr0
  have HC0 := Aside0.mk hc0
  clear hr0 hc0
  have HB := Aside0.mk (Below.refl w.heap.size w)
  have H : (impl_TraceFrom.l0 k l0 ([] : List Bool) l0 (l0.length : Int) 0) = some (r1, r2) := h
  clear h
  have H' := Aside0.mk H
  clear H
  go_enter Try.func33, Try.ntmps33
  go_wp2
  go_loopg [4, 10] k (fun kq v4 v10 w' => ∃ (x4_1 : List Bool) (x10_1 : Int), v10 = .int .i64 x10_1 ∧ Aside0 (impl_TraceFrom.l0 kq l0 x4_1 l0 (l0.length : Int) x10_1 = some (r1, r2)) ∧ Aside0 (kq ≤ k) ∧ Aside0 (Kd.R Kd.bool 4 w' w.heap.size (fun _ => True) v4 x4_1) ∧ Aside0 (Below w.heap.size w w'))
  case atStart => exact ⟨(([] : List Bool)), (0), (by first | rfl | (simp; done) | (simp [*]; done)), H', ⟨Nat.le_refl _⟩, ⟨by first | exact Kd.R_nil _ _ _ _ _ | exact Kd.N_nil _ _ _ _ _ | exact Kd.V_nil _ _ _ _ _ | exact Kd.W_nil _ _ _ _ _ | exact Kd.S_nil _ _ _ _ _⟩, ⟨by repeat (first | (with_reducible first | exact HB.out | apply below_alloc | apply pw_below_drewN | apply below_drew1) | exact HB.out)⟩⟩
  case round =>
    clear H'
    obtain ⟨x4_1, x10_1, rfl, HA, HK1, HO_4, HB⟩ := hrel
    cases gk with
    | zero => exact absurd HA.out (by simp [impl_TraceFrom.l0])
    | succ k1 =>
      have H := HA.out
      clear HA
      simp only [impl_TraceFrom.l0] at H
      by_cases c2 : x10_1 < (l0.length : Int)
      · rw [if_pos c2] at H
        have c2b0 : decide (x10_1 < (l0.length : Int)) = true := decide_eq_true c2
        clear c2
        by_cases c3 : 0 ≤ x10_1
        · rw [if_pos c3] at H
          have c3b0 : decide (0 ≤ x10_1) = true := decide_eq_true c3
          clear c3
          by_cases c4 : x10_1 < (l0.length : Int)
          · rw [if_pos c4] at H
            have c4b0 : decide (x10_1 < (l0.length : Int)) = true := decide_eq_true c4
            clear c4
            have HC5 := Aside0.mk H
            clear H
            have p129 : 0 ≤ (x10_1 : Int) := of_decide_eq_true (by first | (with_reducible assumption) | assumption)
            have q129 : x10_1 < (l0.length : Int) := of_decide_eq_true (by first | (with_reducible assumption) | assumption)
            obtain ⟨ad129, e129, hx129_0⟩ := Kd.at_int HR0.out x10_1 p129 q129
            cases e129
            replace hx129_0 := (HB.out.cell (World.block_lt_of_cell? w _ hx129_0)).trans hx129_0
            replace p129 := eq_true p129
            replace q129 := eq_true q129
            go_upto_region 6 with (fail)
            go_cut [21] (fun v21 wc => ∃ (kq : Nat) (x21_4 : Bool), v21 = .bool x21_4 ∧ Aside0 (impl_TraceFrom.j1 kq l0 x4_1 x10_1 (rd l0 x10_1) 1 l0 (l0.length : Int) x10_1 x21_4 = some (r1, r2)) ∧ Aside0 (kq ≤ k1) ∧ Aside0 (Kd.R Kd.bool 4 wc w.heap.size (fun _ => True) u4 x4_1) ∧ Aside0 (Below w.heap.size w wc))
            case first =>
              have H := HC5.out
              clear HC5
              by_cases c6 : x10_1 = 0
              · rw [if_pos c6] at H
                have c6b0 : (x10_1 == 0) = true := beq_iff_eq.mpr c6
                have c6b1 : (x10_1 != 0) = false := bne_eq_false_iff_eq.mpr c6
                clear c6
                (first | rw [c6b0] | (simp only [i64_w, i32_w]; rw [c6b0]) | skip)
                have H' := Aside0.mk H
                clear H
                go_wp2
                go_meet
                case rel => exact ⟨_, (decide ((l0.length : Int) > 1)), (by first | rfl | (simp; done) | (simp [*]; done)), H', ⟨by have := HK1.out; first | omega | exact Nat.le_refl _⟩, ⟨by (with_reducible repeat (first | apply Kd.R_alloc | apply Kd.R_drewN | apply Kd.R_drew)); exact HO_4.out⟩, ⟨by repeat (first | (with_reducible first | exact HB.out | apply below_alloc | apply pw_below_drewN | apply below_drew1) | exact HB.out)⟩⟩
              · rw [if_neg c6] at H
                have c6b0 : (x10_1 == 0) = false := beq_eq_false_iff_ne.mpr c6
                have c6b1 : (x10_1 != 0) = true := bne_iff_ne.mpr c6
                (first | rw [c6b0] | (simp only [i64_w, i32_w]; rw [c6b0]) | skip)
                have H' := Aside0.mk H
                clear H
                go_wp2
                go_meet
                case rel => exact ⟨_, (false), (by first | rfl | (simp; done) | (simp [*]; done)), H', ⟨by have := HK1.out; first | omega | exact Nat.le_refl _⟩, ⟨by (with_reducible repeat (first | apply Kd.R_alloc | apply Kd.R_drewN | apply Kd.R_drew)); exact HO_4.out⟩, ⟨by repeat (first | (with_reducible first | exact HB.out | apply below_alloc | apply pw_below_drewN | apply below_drew1) | exact HB.out)⟩⟩
            case rest =>
              clear HC5
              try clear p1
              try clear q1
              try clear hx1
              try clear c2
              try clear c2b0
              try clear p2
              try clear c3
              try clear c3b0
              try clear c4
              try clear c4b0
              try clear c6
              try clear c6b0
              try clear c6b1
              try clear hx129_0
              try clear p129
              try clear q129
              obtain ⟨kq, x21_4, rfl, HA, HJ4, HO_4, HB⟩ := hcut
              cases kq with
              | zero => exact absurd HA.out (by simp [impl_TraceFrom.j1])
              | succ kj4 =>
                have H := HA.out
                clear HA
                simp only [impl_TraceFrom.j1] at H
                have HC7 := Aside0.mk H
                clear H
                go_upto_if 21 with (fail)
                go_cut [7] (fun v7 wc => ∃ (kq : Nat) (x7_6 : Int), v7 = .int .i64 x7_6 ∧ Aside0 (impl_TraceFrom.j2 kq l0 x4_1 x10_1 (rd l0 x10_1) x7_6 l0 (l0.length : Int) x10_1 = some (r1, r2)) ∧ Aside0 (kq ≤ kj4) ∧ Aside0 (Kd.R Kd.bool 4 wc w.heap.size (fun _ => True) u4 x4_1) ∧ Aside0 (Below w.heap.size w wc))
                case first =>
                  have H := HC7.out
                  clear HC7
                  by_cases c8 : x21_4 = true
                  · subst c8
                    have H1 : (impl_TraceFrom.j2 kj4 l0 x4_1 x10_1 (rd l0 x10_1) 0 l0 (l0.length : Int) x10_1) = some (r1, r2) := by rw [if_pos rfl] at H; exact H
                    clear H
                    have H := H1
                    clear H1
                    have H' := Aside0.mk H
                    clear H
                    go_wp2
                    go_meet
                    case rel => exact ⟨_, (0), (by first | rfl | (simp; done) | (simp [*]; done)), H', ⟨by have := HK1.out; have := HJ4.out; first | omega | exact Nat.le_refl _⟩, ⟨by (with_reducible repeat (first | apply Kd.R_alloc | apply Kd.R_drewN | apply Kd.R_drew)); exact HO_4.out⟩, ⟨by repeat (first | (with_reducible first | exact HB.out | apply below_alloc | apply pw_below_drewN | apply below_drew1) | exact HB.out)⟩⟩
                  · replace c8 := Bool.eq_false_iff.mpr c8
                    subst c8
                    have H1 : (impl_TraceFrom.j2 kj4 l0 x4_1 x10_1 (rd l0 x10_1) 1 l0 (l0.length : Int) x10_1) = some (r1, r2) := by rw [if_neg (show ¬ (false = true) by decide)] at H; exact H
                    clear H
                    have H := H1
                    clear H1
                    have H' := Aside0.mk H
                    clear H
                    go_wp2
                    go_meet
                    case rel => exact ⟨_, (1), (by first | rfl | (simp; done) | (simp [*]; done)), H', ⟨by have := HK1.out; have := HJ4.out; first | omega | exact Nat.le_refl _⟩, ⟨by (with_reducible repeat (first | apply Kd.R_alloc | apply Kd.R_drewN | apply Kd.R_drew)); exact HO_4.out⟩, ⟨by repeat (first | (with_reducible first | exact HB.out | apply below_alloc | apply pw_below_drewN | apply below_drew1) | exact HB.out)⟩⟩
                case rest =>
                  clear HC7
                  try clear p1
                  try clear q1
                  try clear hx1
                  try clear c2
                  try clear c2b0
                  try clear p2
                  try clear c3
                  try clear c3b0
                  try clear c4
                  try clear c4b0
                  try clear c6
                  try clear c6b0
                  try clear c6b1
                  try clear c8
                  try clear hx129_0
                  try clear p1
                  try clear p129
                  try clear p2
                  try clear q1
                  try clear q129
                  obtain ⟨kq, x7_6, rfl, HA, HJ6, HO_4, HB⟩ := hcut
                  cases kq with
                  | zero => exact absurd HA.out (by simp [impl_TraceFrom.j2])
                  | succ kj6 =>
                    have H := HA.out
                    clear HA
                    simp only [impl_TraceFrom.j2] at H
                    replace H := Option.bind_eq_some_iff.mp H
                    obtain ⟨t130, A90, H⟩ := H
                    replace H : (if t130 = true then (impl_TraceFrom.l1 kj6 l0 x4_1 x10_1 l0 (l0.length : Int) x10_1 (rd l0 x10_1) 0) else (some (([] : List Bool), false))) = some (r1, r2) := H
                    have A9 := Aside0.mk A90
                    clear A90
                    by_cases c10 : t130 = true
                    · subst c10
                      have H1 : (impl_TraceFrom.l1 kj6 l0 x4_1 x10_1 l0 (l0.length : Int) x10_1 (rd l0 x10_1) 0) = some (r1, r2) := by rw [if_pos rfl] at H; exact H
                      clear H
                      have H := H1
                      clear H1
                      have H' := Aside0.mk H
                      clear H
                      obtain ⟨Ao11, co11, eo11⟩ := Kd.R_slice HO_4.out
                      subst eo11
                      go_wp2_with (first | ((with_reducible refine gate_callee (f := 56) rfl ?_); refine goesL_ (some 27) rfl rfl Try.func56 (by kernel_rfl) rfl #[.int .i64 (rd l0 x10_1), .int .i64 x7_6, .int .i64 (wrap64 (200 - (x4_1.length : Int)))] rfl (by (try simp only [List.map_toArray, List.map_cons, List.map_nil]); first | done | rfl | (simp only [List.length_drop, List.length_take]; rfl)) ?_; (with_reducible refine (impl_in.calls (rd l0 x10_1) x7_6 (wrap64 (200 - (x4_1.length : Int))) true _ A9.out).mono ?_); rintro e w' ⟨rfl, ⟨nd, rfl⟩⟩; refine ⟨_, rfl, ?_⟩))
                      go_loopg [4, 30] kj6 (fun kq v4 v30 w' => ∃ (x4_4 : List Bool) (x30_4 : Int), v30 = .int .i64 x30_4 ∧ Aside0 (impl_TraceFrom.l1 kq l0 x4_4 x10_1 l0 (l0.length : Int) x10_1 (rd l0 x10_1) x30_4 = some (r1, r2)) ∧ Aside0 (kq ≤ kj6) ∧ Aside0 (Kd.R Kd.bool 4 w' w.heap.size (fun _ => True) v4 x4_4) ∧ Aside0 (Below w.heap.size w w'))
                      case atStart => exact ⟨(x4_1), (0), (by first | rfl | (simp; done) | (simp [*]; done)), H', ⟨Nat.le_refl _⟩, ⟨by (with_reducible repeat (first | apply Kd.R_alloc | apply Kd.R_drewN | apply Kd.R_drew)); exact HO_4.out⟩, ⟨by repeat (first | (with_reducible first | exact HB.out | apply below_alloc | apply pw_below_drewN | apply below_drew1) | exact HB.out)⟩⟩
                      case round =>
                        clear H'
                        try clear c1
                        try clear p1
                        try clear q1
                        try clear hx1
                        try clear c2
                        try clear c2b0
                        try clear p2
                        try clear c3
                        try clear c3b0
                        try clear c4
                        try clear c4b0
                        try clear c5
                        try clear c6
                        try clear c6b0
                        try clear c6b1
                        try clear p6
                        try clear c8
                        try clear c10
                        try clear hx129_0
                        try clear p1
                        try clear p129
                        try clear p2
                        try clear q1
                        try clear q129
                        obtain ⟨x4_4, x30_4, rfl, HA, HK4, HO_4, HB⟩ := hrel
                        cases gk with
                        | zero => exact absurd HA.out (by simp [impl_TraceFrom.l1])
                        | succ k4 =>
                          have H := HA.out
                          clear HA
                          simp only [impl_TraceFrom.l1] at H
                          by_cases c12 : x30_4 < (rd l0 x10_1)
                          · rw [if_pos c12] at H
                            have c12b0 : decide (x30_4 < (rd l0 x10_1)) = true := decide_eq_true c12
                            clear c12
                            by_cases c13 : x4_4.length < 140737488355328
                            · rw [if_pos c13] at H
                              have LMc13 := Aside0.mk c13
                              clear c13
                              obtain ⟨y131, hy131⟩ : ∃ y_ : List Bool, y_ = (x4_4 ++ [((Int.tmod x10_1 2) == 1)]) := ⟨_, rfl⟩
                              replace H : (impl_TraceFrom.l1 k4 l0 y131 x10_1 l0 (l0.length : Int) x10_1 (rd l0 x10_1) (wrap64 (x30_4 + 1))) = some (r1, r2) := by first | (rw [hy131]; with_reducible exact H) | (have H2_ := (Option.bind_some _ _).symm.trans H; rw [hy131]; with_reducible exact H2_) | (have H2_ := (Option.bind_some _ _).symm.trans H; with_reducible exact H2_) | with_reducible exact H | (rw [hy131]; exact H) | exact H
                              have Ny131 := Aside0.mk hy131
                              clear hy131
                              have H' := Aside0.mk H
                              clear H
                              go_wp2_with (first | ((with_reducible refine gate_builtin (b := .append) (xs := #[.tmp 32, .tmp 36]) rfl ?_); (try (refine gate_guard (by rfl) ?_; dsimp only)); at_builtin; refine Kd.R_append Kd.bool (w0 := w) w.heap.size rfl (.tmp 32) (.tmp 36) 22 4 (.bool false) 1 rfl Try.underlying22 info4 rfl (by decide) (by omega) u4 x4_4 ((Int.tmod x10_1 2) == 1) [.bool ((Int.tmod x10_1 2) == 1)] (fun _ => True) (fun _ => False) rfl rfl ?aP (fun _ hk => hk.elim) ?aF ?aO ?aB ?aS ?aL ?_; (case aP => exact rfl); (case aB => exact (by repeat (first | (with_reducible first | exact HB.out | apply below_alloc | apply pw_below_drewN | apply below_drew1) | exact HB.out))); (case aF => exact (fun _ _ => trivial)); (case aO => exact (by (with_reducible repeat (first | apply Kd.R_alloc | apply Kd.R_drewN | apply Kd.R_drew)); exact HO_4.out)); (case aS => exact (below_size (by repeat (first | (with_reducible first | exact HB.out | apply below_alloc | apply pw_below_drewN | apply below_drew1) | exact HB.out)))); (case aL => have := LMc13.out; omega); intro v132 w14 ho hb hg hat; rw [← Ny131.out] at ho; have n0_ := Aside0.mk (hb); have n1_ := Aside0.mk (ho); clear HB; clear HO_4; have HB := n0_; have HO133 := n1_; clear n0_ n1_; clear ho hb hg hat))
                              go_roundg k4
                              case measure => have := HK1.out; have := HJ4.out; have := HJ6.out; have := HK4.out; omega
                              case rel => exact ⟨(y131), (wrap64 (x30_4 + 1)), (by first | rfl | (simp; done) | (simp [*]; done)), H', ⟨by have := HK1.out; have := HJ4.out; have := HJ6.out; have := HK4.out; omega⟩, ⟨by (with_reducible repeat (first | apply Kd.R_alloc | apply Kd.R_drewN | apply Kd.R_drew)); exact HO133.out⟩, ⟨by repeat (first | (with_reducible first | exact HB.out | apply below_alloc | apply pw_below_drewN | apply below_drew1) | exact HB.out)⟩⟩
                            · rw [if_neg c13] at H
                              exact absurd H (by simp)
                          · rw [if_neg c12] at H
                            have c12b0 : decide (x30_4 < (rd l0 x10_1)) = false := decide_eq_false c12
                            clear c12
                            have H' := Aside0.mk H
                            clear H
                            go_wp2
                            go_roundg k4
                            case measure => have := HK1.out; have := HJ4.out; have := HJ6.out; have := HK4.out; omega
                            case rel => exact ⟨(x4_4), (wrap64 (x10_1 + 1)), (by first | rfl | (simp; done) | (simp [*]; done)), H', ⟨by have := HK1.out; have := HJ4.out; have := HJ6.out; have := HK4.out; omega⟩, ⟨by (with_reducible repeat (first | apply Kd.R_alloc | apply Kd.R_drewN | apply Kd.R_drew)); exact HO_4.out⟩, ⟨by repeat (first | (with_reducible first | exact HB.out | apply below_alloc | apply pw_below_drewN | apply below_drew1) | exact HB.out)⟩⟩
                    · replace c10 := Bool.eq_false_iff.mpr c10
                      subst c10
                      have H1 : (some (([] : List Bool), false)) = some (r1, r2) := by rw [if_neg (show ¬ (false = true) by decide)] at H; exact H
                      clear H
                      have H := H1
                      clear H1
                      simp only [Option.some.injEq, Prod.mk.injEq] at H
                      obtain ⟨rfl, rfl⟩ := H
                      obtain ⟨Ao15, co15, eo15⟩ := Kd.R_slice HO_4.out
                      subst eo15
                      go_wp2_with (first | ((with_reducible refine gate_callee (f := 56) rfl ?_); refine goesL_ (some 27) rfl rfl Try.func56 (by kernel_rfl) rfl #[.int .i64 (rd l0 x10_1), .int .i64 x7_6, .int .i64 (wrap64 (200 - (x4_1.length : Int)))] rfl (by (try simp only [List.map_toArray, List.map_cons, List.map_nil]); first | done | rfl | (simp only [List.length_drop, List.length_take]; rfl)) ?_; (with_reducible refine (impl_in.calls (rd l0 x10_1) x7_6 (wrap64 (200 - (x4_1.length : Int))) false _ A9.out).mono ?_); rintro e w' ⟨rfl, ⟨nd, rfl⟩⟩; refine ⟨_, rfl, ?_⟩))
                      go_ret2
                      exact ⟨_, by first | rfl | (simp [errW_none, errW_some] <;> rfl) | (simp [*, errW_none, errW_some] <;> rfl), Kd.W_of_R (by first | exact Kd.R_nil _ _ _ _ _ | exact Kd.N_nil _ _ _ _ _ | exact Kd.V_nil _ _ _ _ _ | exact Kd.W_nil _ _ _ _ _ | exact Kd.S_nil _ _ _ _ _), by repeat (first | (with_reducible first | exact HB.out | apply below_alloc | apply pw_below_drewN | apply below_drew1) | exact HB.out)⟩
          · rw [if_neg c4] at H
            exact absurd H (by simp)
        · rw [if_neg c3] at H
          exact absurd H (by simp)
      · rw [if_neg c2] at H
        have c2b0 : decide (x10_1 < (l0.length : Int)) = false := decide_eq_false c2
        clear c2
        replace H := Option.bind_eq_some_iff.mp H
        obtain ⟨t126, A160, H⟩ := H
        replace H : (some (t126, true)) = some (r1, r2) := H
        have A16 := Aside0.mk A160
        clear A160
        simp only [Option.some.injEq, Prod.mk.injEq] at H
        obtain ⟨rfl, rfl⟩ := H
        obtain ⟨Ao17, co17, eo17⟩ := Kd.R_slice HO_4.out
        subst eo17
        go_wp2_with (first | ((with_reducible refine gate_callee (f := 57) rfl ?_); refine goesL_ (some 41) rfl rfl Try.func57 (by kernel_rfl) rfl #[.slice Ao17 x4_1.length co17] rfl (by (try simp only [List.map_toArray, List.map_cons, List.map_nil]); first | done | rfl | (simp only [List.length_drop, List.length_take]; rfl)) ?_; (with_reducible refine (impl_clone_bool.calls _ _ x4_1 t126 _ ?side1 ?side2 A16.out).mono ?_); (case side1 => repeat (first | exact (Kd.R_reads' HO_4.out).2.2 | (with_reducible refine Kd.C_alloc ?_ _) | (with_reducible refine Kd.C_drewN ?_ _) | (with_reducible refine Kd.C_drew ?_))); (case side2 => exact (Kd.R_reads' HO_4.out).2.1); rintro e w18 ⟨v127, rfl, ho0, hb⟩; refine ⟨_, rfl, ?_⟩; have n0_ := Aside0.mk (Kd.R_elder' (by (with_reducible repeat (first | apply Kd.R_alloc | apply Kd.R_drewN | apply Kd.R_drew)); exact HO_4.out) (Kd.W_base ho0) hb); have n1_ := Aside0.mk (Kd.W_lower (Kd.W_new' ho0 (Kd.R_lt (by (with_reducible repeat (first | apply Kd.R_alloc | apply Kd.R_drewN | apply Kd.R_drew)); exact HO_4.out))) (below_size (by repeat (first | (with_reducible first | exact HB.out | apply below_alloc | apply pw_below_drewN | apply below_drew1) | exact HB.out)))); have n2_ := Aside0.mk (below_step (by repeat (first | (with_reducible first | exact HB.out | apply below_alloc | apply pw_below_drewN | apply below_drew1) | exact HB.out)) hb); clear HO_4; clear HB; have HO_4 := n0_; have HO128 := n1_; have HB := n2_; clear n0_ n1_ n2_; (try clear hb); (try clear hb2); (try clear hk); (try clear hi); (try clear ho0)))
        go_ret2
        exact ⟨_, by first | rfl | (simp [errW_none, errW_some] <;> rfl) | (simp [*, errW_none, errW_some] <;> rfl), by (with_reducible repeat (first | apply Kd.W_alloc | apply Kd.W_drewN | apply Kd.W_drew)); exact Kd.W_mono HO128.out (fun _ hk => trivial), by repeat (first | (with_reducible first | exact HB.out | apply below_alloc | apply pw_below_drewN | apply below_drew1) | exact HB.out)⟩

end Go.Proofs.Ytdbbdikkboppnaa.QFnExactTraceFrom
