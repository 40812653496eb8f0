-- Written by wip/pr2.py: a program of this session's own, which runs the kit's print over contracts of its own.
import Derived.Test.YthbbhdadioiefaaQFnExactAlarmsValidx0
namespace Go.Proofs.Ythbbhdadioiefaa.QFnExactAlarmsValid
open Go.RowKit Go.Proofs.YthbbhdadioiefaaW.PrintWords Go.Proofs.YthbbhdadioiefaaW.PrintLast Go.Proofs.YthbbhdadioiefaaW.PrintMore
attribute [local go_sem] max2_int min2_int max_two min_two max_three min_three max_four min_four   -- for this text's walks alone
set_option linter.unusedVariables false
set_option linter.unusedSimpArgs false

/-! ### laws_szAlarmS: function 32 -/
def laws_szAlarmS.f (l0 : List (S104)) (a1 : Int) : Option (Int) := if (wrap64 (a1 - (l0.length : Int))) < 0 then (some (-1)) else (some (wrap64 (a1 - (l0.length : Int))))
set_option maxHeartbeats 8000000 in
set_option maxRecDepth 100000 in
theorem laws_szAlarmS.calls (A0 : Option Addr) (c0 : Nat) (l0 : List (S104)) (a1 : Int) (r : Int) (w : World) (hr0 : Kd.C k104 w A0 l0.length l0) (hc0 : l0.length ≤ c0) (h : laws_szAlarmS.f l0 a1 = some r) :
    Calls Try.prog 32 #[.slice A0 l0.length c0, .int .i64 a1] w fun e w' => e = .returned (.int .i64 r) ∧ Drawn0 w w' := by
  have HR0 := Aside0.mk hr0
  have HC0 := Aside0.mk hc0
  clear hr0 hc0
  have H : (if (wrap64 (a1 - (l0.length : Int))) < 0 then (some (-1)) else (some (wrap64 (a1 - (l0.length : Int))))) = some r := h
  clear h
  by_cases c3 : (wrap64 (a1 - (l0.length : Int))) < 0
  · rw [if_pos c3] at H
    have c3b0 : decide ((wrap64 (a1 - (l0.length : Int))) < 0) = true := decide_eq_true c3
    clear c3
    obtain rfl := Option.some.inj H
    go_enter Try.func32, Try.ntmps32
    go_wp2
    go_ret
    exact ⟨by first | rfl | (simp; done) | (simp [*]; done), by repeat (first | exact Drawn0.refl _ | apply Drawn0.step)⟩
  · rw [if_neg c3] at H
    have c3b0 : decide ((wrap64 (a1 - (l0.length : Int))) < 0) = false := decide_eq_false c3
    clear c3
    obtain rfl := Option.some.inj H
    go_enter Try.func32, Try.ntmps32
    go_wp2
    go_ret
    exact ⟨by first | rfl | (simp; done) | (simp [*]; done), by repeat (first | exact Drawn0.refl _ | apply Drawn0.step)⟩

/-! ### spec_l1In: function 71 -/
def spec_l1In.f (a0 : Int) (a1 : Int) (a2 : Int) : Option (Bool) := if a0 ≥ a1 then (some (decide (a0 ≤ a2))) else (some false)
set_option maxHeartbeats 8000000 in
set_option maxRecDepth 100000 in
theorem spec_l1In.calls (a0 : Int) (a1 : Int) (a2 : Int) (r : Bool) (w : World) (h : spec_l1In.f a0 a1 a2 = some r) :
    Calls Try.prog 71 #[.int .i64 a0, .int .i64 a1, .int .i64 a2] w fun e w' => e = .returned (.bool r) ∧ Drawn0 w w' := by
  have H : (if a0 ≥ a1 then (some (decide (a0 ≤ a2))) else (some false)) = some r := h
  clear h
  by_cases c4 : a0 ≥ a1
  · rw [if_pos c4] at H
    have c4b0 : decide (a1 ≤ a0) = true := decide_eq_true c4
    clear c4
    obtain rfl := Option.some.inj H
    go_enter Try.func71, Try.ntmps71
    go_wp2
    go_ret
    exact ⟨by first | rfl | (simp; done) | (simp [*]; done), by repeat (first | exact Drawn0.refl _ | apply Drawn0.step)⟩
  · rw [if_neg c4] at H
    have c4b0 : decide (a1 ≤ a0) = false := decide_eq_false c4
    clear c4
    obtain rfl := Option.some.inj H
    go_enter Try.func71, Try.ntmps71
    go_wp2
    go_ret
    exact ⟨by first | rfl | (simp; done) | (simp [*]; done), by repeat (first | exact Drawn0.refl _ | apply Drawn0.step)⟩

/-! ### spec_AlarmsValid: function 33 -/
def spec_AlarmsValid.l0 : Nat → List (S102) → Int → Option (Bool)
  | 0, _, _ => none
  | k + 1, x0, x3 => if x3 < (x0.length : Int) then (if 0 ≤ x3 then ((spec_l1In.f ((rd_T102 x0 x3).f0) 0 99).bind fun t102 => (if t102 = true then ((spec_l1In.f ((rd_T102 x0 x3).f1) 0 3).bind fun t104 => (if t104 = true then (if ((rd_T102 x0 x3).f2) < 0 then (some false) else (spec_AlarmsValid.l0 k x0 (wrap64 (x3 + 1)))) else (some false))) else (some false))) else (none)) else (some (decide ((x0.length : Int) ≤ 20)))
def spec_AlarmsValid.f (k : Nat) (l0 : List (S102)) : Option (Bool) := spec_AlarmsValid.l0 k l0 0
theorem spec_AlarmsValid.mono_l : ∀ k, (∀ y0 y1, LeO (spec_AlarmsValid.l0 k y0 y1) (spec_AlarmsValid.l0 (k + 1) y0 y1))
  | 0 => fun _ _ r h => by simp [spec_AlarmsValid.l0] at h
  | k + 1 => by
    have ih0 := spec_AlarmsValid.mono_l k
    · intro y0 y1
      unfold spec_AlarmsValid.l0
      repeat' first
      | (with_reducible exact ih0 _ _)
      | (with_reducible exact LeO.refl _)
      | (with_reducible exact LeO.none _)
      | (with_reducible refine LeO.ite ?_ ?_)
      | (with_reducible refine LeO.bind ?_ (fun _ => ?_))
      | exact ih0 _ _
      | exact LeO.none _
      | refine LeO.ite ?_ ?_
      | refine LeO.bind ?_ (fun _ => ?_)
theorem spec_AlarmsValid.mono : ∀ a0 k, LeO (spec_AlarmsValid.f k a0) (spec_AlarmsValid.f (k + 1) a0) := by
  intro a0 k
  have ih0 := spec_AlarmsValid.mono_l k
  unfold spec_AlarmsValid.f
  repeat' first
      | (with_reducible exact ih0 _ _)
      | (with_reducible exact LeO.refl _)
      | (with_reducible exact LeO.none _)
      | (with_reducible refine LeO.ite ?_ ?_)
      | (with_reducible refine LeO.bind ?_ (fun _ => ?_))
      | exact ih0 _ _
      | exact LeO.none _
      | refine LeO.ite ?_ ?_
      | refine LeO.bind ?_ (fun _ => ?_)
set_option maxHeartbeats 8000000 in
set_option maxRecDepth 100000 in
theorem spec_AlarmsValid.calls (k : Nat) (A0 : Option Addr) (c0 : Nat) (l0 : List (S102)) (r : Bool) (w : World) (hr0 : Kd.C k102 w A0 l0.length l0) (hc0 : l0.length ≤ c0) (h : spec_AlarmsValid.f k l0 = some r) :
    Calls Try.prog 33 #[.slice A0 l0.length c0] w fun e w' => e = .returned (.bool r) ∧ Drawn0 w w' := by
  have HR0 := Aside0.mk hr0
  have HC0 := Aside0.mk hc0
  clear hr0 hc0
  have H : (spec_AlarmsValid.l0 k l0 0) = some r := h
  clear h
  have H' := Aside0.mk H
  clear H
  go_enter Try.func33, Try.ntmps33
  go_wp2
  go_loopg [3] k (fun kq v3 w' => ∃ (x3_1 : Int), v3 = .int .i64 x3_1 ∧ Aside0 (spec_AlarmsValid.l0 kq l0 x3_1 = some r) ∧ Aside0 (kq ≤ k) ∧ Drawn0 w w')
  case atStart => exact ⟨(0), (by first | rfl | (simp; done) | (simp [*]; done)), H', ⟨Nat.le_refl _⟩, by repeat (first | exact Drawn0.refl _ | apply Drawn0.step)⟩
  case round =>
    clear H'
    obtain ⟨x3_1, rfl, HA, HK1, ⟨m1, rfl⟩⟩ := hrel
    cases gk with
    | zero => exact absurd HA.out (by simp [spec_AlarmsValid.l0])
    | succ k1 =>
      have H := HA.out
      clear HA
      simp only [spec_AlarmsValid.l0] at H
      by_cases c2 : x3_1 < (l0.length : Int)
      · rw [if_pos c2] at H
        have c2b0 : decide (x3_1 < (l0.length : Int)) = true := decide_eq_true c2
        clear c2
        by_cases c3 : 0 ≤ x3_1
        · rw [if_pos c3] at H
          have c3b0 : decide (0 ≤ x3_1) = true := decide_eq_true c3
          clear c3
          replace H := Option.bind_eq_some_iff.mp H
          obtain ⟨t102, A40, H⟩ := H
          replace H : (if t102 = true then ((spec_l1In.f ((rd_T102 l0 x3_1).f1) 0 3).bind fun t104 => (if t104 = true then (if ((rd_T102 l0 x3_1).f2) < 0 then (some false) else (spec_AlarmsValid.l0 k1 l0 (wrap64 (x3_1 + 1)))) else (some false))) else (some false)) = some r := H
          have A4 := Aside0.mk A40
          clear A40
          by_cases c5 : t102 = true
          · subst c5
            have H1 : ((spec_l1In.f ((rd_T102 l0 x3_1).f1) 0 3).bind fun t104 => (if t104 = true then (if ((rd_T102 l0 x3_1).f2) < 0 then (some false) else (spec_AlarmsValid.l0 k1 l0 (wrap64 (x3_1 + 1)))) else (some false))) = some r := by rw [if_pos rfl] at H; exact H
            clear H
            have H := H1
            clear H1
            replace H := Option.bind_eq_some_iff.mp H
            obtain ⟨t104, A60, H⟩ := H
            replace H : (if t104 = true then (if ((rd_T102 l0 x3_1).f2) < 0 then (some false) else (spec_AlarmsValid.l0 k1 l0 (wrap64 (x3_1 + 1)))) else (some false)) = some r := H
            have A6 := Aside0.mk A60
            clear A60
            by_cases c7 : t104 = true
            · subst c7
              have H1 : (if ((rd_T102 l0 x3_1).f2) < 0 then (some false) else (spec_AlarmsValid.l0 k1 l0 (wrap64 (x3_1 + 1)))) = some r := by rw [if_pos rfl] at H; exact H
              clear H
              have H := H1
              clear H1
              by_cases c8 : ((rd_T102 l0 x3_1).f2) < 0
              · rw [if_pos c8] at H
                have c8b0 : decide (((rd_T102 l0 x3_1).f2) < 0) = true := decide_eq_true c8
                clear c8
                obtain rfl := Option.some.inj H
                have p101 : 0 ≤ (x3_1 : Int) := of_decide_eq_true (by first | (with_reducible assumption) | assumption)
                have q101 : x3_1 < (l0.length : Int) := of_decide_eq_true (by first | (with_reducible assumption) | assumption)
                obtain ⟨ad101, e101, hx101_0, hx101_1, hx101_2⟩ := at_T102 HR0.out x3_1 p101 q101
                cases e101
                replace p101 := eq_true p101
                replace q101 := eq_true q101
                go_wp2_with (first | ((with_reducible refine gate_callee (f := 71) rfl ?_); refine goesL_ (some 15) rfl rfl Try.func71 (by kernel_rfl) rfl #[.int .i64 ((rd_T102 l0 x3_1).f0), .int .i64 0, .int .i64 99] rfl (by (try simp only [List.map_toArray, List.map_cons, List.map_nil]); first | done | rfl | (simp only [List.length_drop, List.length_take]; rfl)) ?_; (with_reducible refine (spec_l1In.calls ((rd_T102 l0 x3_1).f0) 0 99 true _ A4.out).mono ?_); rintro e w' ⟨rfl, ⟨nd, rfl⟩⟩; refine ⟨_, rfl, ?_⟩; have p103 : 0 ≤ (x3_1 : Int) := of_decide_eq_true (by first | (with_reducible assumption) | assumption); have q103 : x3_1 < (l0.length : Int) := of_decide_eq_true (by first | (with_reducible assumption) | assumption); obtain ⟨ad103, e103, hx103_0, hx103_1, hx103_2⟩ := at_T102 HR0.out x3_1 p103 q103; obtain rfl : ad101 = ad103 := (by injection e103); replace p103 := eq_true p103; replace q103 := eq_true q103) | (go_at_call 71; (with_reducible refine (spec_l1In.calls ((rd_T102 l0 x3_1).f1) 0 3 true _ A6.out).mono ?_); rintro e w' ⟨rfl, ⟨nd, rfl⟩⟩; have p105 : 0 ≤ (x3_1 : Int) := of_decide_eq_true (by first | (with_reducible assumption) | assumption); have q105 : x3_1 < (l0.length : Int) := of_decide_eq_true (by first | (with_reducible assumption) | assumption); obtain ⟨ad105, e105, hx105_0, hx105_1, hx105_2⟩ := at_T102 HR0.out x3_1 p105 q105; obtain rfl : ad101 = ad105 := (by injection e105); replace p105 := eq_true p105; replace q105 := eq_true q105))
                go_ret
                exact ⟨by first | rfl | (simp; done) | (simp [*]; done), by repeat (first | exact Drawn0.refl _ | apply Drawn0.step)⟩
              · rw [if_neg c8] at H
                have c8b0 : decide (((rd_T102 l0 x3_1).f2) < 0) = false := decide_eq_false c8
                clear c8
                have H' := Aside0.mk H
                clear H
                have p101 : 0 ≤ (x3_1 : Int) := of_decide_eq_true (by first | (with_reducible assumption) | assumption)
                have q101 : x3_1 < (l0.length : Int) := of_decide_eq_true (by first | (with_reducible assumption) | assumption)
                obtain ⟨ad101, e101, hx101_0, hx101_1, hx101_2⟩ := at_T102 HR0.out x3_1 p101 q101
                cases e101
                replace p101 := eq_true p101
                replace q101 := eq_true q101
                go_wp2_with (first | ((with_reducible refine gate_callee (f := 71) rfl ?_); refine goesL_ (some 15) rfl rfl Try.func71 (by kernel_rfl) rfl #[.int .i64 ((rd_T102 l0 x3_1).f0), .int .i64 0, .int .i64 99] rfl (by (try simp only [List.map_toArray, List.map_cons, List.map_nil]); first | done | rfl | (simp only [List.length_drop, List.length_take]; rfl)) ?_; (with_reducible refine (spec_l1In.calls ((rd_T102 l0 x3_1).f0) 0 99 true _ A4.out).mono ?_); rintro e w' ⟨rfl, ⟨nd, rfl⟩⟩; refine ⟨_, rfl, ?_⟩; have p103 : 0 ≤ (x3_1 : Int) := of_decide_eq_true (by first | (with_reducible assumption) | assumption); have q103 : x3_1 < (l0.length : Int) := of_decide_eq_true (by first | (with_reducible assumption) | assumption); obtain ⟨ad103, e103, hx103_0, hx103_1, hx103_2⟩ := at_T102 HR0.out x3_1 p103 q103; obtain rfl : ad101 = ad103 := (by injection e103); replace p103 := eq_true p103; replace q103 := eq_true q103) | (go_at_call 71; (with_reducible refine (spec_l1In.calls ((rd_T102 l0 x3_1).f1) 0 3 true _ A6.out).mono ?_); rintro e w' ⟨rfl, ⟨nd, rfl⟩⟩; have p105 : 0 ≤ (x3_1 : Int) := of_decide_eq_true (by first | (with_reducible assumption) | assumption); have q105 : x3_1 < (l0.length : Int) := of_decide_eq_true (by first | (with_reducible assumption) | assumption); obtain ⟨ad105, e105, hx105_0, hx105_1, hx105_2⟩ := at_T102 HR0.out x3_1 p105 q105; obtain rfl : ad101 = ad105 := (by injection e105); replace p105 := eq_true p105; replace q105 := eq_true q105))
                go_roundg k1
                case measure => have := HK1.out; omega
                case rel => exact ⟨(wrap64 (x3_1 + 1)), (by first | rfl | (simp; done) | (simp [*]; done)), H', ⟨by have := HK1.out; omega⟩, by repeat (first | exact Drawn0.refl _ | apply Drawn0.step)⟩
            · replace c7 := Bool.eq_false_iff.mpr c7
              subst c7
              have H1 : (some false) = some r := by rw [if_neg (show ¬ (false = true) by decide)] at H; exact H
              clear H
              have H := H1
              clear H1
              obtain rfl := Option.some.inj H
              have p101 : 0 ≤ (x3_1 : Int) := of_decide_eq_true (by first | (with_reducible assumption) | assumption)
              have q101 : x3_1 < (l0.length : Int) := of_decide_eq_true (by first | (with_reducible assumption) | assumption)
              obtain ⟨ad101, e101, hx101_0, hx101_1, hx101_2⟩ := at_T102 HR0.out x3_1 p101 q101
              cases e101
              replace p101 := eq_true p101
              replace q101 := eq_true q101
              go_wp2_with (first | ((with_reducible refine gate_callee (f := 71) rfl ?_); refine goesL_ (some 15) rfl rfl Try.func71 (by kernel_rfl) rfl #[.int .i64 ((rd_T102 l0 x3_1).f0), .int .i64 0, .int .i64 99] rfl (by (try simp only [List.map_toArray, List.map_cons, List.map_nil]); first | done | rfl | (simp only [List.length_drop, List.length_take]; rfl)) ?_; (with_reducible refine (spec_l1In.calls ((rd_T102 l0 x3_1).f0) 0 99 true _ A4.out).mono ?_); rintro e w' ⟨rfl, ⟨nd, rfl⟩⟩; refine ⟨_, rfl, ?_⟩; have p103 : 0 ≤ (x3_1 : Int) := of_decide_eq_true (by first | (with_reducible assumption) | assumption); have q103 : x3_1 < (l0.length : Int) := of_decide_eq_true (by first | (with_reducible assumption) | assumption); obtain ⟨ad103, e103, hx103_0, hx103_1, hx103_2⟩ := at_T102 HR0.out x3_1 p103 q103; obtain rfl : ad101 = ad103 := (by injection e103); replace p103 := eq_true p103; replace q103 := eq_true q103) | (go_at_call 71; (with_reducible refine (spec_l1In.calls ((rd_T102 l0 x3_1).f1) 0 3 false _ A6.out).mono ?_); rintro e w' ⟨rfl, ⟨nd, rfl⟩⟩))
              go_ret
              exact ⟨by first | rfl | (simp; done) | (simp [*]; done), by repeat (first | exact Drawn0.refl _ | apply Drawn0.step)⟩
          · replace c5 := Bool.eq_false_iff.mpr c5
            subst c5
            have H1 : (some false) = some r := by rw [if_neg (show ¬ (false = true) by decide)] at H; exact H
            clear H
            have H := H1
            clear H1
            obtain rfl := Option.some.inj H
            have p101 : 0 ≤ (x3_1 : Int) := of_decide_eq_true (by first | (with_reducible assumption) | assumption)
            have q101 : x3_1 < (l0.length : Int) := of_decide_eq_true (by first | (with_reducible assumption) | assumption)
            obtain ⟨ad101, e101, hx101_0, hx101_1, hx101_2⟩ := at_T102 HR0.out x3_1 p101 q101
            cases e101
            replace p101 := eq_true p101
            replace q101 := eq_true q101
            go_wp2_with (first | ((with_reducible refine gate_callee (f := 71) rfl ?_); refine goesL_ (some 15) rfl rfl Try.func71 (by kernel_rfl) rfl #[.int .i64 ((rd_T102 l0 x3_1).f0), .int .i64 0, .int .i64 99] rfl (by (try simp only [List.map_toArray, List.map_cons, List.map_nil]); first | done | rfl | (simp only [List.length_drop, List.length_take]; rfl)) ?_; (with_reducible refine (spec_l1In.calls ((rd_T102 l0 x3_1).f0) 0 99 false _ A4.out).mono ?_); rintro e w' ⟨rfl, ⟨nd, rfl⟩⟩; refine ⟨_, rfl, ?_⟩))
            go_ret
            exact ⟨by first | rfl | (simp; done) | (simp [*]; done), by repeat (first | exact Drawn0.refl _ | apply Drawn0.step)⟩
        · rw [if_neg c3] at H
          exact absurd H (by simp)
      · rw [if_neg c2] at H
        have c2b0 : decide (x3_1 < (l0.length : Int)) = false := decide_eq_false c2
        clear c2
        obtain rfl := Option.some.inj H
        go_wp2
        go_ret
        exact ⟨by first | rfl | (simp; done) | (simp [*]; done), by repeat (first | exact Drawn0.refl _ | apply Drawn0.step)⟩

/-! ### laws_toAlarm: function 81 -/
def laws_toAlarm.f (a0_0 : Int) (a0_1 : Int) (a0_2 : Int) : Option (Int × Int × Int) := some (a0_0, a0_1, a0_2)
set_option maxHeartbeats 8000000 in
set_option maxRecDepth 100000 in
theorem laws_toAlarm.calls (a0_0 : Int) (a0_1 : Int) (a0_2 : Int) (r1 : Int) (r2 : Int) (r3 : Int) (w : World) (h : laws_toAlarm.f a0_0 a0_1 a0_2 = some (r1, r2, r3)) :
    Calls Try.prog 81 #[.agg #[.int .i64 a0_0, .int .i64 a0_1, .int .i64 a0_2]] w fun e w' => e = .returned (.agg #[.int .i64 r1, .int .i64 r2, .int .i64 r3]) ∧ Below w.heap.size w w' := by
  have hu104 := Try.underlying104
  have hu102 := Try.underlying102
  have HB := Aside0.mk (Below.refl w.heap.size w)
  have H : (some (a0_0, a0_1, a0_2)) = some (r1, r2, r3) := h
  clear h
  simp only [Option.some.injEq, Prod.mk.injEq] at H
  obtain ⟨rfl, rfl, rfl⟩ := H
  go_enter Try.func81, Try.ntmps81
  go_wp2_with (first | ((with_reducible refine gate_dst (N := 1) rfl ?_); refine box_event ?hg (N := 1) ?hd (cs := #[.int .i64 a0_0, .int .i64 a0_1, .int .i64 a0_2]) (t := 104) ?hr ?_; (case hd => rfl); (case hg => rfl); (case hr => first | (go_simp; done) | (go_simp; rfl)); intro gb106 hg w2 hbox hb; have n0_ := Aside0.mk (below_step (by repeat (first | (with_reducible first | exact HB.out | apply below_alloc | apply pw_below_drewN | apply below_drew1) | exact HB.out)) hb); have n1_ := Aside0.mk (hbox); have n2_ := Aside0.mk ((by rw [hg]; exact (below_size (by repeat (first | (with_reducible first | exact HB.out | apply below_alloc | apply pw_below_drewN | apply below_drew1) | exact HB.out))) : w.heap.size ≤ gb106)); have n3_ := Aside0.mk ((by rw [hg]; exact (below_size (by repeat (first | (with_reducible first | exact HB.out | apply below_alloc | apply pw_below_drewN | apply below_drew1) | exact HB.out))) : w.heap.size ≤ gb106)); clear HB; have HB := n0_; have BK106 := n1_; have GW106 := n2_; have GE106 := n3_; clear n0_ n1_ n2_ n3_; clear hb hbox hg) | ((with_reducible refine gate_dst (N := 2) rfl ?_); refine box_event ?hg (N := 2) ?hd (cs := #[.int .i64 0, .int .i64 0, .int .i64 0]) (t := 102) ?hr ?_; (case hd => rfl); (case hg => rfl); (case hr => first | (go_simp; done) | (go_simp; rfl)); intro gb107 hg w3 hbox hb; have n0_ := Aside0.mk (blk_below (g := gb106) (o := .cells #[.int .i64 a0_0, .int .i64 a0_1, .int .i64 a0_2] 104 (0, 0)) (by (with_reducible repeat (first | refine blk_drewN ?_ _ | refine blk_drew ?_ | refine blk_alloc ?_ _)); exact BK106.out) hb); have n1_ := Aside0.mk (below_step (by repeat (first | (with_reducible first | exact HB.out | apply below_alloc | apply pw_below_drewN | apply below_drew1 | refine below_set ?_ GE106.out) | exact HB.out)) hb); have n2_ := Aside0.mk (hbox); have n3_ := Aside0.mk ((by rw [hg]; exact (below_size (by repeat (first | (with_reducible first | exact HB.out | apply below_alloc | apply pw_below_drewN | apply below_drew1 | refine below_set ?_ GE106.out) | exact HB.out))) : w.heap.size ≤ gb107)); have n4_ := Aside0.mk ((by rw [hg]; exact (below_size (by repeat (first | (with_reducible first | exact HB.out | apply below_alloc | apply pw_below_drewN | apply below_drew1 | refine below_set ?_ GE106.out) | exact HB.out))) : w.heap.size ≤ gb107)); have n5_ := Aside0.mk ((by rw [hg]; exact Nat.ne_of_lt (blk_lt (g := gb106) (o := .cells #[.int .i64 a0_0, .int .i64 a0_1, .int .i64 a0_2] 104 (0, 0)) (by (with_reducible repeat (first | refine blk_drewN ?_ _ | refine blk_drew ?_ | refine blk_alloc ?_ _)); exact BK106.out)) : gb106 ≠ gb107)); have n6_ := Aside0.mk ((by rw [hg]; exact Nat.ne_of_gt (blk_lt (g := gb106) (o := .cells #[.int .i64 a0_0, .int .i64 a0_1, .int .i64 a0_2] 104 (0, 0)) (by (with_reducible repeat (first | refine blk_drewN ?_ _ | refine blk_drew ?_ | refine blk_alloc ?_ _)); exact BK106.out)) : gb107 ≠ gb106)); clear BK106; clear HB; have BK106 := n0_; have HB := n1_; have BK107 := n2_; have GW107 := n3_; have GE107 := n4_; have NB106_107 := n5_; have NB107_106 := n6_; clear n0_ n1_ n2_ n3_ n4_ n5_ n6_; clear hb hbox hg) | ((with_reducible refine gate_dst (N := 3) rfl ?_); refine box_event ?hg (N := 3) ?hd (cs := #[.int .i64 0, .int .i64 0, .int .i64 0]) (t := 102) ?hr ?_; (case hd => rfl); (case hg => rfl); (case hr => first | (go_simp; done) | (go_simp; rfl)); intro gb108 hg w4 hbox hb; have n0_ := Aside0.mk (blk_below (g := gb106) (o := .cells #[.int .i64 a0_0, .int .i64 a0_1, .int .i64 a0_2] 104 (0, 0)) (by (with_reducible repeat (first | refine blk_drewN ?_ _ | refine blk_drew ?_ | refine blk_alloc ?_ _)); exact BK106.out) hb); have n1_ := Aside0.mk (blk_below (g := gb107) (o := .cells #[.int .i64 0, .int .i64 0, .int .i64 0] 102 (0, 0)) (by (with_reducible repeat (first | refine blk_drewN ?_ _ | refine blk_drew ?_ | refine blk_alloc ?_ _)); exact BK107.out) hb); have n2_ := Aside0.mk (below_step (by repeat (first | (with_reducible first | exact HB.out | apply below_alloc | apply pw_below_drewN | apply below_drew1 | refine below_set ?_ GE106.out | refine below_set ?_ GE107.out) | exact HB.out)) hb); have n3_ := Aside0.mk (hbox); have n4_ := Aside0.mk ((by rw [hg]; exact (below_size (by repeat (first | (with_reducible first | exact HB.out | apply below_alloc | apply pw_below_drewN | apply below_drew1 | refine below_set ?_ GE106.out | refine below_set ?_ GE107.out) | exact HB.out))) : w.heap.size ≤ gb108)); have n5_ := Aside0.mk ((by rw [hg]; exact (below_size (by repeat (first | (with_reducible first | exact HB.out | apply below_alloc | apply pw_below_drewN | apply below_drew1 | refine below_set ?_ GE106.out | refine below_set ?_ GE107.out) | exact HB.out))) : w.heap.size ≤ gb108)); have n6_ := Aside0.mk ((by rw [hg]; exact Nat.ne_of_lt (blk_lt (g := gb106) (o := .cells #[.int .i64 a0_0, .int .i64 a0_1, .int .i64 a0_2] 104 (0, 0)) (by (with_reducible repeat (first | refine blk_drewN ?_ _ | refine blk_drew ?_ | refine blk_alloc ?_ _)); exact BK106.out)) : gb106 ≠ gb108)); have n7_ := Aside0.mk ((by rw [hg]; exact Nat.ne_of_gt (blk_lt (g := gb106) (o := .cells #[.int .i64 a0_0, .int .i64 a0_1, .int .i64 a0_2] 104 (0, 0)) (by (with_reducible repeat (first | refine blk_drewN ?_ _ | refine blk_drew ?_ | refine blk_alloc ?_ _)); exact BK106.out)) : gb108 ≠ gb106)); have n8_ := Aside0.mk ((by rw [hg]; exact Nat.ne_of_lt (blk_lt (g := gb107) (o := .cells #[.int .i64 0, .int .i64 0, .int .i64 0] 102 (0, 0)) (by (with_reducible repeat (first | refine blk_drewN ?_ _ | refine blk_drew ?_ | refine blk_alloc ?_ _)); exact BK107.out)) : gb107 ≠ gb108)); have n9_ := Aside0.mk ((by rw [hg]; exact Nat.ne_of_gt (blk_lt (g := gb107) (o := .cells #[.int .i64 0, .int .i64 0, .int .i64 0] 102 (0, 0)) (by (with_reducible repeat (first | refine blk_drewN ?_ _ | refine blk_drew ?_ | refine blk_alloc ?_ _)); exact BK107.out)) : gb108 ≠ gb107)); clear BK106; clear BK107; clear HB; have BK106 := n0_; have BK107 := n1_; have HB := n2_; have BK108 := n3_; have GW108 := n4_; have GE108 := n5_; have NB106_108 := n6_; have NB108_106 := n7_; have NB107_108 := n8_; have NB108_107 := n9_; clear n0_ n1_ n2_ n3_ n4_ n5_ n6_ n7_ n8_ n9_; clear hb hbox hg; have hnb5 := NB106_107.out; have hnc5 := NB107_106.out; have hnb6 := NB106_108.out; have hnc6 := NB108_106.out; have hcz7_0 : w4.cell? ⟨gb106, 0, none⟩ = some (.int .i64 a0_0) := (blk_cell BK106.out 0).trans rfl; have hcz7_1 : w4.cell? ⟨gb106, 1, none⟩ = some (.int .i64 a0_1) := (blk_cell BK106.out 1).trans rfl; have hcz7_2 : w4.cell? ⟨gb106, 2, none⟩ = some (.int .i64 a0_2) := (blk_cell BK106.out 2).trans rfl; have hfz7_0 := blk_frozen BK106.out 0; have hfz7_1 := blk_frozen BK106.out 1; have hfz7_2 := blk_frozen BK106.out 2; have hnb8 := NB108_107.out; have hnc8 := NB107_108.out; have hcz9_0 : w4.cell? ⟨gb108, 0, none⟩ = some (.int .i64 0) := (blk_cell BK108.out 0).trans rfl; have hcz9_1 : w4.cell? ⟨gb108, 1, none⟩ = some (.int .i64 0) := (blk_cell BK108.out 1).trans rfl; have hcz9_2 : w4.cell? ⟨gb108, 2, none⟩ = some (.int .i64 0) := (blk_cell BK108.out 2).trans rfl; have hfz9_0 := blk_frozen BK108.out 0; have hfz9_1 := blk_frozen BK108.out 1; have hfz9_2 := blk_frozen BK108.out 2; have hcz10_0 : w4.cell? ⟨gb107, 0, none⟩ = some (.int .i64 0) := (blk_cell BK107.out 0).trans rfl; have hcz10_1 : w4.cell? ⟨gb107, 1, none⟩ = some (.int .i64 0) := (blk_cell BK107.out 1).trans rfl; have hcz10_2 : w4.cell? ⟨gb107, 2, none⟩ = some (.int .i64 0) := (blk_cell BK107.out 2).trans rfl; have hfz10_0 := blk_frozen BK107.out 0; have hfz10_1 := blk_frozen BK107.out 1; have hfz10_2 := blk_frozen BK107.out 2))
  refine bodyPost_ret (results_cell_row rfl _ _ gb107 102 #[.int .i64 a0_0, .int .i64 a0_1, .int .i64 a0_2] (0, 0) _ rfl (by (with_reducible repeat (first | refine blk_drewN ?_ _ | refine blk_drew ?_ | refine blk_alloc ?_ _)); refine blk_put (cs := #[.int .i64 a0_0, .int .i64 a0_1, .int .i64 0]) ?_ 2 _ rfl; (with_reducible repeat (first | refine blk_drewN ?_ _ | refine blk_drew ?_ | refine blk_alloc ?_ _)); refine blk_put (cs := #[.int .i64 a0_0, .int .i64 0, .int .i64 0]) ?_ 1 _ rfl; (with_reducible repeat (first | refine blk_drewN ?_ _ | refine blk_drew ?_ | refine blk_alloc ?_ _)); refine blk_put (cs := #[.int .i64 0, .int .i64 0, .int .i64 0]) ?_ 0 _ rfl; (with_reducible repeat (first | refine blk_drewN ?_ _ | refine blk_drew ?_ | refine blk_alloc ?_ _)); refine blk_far ?_ NB107_108.out _; (with_reducible repeat (first | refine blk_drewN ?_ _ | refine blk_drew ?_ | refine blk_alloc ?_ _)); refine blk_far ?_ NB107_108.out _; (with_reducible repeat (first | refine blk_drewN ?_ _ | refine blk_drew ?_ | refine blk_alloc ?_ _)); refine blk_far ?_ NB107_108.out _; (with_reducible repeat (first | refine blk_drewN ?_ _ | refine blk_drew ?_ | refine blk_alloc ?_ _)); exact BK107.out) Try.underlying102 rfl (by kernel_rfl)) rfl ?_
  exact ⟨by first | rfl | (simp [errW_none, errW_some] <;> rfl) | (simp [*, errW_none, errW_some] <;> rfl), by repeat (first | (with_reducible first | exact HB.out | apply below_alloc | apply pw_below_drewN | apply below_drew1 | refine below_set ?_ GE106.out | refine below_set ?_ GE107.out | refine below_set ?_ GE108.out) | exact HB.out)⟩

/-! ### laws_toAlarmS: function 34 -/
def laws_toAlarmS.l0 : Nat → List (S104) → List (S102) → Int → Option ((List (S102)))
  | 0, _, _, _ => none
  | k + 1, x0, x3, x4 => if x4 < (x0.length : Int) then (if 0 ≤ x4 then ((laws_toAlarm.f ((rd_T104 x0 x4).f0) ((rd_T104 x0 x4).f1) ((rd_T104 x0 x4).f2)).bind fun bt113 => (if x4 < (x3.length : Int) then (laws_toAlarmS.l0 k x0 (x3.set (x4 : Int).toNat (⟨bt113.1, bt113.2.1, bt113.2.2⟩ : S102)) (wrap64 (x4 + 1))) else (none))) else (none)) else (some x3)
def laws_toAlarmS.f (k : Nat) (l0 : List (S104)) : Option ((List (S102))) := if 0 ≤ (l0.length : Int) then (if ((l0.length : Int) : Int).toNat ≤ 11728124029610 then (laws_toAlarmS.l0 k l0 (List.replicate ((l0.length : Int) : Int).toNat z102) 0) else (none)) else (none)
theorem laws_toAlarmS.mono_l : ∀ k, (∀ y0 y1 y2, LeO (laws_toAlarmS.l0 k y0 y1 y2) (laws_toAlarmS.l0 (k + 1) y0 y1 y2))
  | 0 => fun _ _ _ r h => by simp [laws_toAlarmS.l0] at h
  | k + 1 => by
    have ih0 := laws_toAlarmS.mono_l k
    · intro y0 y1 y2
      unfold laws_toAlarmS.l0
      repeat' first
      | (with_reducible exact ih0 _ _ _)
      | (with_reducible exact LeO.refl _)
      | (with_reducible exact LeO.none _)
      | (with_reducible refine LeO.ite ?_ ?_)
      | (with_reducible refine LeO.bind ?_ (fun _ => ?_))
      | exact ih0 _ _ _
      | exact LeO.none _
      | refine LeO.ite ?_ ?_
      | refine LeO.bind ?_ (fun _ => ?_)
theorem laws_toAlarmS.mono : ∀ a0 k, LeO (laws_toAlarmS.f k a0) (laws_toAlarmS.f (k + 1) a0) := by
  intro a0 k
  have ih0 := laws_toAlarmS.mono_l k
  unfold laws_toAlarmS.f
  repeat' first
      | (with_reducible exact ih0 _ _ _)
      | (with_reducible exact LeO.refl _)
      | (with_reducible exact LeO.none _)
      | (with_reducible refine LeO.ite ?_ ?_)
      | (with_reducible refine LeO.bind ?_ (fun _ => ?_))
      | exact ih0 _ _ _
      | exact LeO.none _
      | refine LeO.ite ?_ ?_
      | refine LeO.bind ?_ (fun _ => ?_)
set_option maxHeartbeats 8000000 in
set_option maxRecDepth 100000 in
theorem laws_toAlarmS.calls (k : Nat) (A0 : Option Addr) (c0 : Nat) (l0 : List (S104)) (r : List (S102)) (w : World) (hr0 : Kd.C k104 w A0 l0.length l0) (hc0 : l0.length ≤ c0) (h : laws_toAlarmS.f k l0 = some r) :
    Calls Try.prog 34 #[.slice A0 l0.length c0] w fun e w' => ∃ v0_ : Value, e = .returned (v0_) ∧ Kd.R k102 102 w' w.heap.size (fun _ => True) v0_ r ∧ Below w.heap.size w w' := by
  have hu104 := Try.underlying104
  have hu102 := Try.underlying102
  have HR0 := Aside0.mk hr0
  have HC0 := Aside0.mk hc0
  clear hr0 hc0
  have HB := Aside0.mk (Below.refl w.heap.size w)
  have H : (if 0 ≤ (l0.length : Int) then (if ((l0.length : Int) : Int).toNat ≤ 11728124029610 then (laws_toAlarmS.l0 k l0 (List.replicate ((l0.length : Int) : Int).toNat z102) 0) else (none)) else (none)) = some r := h
  clear h
  by_cases c2 : 0 ≤ (l0.length : Int)
  · rw [if_pos c2] at H
    have c2b0 := eq_true c2
    have c2b1 : decide (0 ≤ (l0.length : Int)) = true := decide_eq_true c2
    clear c2
    by_cases c3 : ((l0.length : Int) : Int).toNat ≤ 11728124029610
    · rw [if_pos c3] at H
      have c3b0 := eq_true c3
      have c3b1 : decide (((l0.length : Int) : Int).toNat ≤ 11728124029610) = true := decide_eq_true c3
      clear c3
      obtain ⟨y109, hy109⟩ : ∃ y_ : List (S102), y_ = (List.replicate ((l0.length : Int) : Int).toNat z102) := ⟨_, rfl⟩
      replace H : (laws_toAlarmS.l0 k l0 y109 0) = some r := by first | (rw [hy109]; with_reducible exact H) | (have H2_ := (Option.bind_some _ _).symm.trans H; rw [hy109]; with_reducible exact H2_) | (have H2_ := (Option.bind_some _ _).symm.trans H; with_reducible exact H2_) | with_reducible exact H | (rw [hy109]; exact H) | exact H
      have Ny109 := Aside0.mk hy109
      clear hy109
      have H' := Aside0.mk H
      clear H
      go_enter Try.func34, Try.ntmps34
      go_wp2_with (first | ((with_reducible refine gate_dst (N := 7) rfl ?_); refine Kd.R_make k102 _ 102 rfl (N := 7) rfl 46 _ _ rfl (l0.length : Int) rfl rfl Try.underlying46 (.agg #[(.int .i64 0), (.int .i64 0), (.int .i64 0)]) 24 info102 rfl (by decide) (by omega) z102 (ok := fun _ => True) (okp := fun _ => True) (k102_mkM _ _ _ z102 ) (fun _ hk => hk) trivial (of_decide_eq_true (by first | (with_reducible assumption) | assumption)) (Nat.le_trans (Nat.mul_le_mul_right _ (of_decide_eq_true (by first | (with_reducible assumption) | assumption) : (l0.length : Int).toNat ≤ 11728124029610)) (by omega)) (Below.refl _ _) (Nat.le_refl _) ?_; intro v110 w4 ho5 hb hg_ hnew_; clear hg_ hnew_; (first | rw [← Ny109.out] at ho5 | (simp only [Int.reduceToNat] at ho5; rw [← Ny109.out] at ho5)); have n0_ := Aside0.mk (Kd.R_lower ho5 (below_size (by repeat (first | (with_reducible first | exact HB.out | apply below_alloc | apply pw_below_drewN | apply below_drew1) | exact HB.out)))); have n1_ := Aside0.mk (below_step (by repeat (first | (with_reducible first | exact HB.out | apply below_alloc | apply pw_below_drewN | apply below_drew1) | exact HB.out)) hb); clear HB; have HO111 := n0_; have HB := n1_; clear n0_ n1_; clear hb ho5))
      go_loopg [4] k (fun kq v4 w' => ∃ (x3_1 : List (S102)) (x4_1 : Int), v4 = .int .i64 x4_1 ∧ Aside0 (laws_toAlarmS.l0 kq l0 x3_1 x4_1 = some r) ∧ Aside0 (kq ≤ k) ∧ Aside0 (Kd.R k102 102 w' w.heap.size (fun _ => True) v110 x3_1) ∧ Aside0 (Below w.heap.size w w'))
      case atStart => exact ⟨(y109), (0), (by first | rfl | (simp; done) | (simp [*]; done)), H', ⟨Nat.le_refl _⟩, ⟨by (with_reducible repeat (first | apply Kd.R_alloc | apply Kd.R_drewN | apply Kd.R_drew)); exact HO111.out⟩, ⟨by repeat (first | (with_reducible first | exact HB.out | apply below_alloc | apply pw_below_drewN | apply below_drew1) | exact HB.out)⟩⟩
      case round =>
        clear H'
        try clear c2
        try clear c2b0
        try clear c2b1
        try clear p2
        try clear c3
        try clear c3b0
        try clear c3b1
        obtain ⟨x3_1, x4_1, rfl, HA, HK1, HO_3, HB⟩ := hrel
        cases gk with
        | zero => exact absurd HA.out (by simp [laws_toAlarmS.l0])
        | succ k1 =>
          have H := HA.out
          clear HA
          simp only [laws_toAlarmS.l0] at H
          by_cases c6 : x4_1 < (l0.length : Int)
          · rw [if_pos c6] at H
            have c6b0 : decide (x4_1 < (l0.length : Int)) = true := decide_eq_true c6
            clear c6
            by_cases c7 : 0 ≤ x4_1
            · rw [if_pos c7] at H
              have c7b0 : decide (0 ≤ x4_1) = true := decide_eq_true c7
              clear c7
              replace H := Option.bind_eq_some_iff.mp H
              obtain ⟨⟨t113, t114, t115⟩, A80, H⟩ := H
              replace H : (if x4_1 < (x3_1.length : Int) then (laws_toAlarmS.l0 k1 l0 (x3_1.set (x4_1 : Int).toNat (⟨t113, t114, t115⟩ : S102)) (wrap64 (x4_1 + 1))) else (none)) = some r := H
              have A8 := Aside0.mk A80
              clear A80
              by_cases c9 : x4_1 < (x3_1.length : Int)
              · rw [if_pos c9] at H
                have c9b0 : decide (x4_1 < (x3_1.length : Int)) = true := decide_eq_true c9
                clear c9
                obtain ⟨y116, hy116⟩ : ∃ y_ : List (S102), y_ = (x3_1.set (x4_1 : Int).toNat (⟨t113, t114, t115⟩ : S102)) := ⟨_, rfl⟩
                replace H : (laws_toAlarmS.l0 k1 l0 y116 (wrap64 (x4_1 + 1))) = some r := by first | (rw [hy116]; with_reducible exact H) | (have H2_ := (Option.bind_some _ _).symm.trans H; rw [hy116]; with_reducible exact H2_) | (have H2_ := (Option.bind_some _ _).symm.trans H; with_reducible exact H2_) | with_reducible exact H | (rw [hy116]; exact H) | exact H
                have Ny116 := Aside0.mk hy116
                clear hy116
                have H' := Aside0.mk H
                clear H
                have p112 : 0 ≤ (x4_1 : Int) := of_decide_eq_true (by first | (with_reducible assumption) | assumption)
                have q112 : x4_1 < (l0.length : Int) := of_decide_eq_true (by first | (with_reducible assumption) | assumption)
                obtain ⟨ad112, e112, hx112_0, hx112_1, hx112_2⟩ := at_T104 HR0.out x4_1 p112 q112
                cases e112
                replace hx112_0 := (HB.out.cell (World.block_lt_of_cell? w _ hx112_0)).trans hx112_0
                replace hx112_1 := (HB.out.cell (World.block_lt_of_cell? w _ hx112_1)).trans hx112_1
                replace hx112_2 := (HB.out.cell (World.block_lt_of_cell? w _ hx112_2)).trans hx112_2
                replace p112 := eq_true p112
                replace q112 := eq_true q112
                go_wp2_with (first | ((with_reducible refine gate_callee (f := 81) rfl ?_); refine goesL_ (some 20) rfl rfl Try.func81 (by kernel_rfl) rfl #[.agg #[.int .i64 ((rd_T104 l0 x4_1).f0), .int .i64 ((rd_T104 l0 x4_1).f1), .int .i64 ((rd_T104 l0 x4_1).f2)]] rfl (by (try simp only [List.map_toArray, List.map_cons, List.map_nil]); first | done | rfl | (simp only [List.length_drop, List.length_take]; rfl)) ?_; (with_reducible refine (laws_toAlarm.calls ((rd_T104 l0 x4_1).f0) ((rd_T104 l0 x4_1).f1) ((rd_T104 l0 x4_1).f2) t113 t114 t115 _ A8.out).mono ?_); rintro e w11 ⟨rfl, hb⟩; refine ⟨_, rfl, ?_⟩; have n0_ := Aside0.mk (Kd.R_below (by (with_reducible repeat (first | apply Kd.R_alloc | apply Kd.R_drewN | apply Kd.R_drew)); exact HO_3.out) hb); have n1_ := Aside0.mk (below_step (by repeat (first | (with_reducible first | exact HB.out | apply below_alloc | apply pw_below_drewN | apply below_drew1) | exact HB.out)) hb); clear HO_3; clear HB; have HO_3 := n0_; have HB := n1_; clear n0_ n1_; (try clear hb); (try clear hb2); (try clear hk); (try clear hi); have p10 : 0 ≤ (x4_1 : Int) := of_decide_eq_true (by first | (with_reducible assumption) | assumption); have q10 : (x4_1 : Int) < ((x3_1.length : Int) : Int) := of_decide_eq_true (by first | (with_reducible assumption) | assumption); obtain ⟨go10, co10, eo10, gb10, gl10, cl10, HG10⟩ := Kd.R_form HO_3.out (by omega); (first | cases eo10 | (injection eo10 with ea_ en_ ec_; (first | subst ea_ | (injection ea_ with ea_; subst ea_)); subst ec_; clear en_)); have GB10 := Aside0.mk gb10; have GG10 := Aside0.mk HG10; clear gb10 gl10 HG10; obtain ⟨ce10, hcl10, hM10, hcc10, hfr10⟩ := Kd.R_elem HO_3.out z102 (x4_1 : Int) p10 q10; obtain rfl := k102_openM hM10; have hx10_0 : w11.cell? ⟨go10, (x4_1 : Int).toNat * 3, none⟩ = some (.int .i64 ((rd_T102 x3_1 x4_1).f0)) := hcc10 0 _ rfl; have hx10_1 : w11.cell? ⟨go10, (x4_1 : Int).toNat * 3 + 1, none⟩ = some (.int .i64 ((rd_T102 x3_1 x4_1).f1)) := hcc10 1 _ rfl; have hx10_2 : w11.cell? ⟨go10, (x4_1 : Int).toNat * 3 + 2, none⟩ = some (.int .i64 ((rd_T102 x3_1 x4_1).f2)) := hcc10 2 _ rfl; have hf10_0 : w11.frozen? ⟨go10, (x4_1 : Int).toNat * 3, none⟩ = false := hfr10 0; have hf10_1 : w11.frozen? ⟨go10, (x4_1 : Int).toNat * 3 + 1, none⟩ = false := hfr10 1; have hf10_2 : w11.frozen? ⟨go10, (x4_1 : Int).toNat * 3 + 2, none⟩ = false := hfr10 2; clear hcl10 hcc10 hfr10 hM10; replace p10 := eq_true p10; replace q10 := eq_true q10; have HX12 := Aside0.mk (show Kd.R k102 102 w11 w.heap.size (fun _ => True) (.slice (some ⟨go10, 0, none⟩) x3_1.length co10) x3_1 from (by (with_reducible repeat (first | apply Kd.R_alloc | apply Kd.R_drewN | apply Kd.R_drew)); exact HO_3.out)); obtain ⟨ce12, hcl12, hM12, hcc12, hfr12⟩ := Kd.R_elem HX12.out z102 (x4_1 : Int) (of_decide_eq_true (by first | (with_reducible assumption) | assumption)) (by have h_ : (x4_1 : Int) < ((x3_1.length : Int) : Int) := of_decide_eq_true (by first | (with_reducible assumption) | assumption); first | exact h_ | (have e_ := (Kd.R_reads' HO_3.out).1; omega) | simpa using h_); obtain rfl := k102_openM hM12; have HP12 := Kd.R_seg HX12.out (x4_1 : Int) (of_decide_eq_true (by first | (with_reducible assumption) | assumption)) (by have h_ : (x4_1 : Int) < ((x3_1.length : Int) : Int) := of_decide_eq_true (by first | (with_reducible assumption) | assumption); first | exact h_ | (have e_ := (Kd.R_reads' HO_3.out).1; omega) | simpa using h_) (seg := [.int .i64 t113, .int .i64 t114, .int .i64 t115]) (j := 0) hcl12 hcc12 (show 3 ≤ 3 from by decide) (x' := (⟨t113, t114, t115⟩ : S102)) (k102_mkM _ _ _ (⟨t113, t114, t115⟩ : S102) ) (fun _ hk => hk); have hx12_0 := hcc12 0 _ rfl; (try simp only [show (k102).sz = 3 from rfl, Nat.mul_one, Nat.add_zero] at hx12_0); have hf12_0 := hfr12 0; (try simp only [show (k102).sz = 3 from rfl, Nat.mul_one, Nat.add_zero] at hf12_0); have hx12_1 := hcc12 1 _ rfl; (try simp only [show (k102).sz = 3 from rfl, Nat.mul_one, Nat.add_zero] at hx12_1); have hf12_1 := hfr12 1; (try simp only [show (k102).sz = 3 from rfl, Nat.mul_one, Nat.add_zero] at hf12_1); have hx12_2 := hcc12 2 _ rfl; (try simp only [show (k102).sz = 3 from rfl, Nat.mul_one, Nat.add_zero] at hx12_2); have hf12_2 := hfr12 2; (try simp only [show (k102).sz = 3 from rfl, Nat.mul_one, Nat.add_zero] at hf12_2); clear hcl12 hcc12 hfr12 hM12) | ((with_reducible refine gate_store (t := 102) (p := 21) rfl ?_); refine store_event (t := 102) (p := 21) (v := ?vo_w13) (w1 := (((w11.setCell ⟨go10, (x4_1 : Int).toNat * 3, none⟩ (.int .i64 t113)).setCell ⟨go10, (x4_1 : Int).toNat * 3 + 1, none⟩ (.int .i64 t114)).setCell ⟨go10, (x4_1 : Int).toNat * 3 + 2, none⟩ (.int .i64 t115))) ?hg ?ho ?hn ?hr ?_; (case ho => rfl); (case hg => rfl); (case hn => rfl); (case hr => first | (go_simp; done) | (go_simp; rfl)); intro w13 hw; have hg : w11.grownBy w13 (some go10) := (by rw [hw]; exact HP12.2); have hp_ : Kd.R k102 102 w13 w.heap.size (fun _ => True) (.slice (some ⟨go10, 0, none⟩) x3_1.length co10) y116 := (by rw [hw, Ny116.out]; exact HP12.1); clear HP12; have n0_ := Aside0.mk (hp_); have n1_ := Aside0.mk ((by rw [hw]; exact below_set (below_set (below_set (HB.out) GB10.out) GB10.out) GB10.out : Below w.heap.size w w13)); clear HO_3; clear HB; have HO_3 := n0_; have HB := n1_; clear n0_ n1_; clear hg hw hp_))
                go_roundg k1
                case measure => have := HK1.out; omega
                case rel => exact ⟨(y116), (wrap64 (x4_1 + 1)), (by first | rfl | (simp; done) | (simp [*]; done)), H', ⟨by have := HK1.out; omega⟩, ⟨by (with_reducible repeat (first | apply Kd.R_alloc | apply Kd.R_drewN | apply Kd.R_drew)); exact HO_3.out⟩, ⟨by repeat (first | (with_reducible first | exact HB.out | apply below_alloc | apply pw_below_drewN | apply below_drew1) | exact HB.out)⟩⟩
              · rw [if_neg c9] at H
                exact absurd H (by simp)
            · rw [if_neg c7] at H
              exact absurd H (by simp)
          · rw [if_neg c6] at H
            have c6b0 : decide (x4_1 < (l0.length : Int)) = false := decide_eq_false c6
            clear c6
            obtain rfl := Option.some.inj H
            go_wp2
            go_ret
            exact ⟨_, by first | rfl | (simp [errW_none, errW_some] <;> rfl) | (simp [*, errW_none, errW_some] <;> rfl), by (with_reducible repeat (first | apply Kd.R_alloc | apply Kd.R_drewN | apply Kd.R_drew)); exact HO_3.out, by repeat (first | (with_reducible first | exact HB.out | apply below_alloc | apply pw_below_drewN | apply below_drew1) | exact HB.out)⟩
    · rw [if_neg c3] at H
      exact absurd H (by simp)
  · rw [if_neg c2] at H
    exact absurd H (by simp)

-- NOT PRINTED: function 100 (impl_Alarm_100)

-- NOT PRINTED: function 82 (impl_Alarm_82)

/-! ### impl_AlarmsValid: function 35 (own) -/
/-! #### small words -/
def IdxPost {α : Type} (p : α → Bool) (l : List α) (e : Ending) : Prop := ∃ r : Int, e = .returned (.int .i64 r) ∧ (0 ≤ r ↔ l.any p = true)
theorem x_drawn_drew {w : World} {q q' : Nat} : (w.drewN q).drewN q' = w.drewN (q + q') := World.drewN_drewN ..
theorem C_int_cell {k : IntKind} {w : World} {A : Option Addr} {n : Nat} {l : List Int} (h : Kd.C (Kd.int k) w A n l) (i : Nat) (hi : i < n) : ∃ ad, A = some ad ∧ w.cell? (ad.add i) = some (.int k (l.getD i 0)) := by
  obtain ⟨ad, c, e, hl, hK, hc⟩ := Kd.C_get h (0 : Int) (i : Int) (by omega) (by omega)
  have hK' : c = [.int k (l.getD (i : Int).toNat 0)] := hK
  subst hK'
  have := hc 0 _ rfl
  rw [show (i : Int).toNat * (Kd.int k).sz + 0 = i from by show (i : Int).toNat * 1 + 0 = i; omega] at this
  exact ⟨ad, e, this⟩
theorem x_none {α : Type} (p : α → Bool) (l : List α) (d : α) (h : ∀ j, j < l.length → p (l.getD j d) = false) : l.any p = false := by
  rw [List.any_eq_false]
  intro x hx
  obtain ⟨j, hj, rfl⟩ := List.getElem_of_mem hx
  have := h j hj
  rw [List.getD_eq_getElem?_getD, List.getElem?_eq_getElem hj] at this
  simpa using this
theorem x_some {α : Type} (p : α → Bool) (l : List α) (d : α) (j : Nat) (hj : j < l.length) (h : p (l.getD j d) = true) : l.any p = true := by
  rw [List.any_eq_true]
  refine ⟨_, List.getElem_mem hj, ?_⟩
  rw [List.getD_eq_getElem?_getD, List.getElem?_eq_getElem hj] at h
  simpa using h

theorem in_0 (x a b : Int) (w : World) : Calls Try.prog 74 #[.int .i64 x, .int .i64 a, .int .i64 b] w fun e w' => e = .returned (.bool (decide (a ≤ x ∧ x ≤ b))) ∧ Drawn0 w w' := by
  by_cases c : a ≤ x
  · have c1 : decide (a ≤ x) = true := decide_eq_true c
    go_enter Try.func74, Try.ntmps74
    go_wp2
    go_ret
    exact ⟨by simp [c], Drawn0.refl _⟩
  · have c1 : decide (a ≤ x) = false := decide_eq_false c
    go_enter Try.func74, Try.ntmps74
    go_wp2
    go_ret
    exact ⟨by simp [c], Drawn0.refl _⟩
theorem in_1 (x a b : Int) (r : Bool) (w : World) (h : decide (a ≤ x ∧ x ≤ b) = r) : Calls Try.prog 74 #[.int .i64 x, .int .i64 a, .int .i64 b] w fun e w' => e = .returned (.bool r) ∧ Drawn0 w w' := h ▸ in_0 x a b w

abbrev CSimpl_Alarm := S102
set_option maxRecDepth 100000 in
set_option maxHeartbeats 2000000 in
theorem IndexFunc_impl_Alarm (p : CSimpl_Alarm → Bool) (g : Nat) (lb : Array Value) (eg : ∀ args w, (callFunc g args).run Try.prog w = .ok (.enter g args) w) (A : Option Addr) (c : Nat) (l : List CSimpl_Alarm) (w : World)
    (hp : ∀ (x : CSimpl_Alarm) (W : World), Below w.heap.size w W → Calls Try.prog g (#[.agg #[.int .i64 x.f0, .int .i64 x.f1, .int .i64 x.f2]] ++ lb) W fun e w' => e = .returned (.bool (p x)) ∧ Below W.heap.size W w')
    (hr : Kd.C k102 w A l.length l) (hc : l.length ≤ c) :
    Calls Try.prog 100 #[.slice A l.length c, .func (.func g) #[] lb] w fun e w' => IdxPost p l e ∧ Below w.heap.size w w' := by
  have HR := Aside0.mk hr
  have hmax := hr.2.1
  clear hr
  go_enter Try.func100, Try.ntmps100
  go_wp2
  go_loopg [5, 8] l.length (fun gg _ s8 wr => ∃ kk : Nat, kk ≤ l.length ∧ l.length - kk ≤ gg ∧ s8 = .int .i64 kk ∧ Aside0 (Below w.heap.size w wr) ∧ Aside (∀ j, j < kk → p (l.getD j z102) = false))
  case atStart => exact ⟨0, Nat.zero_le _, by omega, rfl, ⟨Below.refl _ _⟩, fun j hj => absurd hj (Nat.not_lt_zero _)⟩
  case round =>
    obtain ⟨kk, hkk, hg, rfl, HB, HA⟩ := hrel
    by_cases hlt : kk < l.length
    · have hltz : (kk : Int) < (l.length : Int) := by omega
      obtain ⟨ad, e, hx0, hx1, hx2⟩ := at_T102 HR.out kk (by omega) hltz
      cases e
      replace hx0 := (HB.out.cell (World.block_lt_of_cell? w _ hx0)).trans hx0
      replace hx1 := (HB.out.cell (World.block_lt_of_cell? w _ hx1)).trans hx1
      replace hx2 := (HB.out.cell (World.block_lt_of_cell? w _ hx2)).trans hx2
      have HX := Aside0.mk (show rd_T102 l (kk : Int) = l.getD kk z102 by simp only [rd_T102, Int.toNat_natCast])
      generalize rd_T102 l (kk : Int) = y at hx0 hx1 hx2 HX
      simp only [Int.toNat_natCast] at hx0 hx1 hx2
      have hcall := hp y _ HB.out
      clear hp HR
      cases hq : p y with
      | true =>
        rw [hq] at hcall
        have Q := Aside0.mk hq
        clear hq
        go_wp2_with fail
        refine hcall.mono ?_
        rintro e w' ⟨rfl, hb⟩
        have HB1 := Aside0.mk (below_step HB.out hb)
        clear hb
        go_wp2
        go_ret
        exact ⟨⟨kk, rfl, by simp [x_some p l z102 kk hlt (by rw [← HX.out]; exact Q.out)]⟩, HB1.out⟩
      | false =>
        rw [hq] at hcall
        have Q := Aside0.mk hq
        clear hq
        go_wp2_with fail
        refine hcall.mono ?_
        rintro e w' ⟨rfl, hb⟩
        have HB1 := Aside0.mk (below_step HB.out hb)
        clear hb
        go_wp2
        go_roundg (l.length - (kk + 1))
        case measure => omega
        case rel =>
          refine ⟨kk + 1, by omega, by omega, by go_num, HB1, (show Aside _ from fun j hj => ?_)⟩
          by_cases e : j = kk
          · subst e
            rw [← HX.out]; exact Q.out
          · exact HA.out j (by omega)
    · have hltz : ¬ (kk : Int) < (l.length : Int) := by omega
      have : kk = l.length := by omega
      subst this
      go_wp2
      go_ret
      exact ⟨⟨-1, rfl, by simp [x_none p l z102 HA.out]⟩, HB.out⟩
theorem ContainsFunc_impl_Alarm (p : CSimpl_Alarm → Bool) (g : Nat) (lb : Array Value) (eg : ∀ args w, (callFunc g args).run Try.prog w = .ok (.enter g args) w) (A : Option Addr) (c : Nat) (l : List CSimpl_Alarm) (w : World)
    (hp : ∀ (x : CSimpl_Alarm) (W : World), Below w.heap.size w W → Calls Try.prog g (#[.agg #[.int .i64 x.f0, .int .i64 x.f1, .int .i64 x.f2]] ++ lb) W fun e w' => e = .returned (.bool (p x)) ∧ Below W.heap.size W w')
    (hr : Kd.C k102 w A l.length l) (hc : l.length ≤ c) :
    Calls Try.prog 82 #[.slice A l.length c, .func (.func g) #[] lb] w fun e w' => e = .returned (.bool (l.any p)) ∧ Below w.heap.size w w' := by
  have H := IndexFunc_impl_Alarm p g lb eg A c l w hp hr hc
  clear hp hr hc eg
  go_enter Try.func82, Try.ntmps82
  go_wp2_with fail
  refine H.mono ?_
  rintro e w' ⟨⟨r, rfl, hq⟩, hb⟩
  have Q := Aside0.mk hq
  have HB := Aside0.mk hb
  clear hq hb
  go_wp2
  go_ret
  refine ⟨?_, HB.out⟩
  have e : l.any p = decide (0 ≤ r) := by
    rw [Bool.eq_iff_iff, decide_eq_true_eq]
    exact Q.out.symm
  rw [e]
  rfl

def av_p (x : CSimpl_Alarm) : Bool := !decide (0 ≤ x.f0 ∧ x.f0 ≤ 99) || (!decide (0 ≤ x.f1 ∧ x.f1 ≤ 3) || decide (x.f2 < 0))
set_option maxHeartbeats 2000000 in
theorem av_lit (x : CSimpl_Alarm) (w : World) : Calls Try.prog 83 (#[.agg #[.int .i64 x.f0, .int .i64 x.f1, .int .i64 x.f2]] ++ #[]) w fun e w' => e = .returned (.bool (av_p x)) ∧ Below w.heap.size w w' := by
  have D := Aside0.mk (show av_p x = (!decide (0 ≤ x.f0 ∧ x.f0 ≤ 99) || (!decide (0 ≤ x.f1 ∧ x.f1 ≤ 3) || decide (x.f2 < 0))) from rfl)
  generalize av_p x = r at D
  obtain ⟨a, b, c⟩ := x
  replace D := Aside0.mk (show r = (!decide (0 ≤ a ∧ a ≤ 99) || (!decide (0 ≤ b ∧ b ≤ 3) || decide (c < 0))) from D.out)
  have C1 := fun w => in_0 a 0 99 w
  have C2 := fun w => in_0 b 0 3 w
  generalize decide (0 ≤ a ∧ a ≤ 99) = p1 at D C1
  generalize decide (0 ≤ b ∧ b ≤ 3) = p2 at D C2
  cases p1 with
  | false =>
    go_enter Try.func83, Try.ntmps83
    go_wp2_with fail
    refine (C1 _).mono ?_
    rintro e w' ⟨rfl, ⟨nd, rfl⟩⟩
    go_wp2
    go_ret
    exact ⟨by rw [D.out]; rfl, by repeat (first | exact Below.refl _ _ | apply below_alloc | apply pw_below_drewN)⟩
  | true =>
    cases p2 with
    | false =>
      go_enter Try.func83, Try.ntmps83
      go_wp2_with fail
      refine (C1 _).mono ?_
      rintro e w' ⟨rfl, ⟨nd, rfl⟩⟩
      go_wp2_with fail
      refine (C2 _).mono ?_
      rintro e w' ⟨rfl, ⟨nd2, rfl⟩⟩
      go_wp2
      go_ret
      exact ⟨by rw [D.out]; rfl, by repeat (first | exact Below.refl _ _ | apply below_alloc | apply pw_below_drewN)⟩
    | true =>
      go_enter Try.func83, Try.ntmps83
      go_wp2_with fail
      refine (C1 _).mono ?_
      rintro e w' ⟨rfl, ⟨nd, rfl⟩⟩
      go_wp2_with fail
      refine (C2 _).mono ?_
      rintro e w' ⟨rfl, ⟨nd2, rfl⟩⟩
      go_wp2
      go_ret
      exact ⟨by rw [D.out]; rfl, by repeat (first | exact Below.refl _ _ | apply below_alloc | apply pw_below_drewN)⟩
def impl_AlarmsValid.f (l0 : List CSimpl_Alarm) : Option Bool := some (decide ((l0.length : Int) ≤ 20) && !(l0.any av_p))
theorem impl_AlarmsValid.calls (A0 : Option Addr) (c0 : Nat) (l0 : List CSimpl_Alarm) (r : Bool) (w : World) (hr0 : Kd.C k102 w A0 l0.length l0) (hc0 : l0.length ≤ c0) (h : impl_AlarmsValid.f l0 = some r) :
    Calls Try.prog 35 #[.slice A0 l0.length c0] w fun e w' => e = .returned (.bool r) ∧ Below w.heap.size w w' := by
  have H := fun w1 hb => ContainsFunc_impl_Alarm av_p 83 #[] (Go.Proofs.enters_of Try.func83 (by kernel_rfl) rfl) A0 c0 l0 w1 (fun x W _ => av_lit x W) (Kd.C_below hr0 hb) hc0
  have D := Aside0.mk (Option.some.inj h)
  clear hr0 hc0 h
  generalize l0.any av_p = b at H D
  cases c : decide ((l0.length : Int) ≤ 20) with
  | false =>
    have D2 := Aside0.mk (show false = r by rw [← D.out, c]; rfl)
    clear D H
    go_enter Try.func35, Try.ntmps35
    go_wp2
    go_ret
    exact ⟨by rw [← D2.out]; rfl, Below.refl _ _⟩
  | true =>
    have D2 := Aside0.mk (show (!b) = r by rw [← D.out, c]; rfl)
    clear D
    go_enter Try.func35, Try.ntmps35
    go_wp2_with fail
    refine (H _ (Below.refl _ _)).mono ?_
    rintro e w' ⟨rfl, hb⟩
    have HB := Aside0.mk hb
    clear hb
    go_wp2
    go_ret
    exact ⟨by rw [← D2.out]; rfl, HB.out⟩


/-! ### laws_eqAlarm: function 84 -/
def laws_eqAlarm.f (a0_0 : Int) (a0_1 : Int) (a0_2 : Int) (a1_0 : Int) (a1_1 : Int) (a1_2 : Int) : Option (Bool) := if a0_0 = a1_0 then (if a0_1 = a1_1 then (if a0_2 = a1_2 then (some true) else (some false)) else (some false)) else (some false)
set_option maxHeartbeats 8000000 in
set_option maxRecDepth 100000 in
theorem laws_eqAlarm.calls (a0_0 : Int) (a0_1 : Int) (a0_2 : Int) (a1_0 : Int) (a1_1 : Int) (a1_2 : Int) (r : Bool) (w : World) (h : laws_eqAlarm.f a0_0 a0_1 a0_2 a1_0 a1_1 a1_2 = some r) :
    Calls Try.prog 84 #[.agg #[.int .i64 a0_0, .int .i64 a0_1, .int .i64 a0_2], .agg #[.int .i64 a1_0, .int .i64 a1_1, .int .i64 a1_2]] w fun e w' => e = .returned (.bool r) ∧ Below w.heap.size w w' := by
  have hu102 := Try.underlying102
  have HB := Aside0.mk (Below.refl w.heap.size w)
  have H : (if a0_0 = a1_0 then (if a0_1 = a1_1 then (if a0_2 = a1_2 then (some true) else (some false)) else (some false)) else (some false)) = some r := h
  clear h
  by_cases c3 : a0_0 = a1_0
  · rw [if_pos c3] at H
    have c3b0 : (a0_0 == a1_0) = true := beq_iff_eq.mpr c3
    have c3b1 : (a0_0 != a1_0) = false := bne_eq_false_iff_eq.mpr c3
    clear c3
    by_cases c4 : a0_1 = a1_1
    · rw [if_pos c4] at H
      have c4b0 : (a0_1 == a1_1) = true := beq_iff_eq.mpr c4
      have c4b1 : (a0_1 != a1_1) = false := bne_eq_false_iff_eq.mpr c4
      clear c4
      by_cases c5 : a0_2 = a1_2
      · rw [if_pos c5] at H
        have c5b0 : (a0_2 == a1_2) = true := beq_iff_eq.mpr c5
        have c5b1 : (a0_2 != a1_2) = false := bne_eq_false_iff_eq.mpr c5
        clear c5
        obtain rfl := Option.some.inj H
        go_enter Try.func84, Try.ntmps84
        go_wp2_with (first | ((with_reducible refine gate_dst (N := 2) rfl ?_); refine box_event ?hg (N := 2) ?hd (cs := #[.int .i64 a0_0, .int .i64 a0_1, .int .i64 a0_2]) (t := 102) ?hr ?_; (case hd => rfl); (case hg => rfl); (case hr => first | (go_simp; done) | (go_simp; rfl)); intro gb117 hg w6 hbox hb; have n0_ := Aside0.mk (below_step (by repeat (first | (with_reducible first | exact HB.out | apply below_alloc | apply pw_below_drewN | apply below_drew1) | exact HB.out)) hb); have n1_ := Aside0.mk (hbox); have n2_ := Aside0.mk ((by rw [hg]; exact (below_size (by repeat (first | (with_reducible first | exact HB.out | apply below_alloc | apply pw_below_drewN | apply below_drew1) | exact HB.out))) : w.heap.size ≤ gb117)); have n3_ := Aside0.mk ((by rw [hg]; exact (below_size (by repeat (first | (with_reducible first | exact HB.out | apply below_alloc | apply pw_below_drewN | apply below_drew1) | exact HB.out))) : w.heap.size ≤ gb117)); clear HB; have HB := n0_; have BK117 := n1_; have GW117 := n2_; have GE117 := n3_; clear n0_ n1_ n2_ n3_; clear hb hbox hg) | ((with_reducible refine gate_dst (N := 3) rfl ?_); refine box_event ?hg (N := 3) ?hd (cs := #[.int .i64 a1_0, .int .i64 a1_1, .int .i64 a1_2]) (t := 102) ?hr ?_; (case hd => rfl); (case hg => rfl); (case hr => first | (go_simp; done) | (go_simp; rfl)); intro gb118 hg w7 hbox hb; have n0_ := Aside0.mk (blk_below (g := gb117) (o := .cells #[.int .i64 a0_0, .int .i64 a0_1, .int .i64 a0_2] 102 (0, 0)) (by (with_reducible repeat (first | refine blk_drewN ?_ _ | refine blk_drew ?_ | refine blk_alloc ?_ _)); exact BK117.out) hb); have n1_ := Aside0.mk (below_step (by repeat (first | (with_reducible first | exact HB.out | apply below_alloc | apply pw_below_drewN | apply below_drew1 | refine below_set ?_ GE117.out) | exact HB.out)) hb); have n2_ := Aside0.mk (hbox); have n3_ := Aside0.mk ((by rw [hg]; exact (below_size (by repeat (first | (with_reducible first | exact HB.out | apply below_alloc | apply pw_below_drewN | apply below_drew1 | refine below_set ?_ GE117.out) | exact HB.out))) : w.heap.size ≤ gb118)); have n4_ := Aside0.mk ((by rw [hg]; exact (below_size (by repeat (first | (with_reducible first | exact HB.out | apply below_alloc | apply pw_below_drewN | apply below_drew1 | refine below_set ?_ GE117.out) | exact HB.out))) : w.heap.size ≤ gb118)); have n5_ := Aside0.mk ((by rw [hg]; exact Nat.ne_of_lt (blk_lt (g := gb117) (o := .cells #[.int .i64 a0_0, .int .i64 a0_1, .int .i64 a0_2] 102 (0, 0)) (by (with_reducible repeat (first | refine blk_drewN ?_ _ | refine blk_drew ?_ | refine blk_alloc ?_ _)); exact BK117.out)) : gb117 ≠ gb118)); have n6_ := Aside0.mk ((by rw [hg]; exact Nat.ne_of_gt (blk_lt (g := gb117) (o := .cells #[.int .i64 a0_0, .int .i64 a0_1, .int .i64 a0_2] 102 (0, 0)) (by (with_reducible repeat (first | refine blk_drewN ?_ _ | refine blk_drew ?_ | refine blk_alloc ?_ _)); exact BK117.out)) : gb118 ≠ gb117)); clear BK117; clear HB; have BK117 := n0_; have HB := n1_; have BK118 := n2_; have GW118 := n3_; have GE118 := n4_; have NB117_118 := n5_; have NB118_117 := n6_; clear n0_ n1_ n2_ n3_ n4_ n5_ n6_; clear hb hbox hg; have hnb8 := NB117_118.out; have hnc8 := NB118_117.out; have hcz9_0 : w7.cell? ⟨gb117, 0, none⟩ = some (.int .i64 a0_0) := (blk_cell BK117.out 0).trans rfl; have hcz9_1 : w7.cell? ⟨gb117, 1, none⟩ = some (.int .i64 a0_1) := (blk_cell BK117.out 1).trans rfl; have hcz9_2 : w7.cell? ⟨gb117, 2, none⟩ = some (.int .i64 a0_2) := (blk_cell BK117.out 2).trans rfl; have hfz9_0 := blk_frozen BK117.out 0; have hfz9_1 := blk_frozen BK117.out 1; have hfz9_2 := blk_frozen BK117.out 2; have hcz10_0 : w7.cell? ⟨gb118, 0, none⟩ = some (.int .i64 a1_0) := (blk_cell BK118.out 0).trans rfl; have hcz10_1 : w7.cell? ⟨gb118, 1, none⟩ = some (.int .i64 a1_1) := (blk_cell BK118.out 1).trans rfl; have hcz10_2 : w7.cell? ⟨gb118, 2, none⟩ = some (.int .i64 a1_2) := (blk_cell BK118.out 2).trans rfl; have hfz10_0 := blk_frozen BK118.out 0; have hfz10_1 := blk_frozen BK118.out 1; have hfz10_2 := blk_frozen BK118.out 2))
        go_ret
        exact ⟨by first | rfl | (simp [errW_none, errW_some] <;> rfl) | (simp [*, errW_none, errW_some] <;> rfl), by repeat (first | (with_reducible first | exact HB.out | apply below_alloc | apply pw_below_drewN | apply below_drew1 | refine below_set ?_ GE117.out | refine below_set ?_ GE118.out) | exact HB.out)⟩
      · rw [if_neg c5] at H
        have c5b0 : (a0_2 == a1_2) = false := beq_eq_false_iff_ne.mpr c5
        have c5b1 : (a0_2 != a1_2) = true := bne_iff_ne.mpr c5
        obtain rfl := Option.some.inj H
        go_enter Try.func84, Try.ntmps84
        go_wp2_with (first | ((with_reducible refine gate_dst (N := 2) rfl ?_); refine box_event ?hg (N := 2) ?hd (cs := #[.int .i64 a0_0, .int .i64 a0_1, .int .i64 a0_2]) (t := 102) ?hr ?_; (case hd => rfl); (case hg => rfl); (case hr => first | (go_simp; done) | (go_simp; rfl)); intro gb117 hg w11 hbox hb; have n0_ := Aside0.mk (below_step (by repeat (first | (with_reducible first | exact HB.out | apply below_alloc | apply pw_below_drewN | apply below_drew1) | exact HB.out)) hb); have n1_ := Aside0.mk (hbox); have n2_ := Aside0.mk ((by rw [hg]; exact (below_size (by repeat (first | (with_reducible first | exact HB.out | apply below_alloc | apply pw_below_drewN | apply below_drew1) | exact HB.out))) : w.heap.size ≤ gb117)); have n3_ := Aside0.mk ((by rw [hg]; exact (below_size (by repeat (first | (with_reducible first | exact HB.out | apply below_alloc | apply pw_below_drewN | apply below_drew1) | exact HB.out))) : w.heap.size ≤ gb117)); clear HB; have HB := n0_; have BK117 := n1_; have GW117 := n2_; have GE117 := n3_; clear n0_ n1_ n2_ n3_; clear hb hbox hg) | ((with_reducible refine gate_dst (N := 3) rfl ?_); refine box_event ?hg (N := 3) ?hd (cs := #[.int .i64 a1_0, .int .i64 a1_1, .int .i64 a1_2]) (t := 102) ?hr ?_; (case hd => rfl); (case hg => rfl); (case hr => first | (go_simp; done) | (go_simp; rfl)); intro gb118 hg w12 hbox hb; have n0_ := Aside0.mk (blk_below (g := gb117) (o := .cells #[.int .i64 a0_0, .int .i64 a0_1, .int .i64 a0_2] 102 (0, 0)) (by (with_reducible repeat (first | refine blk_drewN ?_ _ | refine blk_drew ?_ | refine blk_alloc ?_ _)); exact BK117.out) hb); have n1_ := Aside0.mk (below_step (by repeat (first | (with_reducible first | exact HB.out | apply below_alloc | apply pw_below_drewN | apply below_drew1 | refine below_set ?_ GE117.out) | exact HB.out)) hb); have n2_ := Aside0.mk (hbox); have n3_ := Aside0.mk ((by rw [hg]; exact (below_size (by repeat (first | (with_reducible first | exact HB.out | apply below_alloc | apply pw_below_drewN | apply below_drew1 | refine below_set ?_ GE117.out) | exact HB.out))) : w.heap.size ≤ gb118)); have n4_ := Aside0.mk ((by rw [hg]; exact (below_size (by repeat (first | (with_reducible first | exact HB.out | apply below_alloc | apply pw_below_drewN | apply below_drew1 | refine below_set ?_ GE117.out) | exact HB.out))) : w.heap.size ≤ gb118)); have n5_ := Aside0.mk ((by rw [hg]; exact Nat.ne_of_lt (blk_lt (g := gb117) (o := .cells #[.int .i64 a0_0, .int .i64 a0_1, .int .i64 a0_2] 102 (0, 0)) (by (with_reducible repeat (first | refine blk_drewN ?_ _ | refine blk_drew ?_ | refine blk_alloc ?_ _)); exact BK117.out)) : gb117 ≠ gb118)); have n6_ := Aside0.mk ((by rw [hg]; exact Nat.ne_of_gt (blk_lt (g := gb117) (o := .cells #[.int .i64 a0_0, .int .i64 a0_1, .int .i64 a0_2] 102 (0, 0)) (by (with_reducible repeat (first | refine blk_drewN ?_ _ | refine blk_drew ?_ | refine blk_alloc ?_ _)); exact BK117.out)) : gb118 ≠ gb117)); clear BK117; clear HB; have BK117 := n0_; have HB := n1_; have BK118 := n2_; have GW118 := n3_; have GE118 := n4_; have NB117_118 := n5_; have NB118_117 := n6_; clear n0_ n1_ n2_ n3_ n4_ n5_ n6_; clear hb hbox hg; have hnb13 := NB117_118.out; have hnc13 := NB118_117.out; have hcz14_0 : w12.cell? ⟨gb117, 0, none⟩ = some (.int .i64 a0_0) := (blk_cell BK117.out 0).trans rfl; have hcz14_1 : w12.cell? ⟨gb117, 1, none⟩ = some (.int .i64 a0_1) := (blk_cell BK117.out 1).trans rfl; have hcz14_2 : w12.cell? ⟨gb117, 2, none⟩ = some (.int .i64 a0_2) := (blk_cell BK117.out 2).trans rfl; have hfz14_0 := blk_frozen BK117.out 0; have hfz14_1 := blk_frozen BK117.out 1; have hfz14_2 := blk_frozen BK117.out 2; have hcz15_0 : w12.cell? ⟨gb118, 0, none⟩ = some (.int .i64 a1_0) := (blk_cell BK118.out 0).trans rfl; have hcz15_1 : w12.cell? ⟨gb118, 1, none⟩ = some (.int .i64 a1_1) := (blk_cell BK118.out 1).trans rfl; have hcz15_2 : w12.cell? ⟨gb118, 2, none⟩ = some (.int .i64 a1_2) := (blk_cell BK118.out 2).trans rfl; have hfz15_0 := blk_frozen BK118.out 0; have hfz15_1 := blk_frozen BK118.out 1; have hfz15_2 := blk_frozen BK118.out 2))
        go_ret
        exact ⟨by first | rfl | (simp [errW_none, errW_some] <;> rfl) | (simp [*, errW_none, errW_some] <;> rfl), by repeat (first | (with_reducible first | exact HB.out | apply below_alloc | apply pw_below_drewN | apply below_drew1 | refine below_set ?_ GE117.out | refine below_set ?_ GE118.out) | exact HB.out)⟩
    · rw [if_neg c4] at H
      have c4b0 : (a0_1 == a1_1) = false := beq_eq_false_iff_ne.mpr c4
      have c4b1 : (a0_1 != a1_1) = true := bne_iff_ne.mpr c4
      obtain rfl := Option.some.inj H
      go_enter Try.func84, Try.ntmps84
      go_wp2_with (first | ((with_reducible refine gate_dst (N := 2) rfl ?_); refine box_event ?hg (N := 2) ?hd (cs := #[.int .i64 a0_0, .int .i64 a0_1, .int .i64 a0_2]) (t := 102) ?hr ?_; (case hd => rfl); (case hg => rfl); (case hr => first | (go_simp; done) | (go_simp; rfl)); intro gb117 hg w16 hbox hb; have n0_ := Aside0.mk (below_step (by repeat (first | (with_reducible first | exact HB.out | apply below_alloc | apply pw_below_drewN | apply below_drew1) | exact HB.out)) hb); have n1_ := Aside0.mk (hbox); have n2_ := Aside0.mk ((by rw [hg]; exact (below_size (by repeat (first | (with_reducible first | exact HB.out | apply below_alloc | apply pw_below_drewN | apply below_drew1) | exact HB.out))) : w.heap.size ≤ gb117)); have n3_ := Aside0.mk ((by rw [hg]; exact (below_size (by repeat (first | (with_reducible first | exact HB.out | apply below_alloc | apply pw_below_drewN | apply below_drew1) | exact HB.out))) : w.heap.size ≤ gb117)); clear HB; have HB := n0_; have BK117 := n1_; have GW117 := n2_; have GE117 := n3_; clear n0_ n1_ n2_ n3_; clear hb hbox hg) | ((with_reducible refine gate_dst (N := 3) rfl ?_); refine box_event ?hg (N := 3) ?hd (cs := #[.int .i64 a1_0, .int .i64 a1_1, .int .i64 a1_2]) (t := 102) ?hr ?_; (case hd => rfl); (case hg => rfl); (case hr => first | (go_simp; done) | (go_simp; rfl)); intro gb118 hg w17 hbox hb; have n0_ := Aside0.mk (blk_below (g := gb117) (o := .cells #[.int .i64 a0_0, .int .i64 a0_1, .int .i64 a0_2] 102 (0, 0)) (by (with_reducible repeat (first | refine blk_drewN ?_ _ | refine blk_drew ?_ | refine blk_alloc ?_ _)); exact BK117.out) hb); have n1_ := Aside0.mk (below_step (by repeat (first | (with_reducible first | exact HB.out | apply below_alloc | apply pw_below_drewN | apply below_drew1 | refine below_set ?_ GE117.out) | exact HB.out)) hb); have n2_ := Aside0.mk (hbox); have n3_ := Aside0.mk ((by rw [hg]; exact (below_size (by repeat (first | (with_reducible first | exact HB.out | apply below_alloc | apply pw_below_drewN | apply below_drew1 | refine below_set ?_ GE117.out) | exact HB.out))) : w.heap.size ≤ gb118)); have n4_ := Aside0.mk ((by rw [hg]; exact (below_size (by repeat (first | (with_reducible first | exact HB.out | apply below_alloc | apply pw_below_drewN | apply below_drew1 | refine below_set ?_ GE117.out) | exact HB.out))) : w.heap.size ≤ gb118)); have n5_ := Aside0.mk ((by rw [hg]; exact Nat.ne_of_lt (blk_lt (g := gb117) (o := .cells #[.int .i64 a0_0, .int .i64 a0_1, .int .i64 a0_2] 102 (0, 0)) (by (with_reducible repeat (first | refine blk_drewN ?_ _ | refine blk_drew ?_ | refine blk_alloc ?_ _)); exact BK117.out)) : gb117 ≠ gb118)); have n6_ := Aside0.mk ((by rw [hg]; exact Nat.ne_of_gt (blk_lt (g := gb117) (o := .cells #[.int .i64 a0_0, .int .i64 a0_1, .int .i64 a0_2] 102 (0, 0)) (by (with_reducible repeat (first | refine blk_drewN ?_ _ | refine blk_drew ?_ | refine blk_alloc ?_ _)); exact BK117.out)) : gb118 ≠ gb117)); clear BK117; clear HB; have BK117 := n0_; have HB := n1_; have BK118 := n2_; have GW118 := n3_; have GE118 := n4_; have NB117_118 := n5_; have NB118_117 := n6_; clear n0_ n1_ n2_ n3_ n4_ n5_ n6_; clear hb hbox hg; have hnb18 := NB117_118.out; have hnc18 := NB118_117.out; have hcz19_0 : w17.cell? ⟨gb117, 0, none⟩ = some (.int .i64 a0_0) := (blk_cell BK117.out 0).trans rfl; have hcz19_1 : w17.cell? ⟨gb117, 1, none⟩ = some (.int .i64 a0_1) := (blk_cell BK117.out 1).trans rfl; have hcz19_2 : w17.cell? ⟨gb117, 2, none⟩ = some (.int .i64 a0_2) := (blk_cell BK117.out 2).trans rfl; have hfz19_0 := blk_frozen BK117.out 0; have hfz19_1 := blk_frozen BK117.out 1; have hfz19_2 := blk_frozen BK117.out 2; have hcz20_0 : w17.cell? ⟨gb118, 0, none⟩ = some (.int .i64 a1_0) := (blk_cell BK118.out 0).trans rfl; have hcz20_1 : w17.cell? ⟨gb118, 1, none⟩ = some (.int .i64 a1_1) := (blk_cell BK118.out 1).trans rfl; have hcz20_2 : w17.cell? ⟨gb118, 2, none⟩ = some (.int .i64 a1_2) := (blk_cell BK118.out 2).trans rfl; have hfz20_0 := blk_frozen BK118.out 0; have hfz20_1 := blk_frozen BK118.out 1; have hfz20_2 := blk_frozen BK118.out 2))
      go_ret
      exact ⟨by first | rfl | (simp [errW_none, errW_some] <;> rfl) | (simp [*, errW_none, errW_some] <;> rfl), by repeat (first | (with_reducible first | exact HB.out | apply below_alloc | apply pw_below_drewN | apply below_drew1 | refine below_set ?_ GE117.out | refine below_set ?_ GE118.out) | exact HB.out)⟩
  · rw [if_neg c3] at H
    have c3b0 : (a0_0 == a1_0) = false := beq_eq_false_iff_ne.mpr c3
    have c3b1 : (a0_0 != a1_0) = true := bne_iff_ne.mpr c3
    obtain rfl := Option.some.inj H
    go_enter Try.func84, Try.ntmps84
    go_wp2_with (first | ((with_reducible refine gate_dst (N := 2) rfl ?_); refine box_event ?hg (N := 2) ?hd (cs := #[.int .i64 a0_0, .int .i64 a0_1, .int .i64 a0_2]) (t := 102) ?hr ?_; (case hd => rfl); (case hg => rfl); (case hr => first | (go_simp; done) | (go_simp; rfl)); intro gb117 hg w21 hbox hb; have n0_ := Aside0.mk (below_step (by repeat (first | (with_reducible first | exact HB.out | apply below_alloc | apply pw_below_drewN | apply below_drew1) | exact HB.out)) hb); have n1_ := Aside0.mk (hbox); have n2_ := Aside0.mk ((by rw [hg]; exact (below_size (by repeat (first | (with_reducible first | exact HB.out | apply below_alloc | apply pw_below_drewN | apply below_drew1) | exact HB.out))) : w.heap.size ≤ gb117)); have n3_ := Aside0.mk ((by rw [hg]; exact (below_size (by repeat (first | (with_reducible first | exact HB.out | apply below_alloc | apply pw_below_drewN | apply below_drew1) | exact HB.out))) : w.heap.size ≤ gb117)); clear HB; have HB := n0_; have BK117 := n1_; have GW117 := n2_; have GE117 := n3_; clear n0_ n1_ n2_ n3_; clear hb hbox hg) | ((with_reducible refine gate_dst (N := 3) rfl ?_); refine box_event ?hg (N := 3) ?hd (cs := #[.int .i64 a1_0, .int .i64 a1_1, .int .i64 a1_2]) (t := 102) ?hr ?_; (case hd => rfl); (case hg => rfl); (case hr => first | (go_simp; done) | (go_simp; rfl)); intro gb118 hg w22 hbox hb; have n0_ := Aside0.mk (blk_below (g := gb117) (o := .cells #[.int .i64 a0_0, .int .i64 a0_1, .int .i64 a0_2] 102 (0, 0)) (by (with_reducible repeat (first | refine blk_drewN ?_ _ | refine blk_drew ?_ | refine blk_alloc ?_ _)); exact BK117.out) hb); have n1_ := Aside0.mk (below_step (by repeat (first | (with_reducible first | exact HB.out | apply below_alloc | apply pw_below_drewN | apply below_drew1 | refine below_set ?_ GE117.out) | exact HB.out)) hb); have n2_ := Aside0.mk (hbox); have n3_ := Aside0.mk ((by rw [hg]; exact (below_size (by repeat (first | (with_reducible first | exact HB.out | apply below_alloc | apply pw_below_drewN | apply below_drew1 | refine below_set ?_ GE117.out) | exact HB.out))) : w.heap.size ≤ gb118)); have n4_ := Aside0.mk ((by rw [hg]; exact (below_size (by repeat (first | (with_reducible first | exact HB.out | apply below_alloc | apply pw_below_drewN | apply below_drew1 | refine below_set ?_ GE117.out) | exact HB.out))) : w.heap.size ≤ gb118)); have n5_ := Aside0.mk ((by rw [hg]; exact Nat.ne_of_lt (blk_lt (g := gb117) (o := .cells #[.int .i64 a0_0, .int .i64 a0_1, .int .i64 a0_2] 102 (0, 0)) (by (with_reducible repeat (first | refine blk_drewN ?_ _ | refine blk_drew ?_ | refine blk_alloc ?_ _)); exact BK117.out)) : gb117 ≠ gb118)); have n6_ := Aside0.mk ((by rw [hg]; exact Nat.ne_of_gt (blk_lt (g := gb117) (o := .cells #[.int .i64 a0_0, .int .i64 a0_1, .int .i64 a0_2] 102 (0, 0)) (by (with_reducible repeat (first | refine blk_drewN ?_ _ | refine blk_drew ?_ | refine blk_alloc ?_ _)); exact BK117.out)) : gb118 ≠ gb117)); clear BK117; clear HB; have BK117 := n0_; have HB := n1_; have BK118 := n2_; have GW118 := n3_; have GE118 := n4_; have NB117_118 := n5_; have NB118_117 := n6_; clear n0_ n1_ n2_ n3_ n4_ n5_ n6_; clear hb hbox hg; have hnb23 := NB117_118.out; have hnc23 := NB118_117.out; have hcz24_0 : w22.cell? ⟨gb117, 0, none⟩ = some (.int .i64 a0_0) := (blk_cell BK117.out 0).trans rfl; have hcz24_1 : w22.cell? ⟨gb117, 1, none⟩ = some (.int .i64 a0_1) := (blk_cell BK117.out 1).trans rfl; have hcz24_2 : w22.cell? ⟨gb117, 2, none⟩ = some (.int .i64 a0_2) := (blk_cell BK117.out 2).trans rfl; have hfz24_0 := blk_frozen BK117.out 0; have hfz24_1 := blk_frozen BK117.out 1; have hfz24_2 := blk_frozen BK117.out 2; have hcz25_0 : w22.cell? ⟨gb118, 0, none⟩ = some (.int .i64 a1_0) := (blk_cell BK118.out 0).trans rfl; have hcz25_1 : w22.cell? ⟨gb118, 1, none⟩ = some (.int .i64 a1_1) := (blk_cell BK118.out 1).trans rfl; have hcz25_2 : w22.cell? ⟨gb118, 2, none⟩ = some (.int .i64 a1_2) := (blk_cell BK118.out 2).trans rfl; have hfz25_0 := blk_frozen BK118.out 0; have hfz25_1 := blk_frozen BK118.out 1; have hfz25_2 := blk_frozen BK118.out 2))
    go_ret
    exact ⟨by first | rfl | (simp [errW_none, errW_some] <;> rfl) | (simp [*, errW_none, errW_some] <;> rfl), by repeat (first | (with_reducible first | exact HB.out | apply below_alloc | apply pw_below_drewN | apply below_drew1 | refine below_set ?_ GE117.out | refine below_set ?_ GE118.out) | exact HB.out)⟩

end Go.Proofs.Ythbbhdadioiefaa.QFnExactAlarmsValid
