-- Written by wip/pr2.py: a program of this session's own, which runs the kit's print over contracts of its own.
import Derived.Test.YtojgaiibnajghaaQFnExactStepChartx2
namespace Go.Proofs.Ytojgaiibnajghaa.QFnExactStepChart
open Go.RowKit Go.Proofs.YtojgaiibnajghaaW.PrintWords Go.Proofs.YtojgaiibnajghaaW.PrintLast Go.Proofs.YtojgaiibnajghaaW.PrintMore
attribute [local go_sem] max2_int min2_int max_two min_two max_three min_three max_four min_four   -- for this text's walks alone
set_option linter.unusedVariables false
set_option linter.unusedSimpArgs false

/-! ### laws_FnExactStepChart: function 7 -/
def laws_FnExactStepChart.f (k : Nat) (l0 : List (S77)) (a1 : Int) (a2 : Int) (l3_0 : List Bool) (l3_1 : List Int) : Option (Bool) := (laws_szTransitionS.f l0 1048576).bind fun t177 => (if t177 < 0 then (some true) else ((laws_szImage.f l3_0 l3_1 t177).bind fun t178 => (if t178 < 0 then (some true) else ((laws_toTransitionS.f k l0).bind fun t179 => ((laws_toImage.f k l3_0 l3_1).bind fun bt182 => ((spec_StepChart.f k t179 a1 a2 bt182.1 bt182.2).bind fun t188 => ((laws_toTransitionS.f k l0).bind fun t189 => ((laws_toImage.f k l3_0 l3_1).bind fun bt192 => ((impl_StepChart.f k t189 a1 a2 bt192.1 bt192.2).bind fun t199 => (if t199 = t188 then ((laws_toTransitionS.f k l0).bind fun t200 => ((laws_eqTransitionS.f k t189 t200).bind fun t203 => (if t203 = true then ((laws_toImage.f k l3_0 l3_1).bind fun bt204 => ((laws_eqImage.f k bt192.1 bt192.2 bt204.1 bt204.2).bind fun t210 => (if t210 = true then (some true) else (some false)))) else (some false)))) else (some false)))))))))))
theorem laws_FnExactStepChart.mono : ∀ a0 a1 a2 a3 a4 k, LeO (laws_FnExactStepChart.f k a0 a1 a2 a3 a4) (laws_FnExactStepChart.f (k + 1) a0 a1 a2 a3 a4) := by
  intro a0 a1 a2 a3 a4 k
  unfold laws_FnExactStepChart.f
  repeat' first
      | (with_reducible exact impl_StepChart.mono _ _ _ _ _ _)
      | (with_reducible exact laws_eqImage.mono _ _ _ _ _)
      | (with_reducible exact laws_eqTransitionS.mono _ _ _)
      | (with_reducible exact laws_toImage.mono _ _ _)
      | (with_reducible exact laws_toTransitionS.mono _ _)
      | (with_reducible exact spec_StepChart.mono _ _ _ _ _ _)
      | (with_reducible exact LeO.refl _)
      | (with_reducible exact LeO.none _)
      | (with_reducible refine LeO.ite ?_ ?_)
      | (with_reducible refine LeO.bind ?_ (fun _ => ?_))
      | exact impl_StepChart.mono _ _ _ _ _ _
      | exact laws_eqImage.mono _ _ _ _ _
      | exact laws_eqTransitionS.mono _ _ _
      | exact laws_toImage.mono _ _ _
      | exact laws_toTransitionS.mono _ _
      | exact spec_StepChart.mono _ _ _ _ _ _
      | exact LeO.none _
      | refine LeO.ite ?_ ?_
      | refine LeO.bind ?_ (fun _ => ?_)
def laws_FnExactStepChart.T8 : Bool × List (List Nat × List Nat) := (true, [([], []), ([0], [0]), ([], []), ([], []), ([], []), ([4, 1], [4]), ([1, 2, 3, 5, 5], [1, 2, 3, 5]), ([6, 6, 0, 1, 2, 3, 4, 5, 6], [6])])
def laws_FnExactStepChart.B8 : List Nat := [0, 1, 0, 0, 0, 19, 63, 127]
theorem laws_FnExactStepChart.tab8 : rtab .any (opsOf Try.f7 8) = laws_FnExactStepChart.T8 := by kernel_rfl
theorem laws_FnExactStepChart.bits8 : waitsOk laws_FnExactStepChart.T8.2 laws_FnExactStepChart.B8 = true := by kernel_rfl
set_option maxHeartbeats 8000000 in
set_option maxRecDepth 100000 in
theorem laws_FnExactStepChart.calls (k : Nat) (A0 : Option Addr) (c0 : Nat) (l0 : List (S77)) (a1 : Int) (a2 : Int) (A3_0 : Option Addr) (c3_0 : Nat) (l3_0 : List Bool) (A3_1 : Option Addr) (c3_1 : Nat) (l3_1 : List Int) (r : Bool) (w : World) (hr0 : Kd.C k77 w A0 l0.length l0) (hc0 : l0.length ≤ c0) (hr3_0 : Kd.C Kd.bool w A3_0 l3_0.length l3_0) (hc3_0 : l3_0.length ≤ c3_0) (hr3_1 : Kd.C (Kd.int .i64) w A3_1 l3_1.length l3_1) (hc3_1 : l3_1.length ≤ c3_1) (h : laws_FnExactStepChart.f k l0 a1 a2 l3_0 l3_1 = some r) :
    Calls Try.prog 7 #[.slice A0 l0.length c0, .int .i64 a1, .int .i64 a2, .agg #[.slice A3_0 l3_0.length c3_0, .slice A3_1 l3_1.length c3_1]] w fun e w' => e = .returned (.bool r) ∧ Below w.heap.size w w' := by
  have hu25 := Try.underlying25
  have hu27 := Try.underlying27
  have HR0 := Aside0.mk hr0
  have HC0 := Aside0.mk hc0
  clear hr0 hc0
  have HR3_0 := Aside0.mk hr3_0
  have HC3_0 := Aside0.mk hc3_0
  clear hr3_0 hc3_0
  have HR3_1 := Aside0.mk hr3_1
  have HC3_1 := Aside0.mk hc3_1
  clear hr3_1 hc3_1
  have HB := Aside0.mk (Below.refl w.heap.size w)
  have H : ((laws_szTransitionS.f l0 1048576).bind fun t177 => (if t177 < 0 then (some true) else ((laws_szImage.f l3_0 l3_1 t177).bind fun t178 => (if t178 < 0 then (some true) else ((laws_toTransitionS.f k l0).bind fun t179 => ((laws_toImage.f k l3_0 l3_1).bind fun bt182 => ((spec_StepChart.f k t179 a1 a2 bt182.1 bt182.2).bind fun t188 => ((laws_toTransitionS.f k l0).bind fun t189 => ((laws_toImage.f k l3_0 l3_1).bind fun bt192 => ((impl_StepChart.f k t189 a1 a2 bt192.1 bt192.2).bind fun t199 => (if t199 = t188 then ((laws_toTransitionS.f k l0).bind fun t200 => ((laws_eqTransitionS.f k t189 t200).bind fun t203 => (if t203 = true then ((laws_toImage.f k l3_0 l3_1).bind fun bt204 => ((laws_eqImage.f k bt192.1 bt192.2 bt204.1 bt204.2).bind fun t210 => (if t210 = true then (some true) else (some false)))) else (some false)))) else (some false)))))))))))) = some r := h
  clear h
  replace H := Option.bind_eq_some_iff.mp H
  obtain ⟨t177, A50, H⟩ := H
  replace H : (if t177 < 0 then (some true) else ((laws_szImage.f l3_0 l3_1 t177).bind fun t178 => (if t178 < 0 then (some true) else ((laws_toTransitionS.f k l0).bind fun t179 => ((laws_toImage.f k l3_0 l3_1).bind fun bt182 => ((spec_StepChart.f k t179 a1 a2 bt182.1 bt182.2).bind fun t188 => ((laws_toTransitionS.f k l0).bind fun t189 => ((laws_toImage.f k l3_0 l3_1).bind fun bt192 => ((impl_StepChart.f k t189 a1 a2 bt192.1 bt192.2).bind fun t199 => (if t199 = t188 then ((laws_toTransitionS.f k l0).bind fun t200 => ((laws_eqTransitionS.f k t189 t200).bind fun t203 => (if t203 = true then ((laws_toImage.f k l3_0 l3_1).bind fun bt204 => ((laws_eqImage.f k bt192.1 bt192.2 bt204.1 bt204.2).bind fun t210 => (if t210 = true then (some true) else (some false)))) else (some false)))) else (some false))))))))))) = some r := H
  have A5 := Aside0.mk A50
  clear A50
  by_cases c6 : t177 < 0
  · rw [if_pos c6] at H
    have c6b0 : decide (t177 < 0) = true := decide_eq_true c6
    clear c6
    obtain rfl := Option.some.inj H
    go_enter Try.func7, Try.ntmps7
    go_wp2_with (first | ((with_reducible refine gate_dst (N := 7) rfl ?_); refine box_event ?hg (N := 7) ?hd (cs := #[.slice A3_0 l3_0.length c3_0, .slice A3_1 l3_1.length c3_1]) (t := 25) ?hr ?_; (case hd => rfl); (case hg => rfl); (case hr => first | (go_simp; done) | (go_simp; rfl)); intro gb176 hg w7 hbox hb; have n0_ := Aside0.mk (below_step (by repeat (first | (with_reducible first | exact HB.out | apply below_alloc | apply pw_below_drewN | apply below_drew1) | exact HB.out)) hb); have n1_ := Aside0.mk (hbox); have n2_ := Aside0.mk ((by rw [hg]; exact (below_size (by repeat (first | (with_reducible first | exact HB.out | apply below_alloc | apply pw_below_drewN | apply below_drew1) | exact HB.out))) : w.heap.size ≤ gb176)); have n3_ := Aside0.mk ((by rw [hg]; exact (below_size (by repeat (first | (with_reducible first | exact HB.out | apply below_alloc | apply pw_below_drewN | apply below_drew1) | exact HB.out))) : w.heap.size ≤ gb176)); clear HB; have HB := n0_; have BK176 := n1_; have GW176 := n2_; have GE176 := n3_; clear n0_ n1_ n2_ n3_; clear hb hbox hg) | ((with_reducible refine gate_callee (f := 28) rfl ?_); refine goesL_ (some 16) rfl rfl Try.func28 (by kernel_rfl) rfl #[.slice A0 l0.length c0, .int .i64 1048576] rfl (by (try simp only [List.map_toArray, List.map_cons, List.map_nil]); first | done | rfl | (simp only [List.length_drop, List.length_take]; rfl)) ?_; (with_reducible refine (laws_szTransitionS.calls _ _ l0 1048576 t177 _ ?side1 ?side2 A5.out).mono ?_); (case side1 => repeat (first | exact (Kd.C_below HR0.out HB.out) | (with_reducible refine Kd.C_alloc ?_ _) | (with_reducible refine Kd.C_drewN ?_ _) | (with_reducible refine Kd.C_drew ?_))); (case side2 => exact HC0.out); rintro e w' ⟨rfl, ⟨nd, rfl⟩⟩; refine ⟨_, rfl, ?_⟩))
    go_ret
    exact ⟨by first | rfl | (simp [errW_none, errW_some] <;> rfl) | (simp [*, errW_none, errW_some] <;> rfl), by repeat (first | (with_reducible first | exact HB.out | apply below_alloc | apply pw_below_drewN | apply below_drew1 | refine below_set ?_ GE176.out) | exact HB.out)⟩
  · rw [if_neg c6] at H
    have c6b0 : decide (t177 < 0) = false := decide_eq_false c6
    clear c6
    replace H := Option.bind_eq_some_iff.mp H
    obtain ⟨t178, A80, H⟩ := H
    replace H : (if t178 < 0 then (some true) else ((laws_toTransitionS.f k l0).bind fun t179 => ((laws_toImage.f k l3_0 l3_1).bind fun bt182 => ((spec_StepChart.f k t179 a1 a2 bt182.1 bt182.2).bind fun t188 => ((laws_toTransitionS.f k l0).bind fun t189 => ((laws_toImage.f k l3_0 l3_1).bind fun bt192 => ((impl_StepChart.f k t189 a1 a2 bt192.1 bt192.2).bind fun t199 => (if t199 = t188 then ((laws_toTransitionS.f k l0).bind fun t200 => ((laws_eqTransitionS.f k t189 t200).bind fun t203 => (if t203 = true then ((laws_toImage.f k l3_0 l3_1).bind fun bt204 => ((laws_eqImage.f k bt192.1 bt192.2 bt204.1 bt204.2).bind fun t210 => (if t210 = true then (some true) else (some false)))) else (some false)))) else (some false))))))))) = some r := H
    have A8 := Aside0.mk A80
    clear A80
    by_cases c9 : t178 < 0
    · rw [if_pos c9] at H
      have c9b0 : decide (t178 < 0) = true := decide_eq_true c9
      clear c9
      obtain rfl := Option.some.inj H
      go_enter Try.func7, Try.ntmps7
      go_wp2_with (first | ((with_reducible refine gate_dst (N := 7) rfl ?_); refine box_event ?hg (N := 7) ?hd (cs := #[.slice A3_0 l3_0.length c3_0, .slice A3_1 l3_1.length c3_1]) (t := 25) ?hr ?_; (case hd => rfl); (case hg => rfl); (case hr => first | (go_simp; done) | (go_simp; rfl)); intro gb176 hg w10 hbox hb; have n0_ := Aside0.mk (below_step (by repeat (first | (with_reducible first | exact HB.out | apply below_alloc | apply pw_below_drewN | apply below_drew1) | exact HB.out)) hb); have n1_ := Aside0.mk (hbox); have n2_ := Aside0.mk ((by rw [hg]; exact (below_size (by repeat (first | (with_reducible first | exact HB.out | apply below_alloc | apply pw_below_drewN | apply below_drew1) | exact HB.out))) : w.heap.size ≤ gb176)); have n3_ := Aside0.mk ((by rw [hg]; exact (below_size (by repeat (first | (with_reducible first | exact HB.out | apply below_alloc | apply pw_below_drewN | apply below_drew1) | exact HB.out))) : w.heap.size ≤ gb176)); clear HB; have HB := n0_; have BK176 := n1_; have GW176 := n2_; have GE176 := n3_; clear n0_ n1_ n2_ n3_; clear hb hbox hg) | ((with_reducible refine gate_callee (f := 28) rfl ?_); refine goesL_ (some 16) rfl rfl Try.func28 (by kernel_rfl) rfl #[.slice A0 l0.length c0, .int .i64 1048576] rfl (by (try simp only [List.map_toArray, List.map_cons, List.map_nil]); first | done | rfl | (simp only [List.length_drop, List.length_take]; rfl)) ?_; (with_reducible refine (laws_szTransitionS.calls _ _ l0 1048576 t177 _ ?side1 ?side2 A5.out).mono ?_); (case side1 => repeat (first | exact (Kd.C_below HR0.out HB.out) | (with_reducible refine Kd.C_alloc ?_ _) | (with_reducible refine Kd.C_drewN ?_ _) | (with_reducible refine Kd.C_drew ?_))); (case side2 => exact HC0.out); rintro e w' ⟨rfl, ⟨nd, rfl⟩⟩; refine ⟨_, rfl, ?_⟩; have hcz11_0 : w10.cell? ⟨gb176, 0, none⟩ = some (.slice A3_0 l3_0.length c3_0) := (blk_cell BK176.out 0).trans rfl; have hcz11_1 : w10.cell? ⟨gb176, 1, none⟩ = some (.slice A3_1 l3_1.length c3_1) := (blk_cell BK176.out 1).trans rfl; have hfz11_0 := blk_frozen BK176.out 0; have hfz11_1 := blk_frozen BK176.out 1) | ((with_reducible refine gate_callee (f := 8) rfl ?_); refine goesL_ (some 21) rfl rfl Try.func8 (by kernel_rfl) rfl #[.agg #[.slice A3_0 l3_0.length c3_0, .slice A3_1 l3_1.length c3_1], .int .i64 t177] rfl (by (try simp only [List.map_toArray, List.map_cons, List.map_nil]); first | done | rfl | (simp only [List.length_drop, List.length_take]; rfl)) ?_; (with_reducible refine (laws_szImage.calls _ _ l3_0 _ _ l3_1 t177 t178 _ ?side1 ?side2 ?side3 ?side4 A8.out).mono ?_); (case side1 => repeat (first | exact (Kd.C_below HR3_0.out (by repeat (first | (with_reducible first | exact HB.out | apply below_alloc | apply pw_below_drewN | apply below_drew1 | refine below_set ?_ GE176.out) | exact HB.out))) | (with_reducible refine Kd.C_alloc ?_ _) | (with_reducible refine Kd.C_drewN ?_ _) | (with_reducible refine Kd.C_drew ?_))); (case side2 => exact HC3_0.out); (case side3 => repeat (first | exact (Kd.C_below HR3_1.out (by repeat (first | (with_reducible first | exact HB.out | apply below_alloc | apply pw_below_drewN | apply below_drew1 | refine below_set ?_ GE176.out) | exact HB.out))) | (with_reducible refine Kd.C_alloc ?_ _) | (with_reducible refine Kd.C_drewN ?_ _) | (with_reducible refine Kd.C_drew ?_))); (case side4 => exact HC3_1.out); rintro e w12 ⟨rfl, hb⟩; refine ⟨_, rfl, ?_⟩; have n0_ := Aside0.mk (blk_below (g := gb176) (o := .cells #[.slice A3_0 l3_0.length c3_0, .slice A3_1 l3_1.length c3_1] 25 (0, 0)) (by (with_reducible repeat (first | refine blk_drewN ?_ _ | refine blk_drew ?_ | refine blk_alloc ?_ _)); exact BK176.out) hb); have n1_ := Aside0.mk (below_step (by repeat (first | (with_reducible first | exact HB.out | apply below_alloc | apply pw_below_drewN | apply below_drew1 | refine below_set ?_ GE176.out) | exact HB.out)) hb); clear BK176; clear HB; have BK176 := n0_; have HB := n1_; clear n0_ n1_; (try clear hb); (try clear hb2); (try clear hk); (try clear hi)))
      go_ret
      exact ⟨by first | rfl | (simp [errW_none, errW_some] <;> rfl) | (simp [*, errW_none, errW_some] <;> rfl), by repeat (first | (with_reducible first | exact HB.out | apply below_alloc | apply pw_below_drewN | apply below_drew1 | refine below_set ?_ GE176.out) | exact HB.out)⟩
    · rw [if_neg c9] at H
      have c9b0 : decide (t178 < 0) = false := decide_eq_false c9
      clear c9
      replace H := Option.bind_eq_some_iff.mp H
      obtain ⟨t179, A130, H⟩ := H
      replace H : ((laws_toImage.f k l3_0 l3_1).bind fun bt182 => ((spec_StepChart.f k t179 a1 a2 bt182.1 bt182.2).bind fun t188 => ((laws_toTransitionS.f k l0).bind fun t189 => ((laws_toImage.f k l3_0 l3_1).bind fun bt192 => ((impl_StepChart.f k t189 a1 a2 bt192.1 bt192.2).bind fun t199 => (if t199 = t188 then ((laws_toTransitionS.f k l0).bind fun t200 => ((laws_eqTransitionS.f k t189 t200).bind fun t203 => (if t203 = true then ((laws_toImage.f k l3_0 l3_1).bind fun bt204 => ((laws_eqImage.f k bt192.1 bt192.2 bt204.1 bt204.2).bind fun t210 => (if t210 = true then (some true) else (some false)))) else (some false)))) else (some false))))))) = some r := H
      have A13 := Aside0.mk A130
      clear A130
      replace H := Option.bind_eq_some_iff.mp H
      obtain ⟨⟨t182, t185⟩, A140, H⟩ := H
      replace H : ((spec_StepChart.f k t179 a1 a2 t182 t185).bind fun t188 => ((laws_toTransitionS.f k l0).bind fun t189 => ((laws_toImage.f k l3_0 l3_1).bind fun bt192 => ((impl_StepChart.f k t189 a1 a2 bt192.1 bt192.2).bind fun t199 => (if t199 = t188 then ((laws_toTransitionS.f k l0).bind fun t200 => ((laws_eqTransitionS.f k t189 t200).bind fun t203 => (if t203 = true then ((laws_toImage.f k l3_0 l3_1).bind fun bt204 => ((laws_eqImage.f k bt192.1 bt192.2 bt204.1 bt204.2).bind fun t210 => (if t210 = true then (some true) else (some false)))) else (some false)))) else (some false)))))) = some r := H
      have A14 := Aside0.mk A140
      clear A140
      replace H := Option.bind_eq_some_iff.mp H
      obtain ⟨t188, A150, H⟩ := H
      replace H : ((laws_toTransitionS.f k l0).bind fun t189 => ((laws_toImage.f k l3_0 l3_1).bind fun bt192 => ((impl_StepChart.f k t189 a1 a2 bt192.1 bt192.2).bind fun t199 => (if t199 = t188 then ((laws_toTransitionS.f k l0).bind fun t200 => ((laws_eqTransitionS.f k t189 t200).bind fun t203 => (if t203 = true then ((laws_toImage.f k l3_0 l3_1).bind fun bt204 => ((laws_eqImage.f k bt192.1 bt192.2 bt204.1 bt204.2).bind fun t210 => (if t210 = true then (some true) else (some false)))) else (some false)))) else (some false))))) = some r := H
      have A15 := Aside0.mk A150
      clear A150
      replace H := Option.bind_eq_some_iff.mp H
      obtain ⟨t189, A160, H⟩ := H
      replace H : ((laws_toImage.f k l3_0 l3_1).bind fun bt192 => ((impl_StepChart.f k t189 a1 a2 bt192.1 bt192.2).bind fun t199 => (if t199 = t188 then ((laws_toTransitionS.f k l0).bind fun t200 => ((laws_eqTransitionS.f k t189 t200).bind fun t203 => (if t203 = true then ((laws_toImage.f k l3_0 l3_1).bind fun bt204 => ((laws_eqImage.f k bt192.1 bt192.2 bt204.1 bt204.2).bind fun t210 => (if t210 = true then (some true) else (some false)))) else (some false)))) else (some false)))) = some r := H
      have A16 := Aside0.mk A160
      clear A160
      replace H := Option.bind_eq_some_iff.mp H
      obtain ⟨⟨t192, t195⟩, A170, H⟩ := H
      replace H : ((impl_StepChart.f k t189 a1 a2 t192 t195).bind fun t199 => (if t199 = t188 then ((laws_toTransitionS.f k l0).bind fun t200 => ((laws_eqTransitionS.f k t189 t200).bind fun t203 => (if t203 = true then ((laws_toImage.f k l3_0 l3_1).bind fun bt204 => ((laws_eqImage.f k t192 t195 bt204.1 bt204.2).bind fun t210 => (if t210 = true then (some true) else (some false)))) else (some false)))) else (some false))) = some r := H
      have A17 := Aside0.mk A170
      clear A170
      replace H := Option.bind_eq_some_iff.mp H
      obtain ⟨t199, A180, H⟩ := H
      replace H : (if t199 = t188 then ((laws_toTransitionS.f k l0).bind fun t200 => ((laws_eqTransitionS.f k t189 t200).bind fun t203 => (if t203 = true then ((laws_toImage.f k l3_0 l3_1).bind fun bt204 => ((laws_eqImage.f k t192 t195 bt204.1 bt204.2).bind fun t210 => (if t210 = true then (some true) else (some false)))) else (some false)))) else (some false)) = some r := H
      have A18 := Aside0.mk A180
      clear A180
      by_cases c19 : t199 = t188
      · rw [if_pos c19] at H
        have c19b0 : (t199 == t188) = true := beq_iff_eq.mpr c19
        have c19b1 : (t199 != t188) = false := bne_eq_false_iff_eq.mpr c19
        clear c19
        replace H := Option.bind_eq_some_iff.mp H
        obtain ⟨t200, A200, H⟩ := H
        replace H : ((laws_eqTransitionS.f k t189 t200).bind fun t203 => (if t203 = true then ((laws_toImage.f k l3_0 l3_1).bind fun bt204 => ((laws_eqImage.f k t192 t195 bt204.1 bt204.2).bind fun t210 => (if t210 = true then (some true) else (some false)))) else (some false))) = some r := H
        have A20 := Aside0.mk A200
        clear A200
        replace H := Option.bind_eq_some_iff.mp H
        obtain ⟨t203, A210, H⟩ := H
        replace H : (if t203 = true then ((laws_toImage.f k l3_0 l3_1).bind fun bt204 => ((laws_eqImage.f k t192 t195 bt204.1 bt204.2).bind fun t210 => (if t210 = true then (some true) else (some false)))) else (some false)) = some r := H
        have A21 := Aside0.mk A210
        clear A210
        by_cases c22 : t203 = true
        · subst c22
          have H1 : ((laws_toImage.f k l3_0 l3_1).bind fun bt204 => ((laws_eqImage.f k t192 t195 bt204.1 bt204.2).bind fun t210 => (if t210 = true then (some true) else (some false)))) = some r := by rw [if_pos rfl] at H; exact H
          clear H
          have H := H1
          clear H1
          replace H := Option.bind_eq_some_iff.mp H
          obtain ⟨⟨t204, t207⟩, A230, H⟩ := H
          replace H : ((laws_eqImage.f k t192 t195 t204 t207).bind fun t210 => (if t210 = true then (some true) else (some false))) = some r := H
          have A23 := Aside0.mk A230
          clear A230
          replace H := Option.bind_eq_some_iff.mp H
          obtain ⟨t210, A240, H⟩ := H
          replace H : (if t210 = true then (some true) else (some false)) = some r := H
          have A24 := Aside0.mk A240
          clear A240
          by_cases c25 : t210 = true
          · subst c25
            have H1 : (some true) = some r := by rw [if_pos rfl] at H; exact H
            clear H
            have H := H1
            clear H1
            obtain rfl := Option.some.inj H
            go_enter Try.func7, Try.ntmps7
            try go_wp2_with (first | ((with_reducible refine gate_dst (N := 7) rfl ?_); refine box_event ?hg (N := 7) ?hd (cs := #[.slice A3_0 l3_0.length c3_0, .slice A3_1 l3_1.length c3_1]) (t := 25) ?hr ?_; (case hd => rfl); (case hg => rfl); (case hr => first | (go_simp; done) | (go_simp; rfl)); intro gb176 hg w26 hbox hb; have n0_ := Aside0.mk (below_step (by repeat (first | (with_reducible first | exact HB.out | apply below_alloc | apply pw_below_drewN | apply below_drew1) | exact HB.out)) hb); have n1_ := Aside0.mk (hbox); have n2_ := Aside0.mk ((by rw [hg]; exact (below_size (by repeat (first | (with_reducible first | exact HB.out | apply below_alloc | apply pw_below_drewN | apply below_drew1) | exact HB.out))) : w.heap.size ≤ gb176)); have n3_ := Aside0.mk ((by rw [hg]; exact (below_size (by repeat (first | (with_reducible first | exact HB.out | apply below_alloc | apply pw_below_drewN | apply below_drew1) | exact HB.out))) : w.heap.size ≤ gb176)); clear HB; have HB := n0_; have BK176 := n1_; have GW176 := n2_; have GE176 := n3_; clear n0_ n1_ n2_ n3_; clear hb hbox hg) | ((with_reducible refine gate_callee (f := 28) rfl ?_); refine goesL_ (some 16) rfl rfl Try.func28 (by kernel_rfl) rfl #[.slice A0 l0.length c0, .int .i64 1048576] rfl (by (try simp only [List.map_toArray, List.map_cons, List.map_nil]); first | done | rfl | (simp only [List.length_drop, List.length_take]; rfl)) ?_; (with_reducible refine (laws_szTransitionS.calls _ _ l0 1048576 t177 _ ?side1 ?side2 A5.out).mono ?_); (case side1 => repeat (first | exact (Kd.C_below HR0.out HB.out) | (with_reducible refine Kd.C_alloc ?_ _) | (with_reducible refine Kd.C_drewN ?_ _) | (with_reducible refine Kd.C_drew ?_))); (case side2 => exact HC0.out); rintro e w' ⟨rfl, ⟨nd, rfl⟩⟩; refine ⟨_, rfl, ?_⟩; (try (rw [drewN_self w26]; generalize hq_ : World.drewN w26 _ = w26; have n0_ : Aside0 (w26.heap[gb176]? = some (.cells #[.slice A3_0 l3_0.length c3_0, .slice A3_1 l3_1.length c3_1] 25 (0, 0))) := ⟨by rw [← hq_]; exact (by (with_reducible repeat (first | refine blk_drewN ?_ _ | refine blk_drew ?_ | refine blk_alloc ?_ _)); exact BK176.out)⟩; have n1_ : Aside0 (Below w.heap.size w w26) := ⟨by rw [← hq_]; exact (by repeat (first | (with_reducible first | exact HB.out | apply below_alloc | apply pw_below_drewN | apply below_drew1 | refine below_set ?_ GE176.out) | exact HB.out))⟩; clear BK176 HB hq_; have BK176 := n0_; have HB := n1_; clear n0_ n1_)); have hcz27_0 : w26.cell? ⟨gb176, 0, none⟩ = some (.slice A3_0 l3_0.length c3_0) := (blk_cell BK176.out 0).trans rfl; have hcz27_1 : w26.cell? ⟨gb176, 1, none⟩ = some (.slice A3_1 l3_1.length c3_1) := (blk_cell BK176.out 1).trans rfl; have hfz27_0 := blk_frozen BK176.out 0; have hfz27_1 := blk_frozen BK176.out 1) | ((with_reducible refine gate_callee (f := 8) rfl ?_); refine goesL_ (some 21) rfl rfl Try.func8 (by kernel_rfl) rfl #[.agg #[.slice A3_0 l3_0.length c3_0, .slice A3_1 l3_1.length c3_1], .int .i64 t177] rfl (by (try simp only [List.map_toArray, List.map_cons, List.map_nil]); first | done | rfl | (simp only [List.length_drop, List.length_take]; rfl)) ?_; (with_reducible refine (laws_szImage.calls _ _ l3_0 _ _ l3_1 t177 t178 _ ?side1 ?side2 ?side3 ?side4 A8.out).mono ?_); (case side1 => repeat (first | exact (Kd.C_below HR3_0.out HB.out) | (with_reducible refine Kd.C_alloc ?_ _) | (with_reducible refine Kd.C_drewN ?_ _) | (with_reducible refine Kd.C_drew ?_))); (case side2 => exact HC3_0.out); (case side3 => repeat (first | exact (Kd.C_below HR3_1.out HB.out) | (with_reducible refine Kd.C_alloc ?_ _) | (with_reducible refine Kd.C_drewN ?_ _) | (with_reducible refine Kd.C_drew ?_))); (case side4 => exact HC3_1.out); rintro e w28 ⟨rfl, hb⟩; refine ⟨_, rfl, ?_⟩; have n0_ := Aside0.mk (blk_below (g := gb176) (o := .cells #[.slice A3_0 l3_0.length c3_0, .slice A3_1 l3_1.length c3_1] 25 (0, 0)) (by (with_reducible repeat (first | refine blk_drewN ?_ _ | refine blk_drew ?_ | refine blk_alloc ?_ _)); exact BK176.out) hb); have n1_ := Aside0.mk (below_step (by repeat (first | (with_reducible first | exact HB.out | apply below_alloc | apply pw_below_drewN | apply below_drew1 | refine below_set ?_ GE176.out) | exact HB.out)) hb); clear BK176; clear HB; have BK176 := n0_; have HB := n1_; clear n0_ n1_; (try clear hb); (try clear hb2); (try clear hk); (try clear hi)))
            have n0_ := Aside0.mk (blk_drew BK176.out)
            have n1_ := Aside0.mk (below_drew1 HB.out)
            clear BK176
            clear HB
            have BK176 := n0_
            have HB := n1_
            clear n0_ n1_
            refine start_ (n := 8) (S := fun w' => w'.cell? ⟨gb176, 0, none⟩ = some (.slice A3_0 l3_0.length c3_0) ∧ w'.cell? ⟨gb176, 1, none⟩ = some (.slice A3_1 l3_1.length c3_1)) (ds := []) #[false, false, false, false, false, false, false, false] (by kernel_rfl) rfl rfl ⟨(blk_cell BK176.out 0).trans rfl, (blk_cell BK176.out 1).trans rfl⟩ (fun hHeld => ?_); refine with_tabW laws_FnExactStepChart.tab8 laws_FnExactStepChart.bits8 (fun HT_ HW_ => ?_)
            generalize w28.drew = w29 at BK176 HB hHeld ⊢
            refine pure_ (i := 0) (N := some 24) (v := ?_) (a' := ?_) #[true, false, false, false, false, false, false, false] rfl rfl (any_of HT_.out (by kernel_rfl)) (fun _ _ _ h => h) (Or.inl ⟨by rfl, ?_⟩) ?_ ?_
            rotate_left
            · intro w'
              go_simp
              with_reducible rfl
            rotate_left
            · simp only [Act.put, List.setIfInBounds_toArray, List.set_cons_zero, List.set_cons_succ, i64_w, i32_w]
              rfl
            refine pure_ (i := 2) (N := some 26) (v := ?_) (a' := ?_) #[true, false, true, false, false, false, false, false] rfl rfl (any_of HT_.out (by kernel_rfl)) (fun _ _ _ h => h) (Or.inl ⟨by rfl, ?_⟩) ?_ ?_
            rotate_left
            · intro w'
              go_simp
              with_reducible rfl
            rotate_left
            · simp only [Act.put, List.setIfInBounds_toArray, List.set_cons_zero, List.set_cons_succ, i64_w, i32_w]
              rfl
            refine pure_ (i := 3) (N := some 27) (v := ?_) (a' := ?_) #[true, false, true, true, false, false, false, false] rfl rfl (any_of HT_.out (by kernel_rfl)) (fun _ _ _ h => h) (Or.inl ⟨by rfl, ?_⟩) ?_ ?_
            rotate_left
            · intro w'
              go_simp
              with_reducible rfl
            rotate_left
            · simp only [Act.put, List.setIfInBounds_toArray, List.set_cons_zero, List.set_cons_succ, i64_w, i32_w]
              rfl
            refine take_ (i := 4) (N := some 28) (v := ?_) (a' := ?_) #[true, false, true, true, true, false, false, false] rfl rfl (take_ofW HT_.out HW_.out (by kernel_rfl)) (fun _ _ _ h => h) (Or.inl ⟨by rfl, ?_⟩) hHeld ?_ ?_
            rotate_left
            · rintro w' ⟨s0, s1⟩
              go_simp
              with_reducible rfl
            rotate_left
            · simp only [Act.put, List.setIfInBounds_toArray, List.set_cons_zero, List.set_cons_succ, i64_w, i32_w]
              rfl
            refine one_ (i := 1) (N := some 25) #[true, true, true, true, true, false, false, false] rfl rfl (one_of HT_.out (by kernel_rfl)) (by decide) (fun K hK => ?_)
            refine goes_ Try.func30 (by kernel_rfl) rfl #[.slice A0 l0.length c0] (by rfl) rfl rfl (by (try simp only [List.map_toArray, List.map_cons, List.map_nil]); first | done | rfl | (simp only [List.length_drop, List.length_take]; rfl)) ?_
            with_reducible refine (laws_toTransitionS.calls k _ _ l0 t179 _ ?side1 ?side2 A13.out).mono ?_
            (case side1 => repeat (first | exact (Kd.C_below HR0.out HB.out) | (with_reducible refine Kd.C_alloc ?_ _) | (with_reducible refine Kd.C_drewN ?_ _) | (with_reducible refine Kd.C_drew ?_)))
            (case side2 => exact HC0.out)
            rintro e w30 ⟨v180, rfl, ho0, hb⟩
            refine ⟨_, rfl, ?_⟩
            have n0_ := Aside0.mk (Kd.R_lower ho0 (below_size (by repeat (first | (with_reducible first | exact HB.out | apply below_alloc | apply pw_below_drewN | apply below_drew1 | refine below_set ?_ GE176.out) | exact HB.out))))
            have n1_ := Aside0.mk (blk_below (g := gb176) (o := .cells #[.slice A3_0 l3_0.length c3_0, .slice A3_1 l3_1.length c3_1] 25 (0, 0)) (by (with_reducible repeat (first | refine blk_drewN ?_ _ | refine blk_drew ?_ | refine blk_alloc ?_ _)); exact BK176.out) hb)
            have n2_ := Aside0.mk (below_step (by repeat (first | (with_reducible first | exact HB.out | apply below_alloc | apply pw_below_drewN | apply below_drew1 | refine below_set ?_ GE176.out) | exact HB.out)) hb)
            clear BK176
            clear HB
            have HO181 := n0_
            have BK176 := n1_
            have HB := n2_
            clear n0_ n1_ n2_
            (try clear hb)
            (try clear hb2)
            (try clear hk)
            (try clear hi)
            (try clear ho0)
            refine hK.out _ _ ⟨(blk_cell BK176.out 0).trans rfl, (blk_cell BK176.out 1).trans rfl⟩ (fun hHeld => ?_)
            clear hK K
            refine norm_ (a' := ?_) ?_ ?_
            rotate_left
            · show Act.put _ (some 25) _ = _
              simp only [Act.put, List.setIfInBounds_toArray, List.set_cons_zero, List.set_cons_succ, i64_w, i32_w]
              rfl
            refine one_ (i := 5) (N := some 29) #[true, true, true, true, true, true, false, false] rfl rfl (one_of HT_.out (by kernel_rfl)) (by decide) (fun K hK => ?_)
            refine goes_ Try.func10 (by kernel_rfl) rfl #[.agg #[.slice A3_0 l3_0.length c3_0, .slice A3_1 l3_1.length c3_1]] (by rfl) rfl rfl (by (try simp only [List.map_toArray, List.map_cons, List.map_nil]); first | done | rfl | (simp only [List.length_drop, List.length_take]; rfl)) ?_
            with_reducible refine (laws_toImage.calls k _ _ l3_0 _ _ l3_1 t182 t185 _ ?side1 ?side2 ?side3 ?side4 A14.out).mono ?_
            (case side1 => repeat (first | exact (Kd.C_below HR3_0.out HB.out) | (with_reducible refine Kd.C_alloc ?_ _) | (with_reducible refine Kd.C_drewN ?_ _) | (with_reducible refine Kd.C_drew ?_)))
            (case side2 => exact HC3_0.out)
            (case side3 => repeat (first | exact (Kd.C_below HR3_1.out HB.out) | (with_reducible refine Kd.C_alloc ?_ _) | (with_reducible refine Kd.C_drewN ?_ _) | (with_reducible refine Kd.C_drew ?_)))
            (case side4 => exact HC3_1.out)
            rintro e w31 ⟨v183, v186, rfl, ho0, ho1, hb⟩
            refine ⟨_, rfl, ?_⟩
            have n0_ := Aside0.mk (Kd.R_below (by (with_reducible repeat (first | apply Kd.R_alloc | apply Kd.R_drewN | apply Kd.R_drew)); exact HO181.out) hb)
            have n1_ := Aside0.mk (Kd.R_lower ho0 (below_size (by repeat (first | (with_reducible first | exact HB.out | apply below_alloc | apply pw_below_drewN | apply below_drew1 | refine below_set ?_ GE176.out) | exact HB.out))))
            have n2_ := Aside0.mk (Kd.R_lower ho1 (below_size (by repeat (first | (with_reducible first | exact HB.out | apply below_alloc | apply pw_below_drewN | apply below_drew1 | refine below_set ?_ GE176.out) | exact HB.out))))
            have n3_ := Aside0.mk (blk_below (g := gb176) (o := .cells #[.slice A3_0 l3_0.length c3_0, .slice A3_1 l3_1.length c3_1] 25 (0, 0)) (by (with_reducible repeat (first | refine blk_drewN ?_ _ | refine blk_drew ?_ | refine blk_alloc ?_ _)); exact BK176.out) hb)
            have n4_ := Aside0.mk (below_step (by repeat (first | (with_reducible first | exact HB.out | apply below_alloc | apply pw_below_drewN | apply below_drew1 | refine below_set ?_ GE176.out) | exact HB.out)) hb)
            clear HO181
            clear BK176
            clear HB
            have HO181 := n0_
            have HO184 := n1_
            have HO187 := n2_
            have BK176 := n3_
            have HB := n4_
            clear n0_ n1_ n2_ n3_ n4_
            (try clear hb)
            (try clear hb2)
            (try clear hk)
            (try clear hi)
            (try clear ho0)
            (try clear ho1)
            obtain ⟨Ao32, co32, eo32⟩ := Kd.R_slice HO181.out
            (first | subst eo32 | (injection eo32 with f1_ f2_ f3_; have f4_ := f1_.symm; have f5_ := f3_.symm; clear f1_ f2_ f3_; subst f4_; subst f5_))
            obtain ⟨Ao33, co33, eo33⟩ := Kd.R_slice HO184.out
            (first | subst eo33 | (injection eo33 with f1_ f2_ f3_; have f4_ := f1_.symm; have f5_ := f3_.symm; clear f1_ f2_ f3_; subst f4_; subst f5_))
            obtain ⟨Ao34, co34, eo34⟩ := Kd.R_slice HO187.out
            (first | subst eo34 | (injection eo34 with f1_ f2_ f3_; have f4_ := f1_.symm; have f5_ := f3_.symm; clear f1_ f2_ f3_; subst f4_; subst f5_))
            refine hK.out _ _ ⟨(blk_cell BK176.out 0).trans rfl, (blk_cell BK176.out 1).trans rfl⟩ (fun hHeld => ?_)
            clear hK K
            refine norm_ (a' := ?_) ?_ ?_
            rotate_left
            · show Act.put _ (some 29) _ = _
              simp only [Act.put, List.setIfInBounds_toArray, List.set_cons_zero, List.set_cons_succ, i64_w, i32_w]
              rfl
            refine one_ (i := 6) (N := some 30) #[true, true, true, true, true, true, true, false] rfl rfl (one_of HT_.out (by kernel_rfl)) (by decide) (fun K hK => ?_)
            refine goes_ Try.func29 (by kernel_rfl) rfl #[.slice Ao32 t179.length co32, .int .i64 a1, .int .i64 a2, .agg #[.slice Ao33 t182.length co33, .slice Ao34 t185.length co34]] (by rfl) rfl rfl (by (try simp only [List.map_toArray, List.map_cons, List.map_nil]); first | done | rfl | (simp only [List.length_drop, List.length_take]; rfl)) ?_
            with_reducible refine (spec_StepChart.calls k _ _ t179 a1 a2 _ _ t182 _ _ t185 t188 _ ?side1 ?side2 ?side3 ?side4 ?side5 ?side6 A15.out).mono ?_
            (case side1 => repeat (first | exact (Kd.R_reads' HO181.out).2.2 | (with_reducible refine Kd.C_alloc ?_ _) | (with_reducible refine Kd.C_drewN ?_ _) | (with_reducible refine Kd.C_drew ?_)))
            (case side2 => exact (Kd.R_reads' HO181.out).2.1)
            (case side3 => repeat (first | exact (Kd.R_reads' HO184.out).2.2 | (with_reducible refine Kd.C_alloc ?_ _) | (with_reducible refine Kd.C_drewN ?_ _) | (with_reducible refine Kd.C_drew ?_)))
            (case side4 => exact (Kd.R_reads' HO184.out).2.1)
            (case side5 => repeat (first | exact (Kd.R_reads' HO187.out).2.2 | (with_reducible refine Kd.C_alloc ?_ _) | (with_reducible refine Kd.C_drewN ?_ _) | (with_reducible refine Kd.C_drew ?_)))
            (case side6 => exact (Kd.R_reads' HO187.out).2.1)
            rintro e w35 ⟨rfl, hb⟩
            refine ⟨_, rfl, ?_⟩
            have n0_ := Aside0.mk (Kd.R_below (by (with_reducible repeat (first | apply Kd.R_alloc | apply Kd.R_drewN | apply Kd.R_drew)); exact HO181.out) hb)
            have n1_ := Aside0.mk (Kd.R_below (by (with_reducible repeat (first | apply Kd.R_alloc | apply Kd.R_drewN | apply Kd.R_drew)); exact HO184.out) hb)
            have n2_ := Aside0.mk (Kd.R_below (by (with_reducible repeat (first | apply Kd.R_alloc | apply Kd.R_drewN | apply Kd.R_drew)); exact HO187.out) hb)
            have n3_ := Aside0.mk (blk_below (g := gb176) (o := .cells #[.slice A3_0 l3_0.length c3_0, .slice A3_1 l3_1.length c3_1] 25 (0, 0)) (by (with_reducible repeat (first | refine blk_drewN ?_ _ | refine blk_drew ?_ | refine blk_alloc ?_ _)); exact BK176.out) hb)
            have n4_ := Aside0.mk (below_step (by repeat (first | (with_reducible first | exact HB.out | apply below_alloc | apply pw_below_drewN | apply below_drew1 | refine below_set ?_ GE176.out) | exact HB.out)) hb)
            clear HO181
            clear HO184
            clear HO187
            clear BK176
            clear HB
            have HO181 := n0_
            have HO184 := n1_
            have HO187 := n2_
            have BK176 := n3_
            have HB := n4_
            clear n0_ n1_ n2_ n3_ n4_
            (try clear hb)
            (try clear hb2)
            (try clear hk)
            (try clear hi)
            refine hK.out _ _ ⟨(blk_cell BK176.out 0).trans rfl, (blk_cell BK176.out 1).trans rfl⟩ (fun hHeld => ?_)
            clear hK K
            refine norm_ (a' := ?_) ?_ ?_
            rotate_left
            · show Act.put _ (some 30) _ = _
              simp only [Act.put, List.setIfInBounds_toArray, List.set_cons_zero, List.set_cons_succ, i64_w, i32_w]
              rfl
            refine pure_ (i := 7) (N := some 10) (v := ?_) (a' := ?_) #[true, true, true, true, true, true, true, true] rfl rfl (any_of HT_.out (by kernel_rfl)) (fun _ _ _ h => h) (Or.inl ⟨by rfl, ?_⟩) ?_ ?_
            rotate_left
            · intro w'
              go_simp
              with_reducible rfl
            rotate_left
            · simp only [Act.put, List.setIfInBounds_toArray, List.set_cons_zero, List.set_cons_succ, i64_w, i32_w]
              rfl
            refine done_ (done_of HT_.out (by kernel_rfl)) ?_
            try go_wp2_with (first | ((with_reducible refine gate_callee (f := 30) rfl ?_); refine goesL_ (some 32) rfl rfl Try.func30 (by kernel_rfl) rfl #[.slice A0 l0.length c0] rfl (by (try simp only [List.map_toArray, List.map_cons, List.map_nil]); first | done | rfl | (simp only [List.length_drop, List.length_take]; rfl)) ?_; (with_reducible refine (laws_toTransitionS.calls k _ _ l0 t189 _ ?side1 ?side2 A16.out).mono ?_); (case side1 => repeat (first | exact (Kd.C_below HR0.out HB.out) | (with_reducible refine Kd.C_alloc ?_ _) | (with_reducible refine Kd.C_drewN ?_ _) | (with_reducible refine Kd.C_drew ?_))); (case side2 => exact HC0.out); rintro e w36 ⟨v190, rfl, ho0, hb⟩; refine ⟨_, rfl, ?_⟩; have n0_ := Aside0.mk (Kd.R_elder' (by (with_reducible repeat (first | apply Kd.R_alloc | apply Kd.R_drewN | apply Kd.R_drew)); exact HO181.out) (Kd.R_base ho0) hb); have n1_ := Aside0.mk (Kd.R_below (by (with_reducible repeat (first | apply Kd.R_alloc | apply Kd.R_drewN | apply Kd.R_drew)); exact HO184.out) hb); have n2_ := Aside0.mk (Kd.R_below (by (with_reducible repeat (first | apply Kd.R_alloc | apply Kd.R_drewN | apply Kd.R_drew)); exact HO187.out) hb); have n3_ := Aside0.mk (Kd.R_lower (Kd.R_new' ho0 (Kd.R_lt (by (with_reducible repeat (first | apply Kd.R_alloc | apply Kd.R_drewN | apply Kd.R_drew)); exact HO181.out))) (below_size (by repeat (first | (with_reducible first | exact HB.out | apply below_alloc | apply pw_below_drewN | apply below_drew1 | refine below_set ?_ GE176.out) | exact HB.out)))); have n4_ := Aside0.mk (blk_below (g := gb176) (o := .cells #[.slice A3_0 l3_0.length c3_0, .slice A3_1 l3_1.length c3_1] 25 (0, 0)) (by (with_reducible repeat (first | refine blk_drewN ?_ _ | refine blk_drew ?_ | refine blk_alloc ?_ _)); exact BK176.out) hb); have n5_ := Aside0.mk (below_step (by repeat (first | (with_reducible first | exact HB.out | apply below_alloc | apply pw_below_drewN | apply below_drew1 | refine below_set ?_ GE176.out) | exact HB.out)) hb); clear HO181; clear HO184; clear HO187; clear BK176; clear HB; have HO181 := n0_; have HO184 := n1_; have HO187 := n2_; have HO191 := n3_; have BK176 := n4_; have HB := n5_; clear n0_ n1_ n2_ n3_ n4_ n5_; (try clear hb); (try clear hb2); (try clear hk); (try clear hi); (try clear ho0); have hcz37_0 : w36.cell? ⟨gb176, 0, none⟩ = some (.slice A3_0 l3_0.length c3_0) := (blk_cell BK176.out 0).trans rfl; have hcz37_1 : w36.cell? ⟨gb176, 1, none⟩ = some (.slice A3_1 l3_1.length c3_1) := (blk_cell BK176.out 1).trans rfl; have hfz37_0 := blk_frozen BK176.out 0; have hfz37_1 := blk_frozen BK176.out 1) | ((with_reducible refine gate_callee (f := 10) rfl ?_); refine goesL_ (some 34) rfl rfl Try.func10 (by kernel_rfl) rfl #[.agg #[.slice A3_0 l3_0.length c3_0, .slice A3_1 l3_1.length c3_1]] rfl (by (try simp only [List.map_toArray, List.map_cons, List.map_nil]); first | done | rfl | (simp only [List.length_drop, List.length_take]; rfl)) ?_; (with_reducible refine (laws_toImage.calls k _ _ l3_0 _ _ l3_1 t192 t195 _ ?side1 ?side2 ?side3 ?side4 A17.out).mono ?_); (case side1 => repeat (first | exact (Kd.C_below HR3_0.out HB.out) | (with_reducible refine Kd.C_alloc ?_ _) | (with_reducible refine Kd.C_drewN ?_ _) | (with_reducible refine Kd.C_drew ?_))); (case side2 => exact HC3_0.out); (case side3 => repeat (first | exact (Kd.C_below HR3_1.out HB.out) | (with_reducible refine Kd.C_alloc ?_ _) | (with_reducible refine Kd.C_drewN ?_ _) | (with_reducible refine Kd.C_drew ?_))); (case side4 => exact HC3_1.out); rintro e w38 ⟨v193, v196, rfl, ho0, ho1, hb⟩; refine ⟨_, rfl, ?_⟩; have n0_ := Aside0.mk (Kd.R_below (by (with_reducible repeat (first | apply Kd.R_alloc | apply Kd.R_drewN | apply Kd.R_drew)); exact HO181.out) hb); have n1_ := Aside0.mk (Kd.R_elder' (by (with_reducible repeat (first | apply Kd.R_alloc | apply Kd.R_drewN | apply Kd.R_drew)); exact HO184.out) (Kd.R_base ho0) hb); have n2_ := Aside0.mk (Kd.R_elder' (by (with_reducible repeat (first | apply Kd.R_alloc | apply Kd.R_drewN | apply Kd.R_drew)); exact HO187.out) (Kd.R_base ho1) hb); have n3_ := Aside0.mk (Kd.R_below (by (with_reducible repeat (first | apply Kd.R_alloc | apply Kd.R_drewN | apply Kd.R_drew)); exact HO191.out) hb); have n4_ := Aside0.mk (Kd.R_lower (Kd.R_new' ho0 (Kd.R_lt (by (with_reducible repeat (first | apply Kd.R_alloc | apply Kd.R_drewN | apply Kd.R_drew)); exact HO184.out))) (below_size (by repeat (first | (with_reducible first | exact HB.out | apply below_alloc | apply pw_below_drewN | apply below_drew1 | refine below_set ?_ GE176.out) | exact HB.out)))); have n5_ := Aside0.mk (Kd.R_lower (Kd.R_new' ho1 (Kd.R_lt (by (with_reducible repeat (first | apply Kd.R_alloc | apply Kd.R_drewN | apply Kd.R_drew)); exact HO187.out))) (below_size (by repeat (first | (with_reducible first | exact HB.out | apply below_alloc | apply pw_below_drewN | apply below_drew1 | refine below_set ?_ GE176.out) | exact HB.out)))); have n6_ := Aside0.mk (blk_below (g := gb176) (o := .cells #[.slice A3_0 l3_0.length c3_0, .slice A3_1 l3_1.length c3_1] 25 (0, 0)) (by (with_reducible repeat (first | refine blk_drewN ?_ _ | refine blk_drew ?_ | refine blk_alloc ?_ _)); exact BK176.out) hb); have n7_ := Aside0.mk (below_step (by repeat (first | (with_reducible first | exact HB.out | apply below_alloc | apply pw_below_drewN | apply below_drew1 | refine below_set ?_ GE176.out) | exact HB.out)) hb); clear HO181; clear HO184; clear HO187; clear HO191; clear BK176; clear HB; have HO181 := n0_; have HO184 := n1_; have HO187 := n2_; have HO191 := n3_; have HO194 := n4_; have HO197 := n5_; have BK176 := n6_; have HB := n7_; clear n0_ n1_ n2_ n3_ n4_ n5_ n6_ n7_; (try clear hb); (try clear hb2); (try clear hk); (try clear hi); (try clear ho0); (try clear ho1)) | ((with_reducible refine gate_dst (N := 12) rfl ?_); refine box_event ?hg (N := 12) ?hd (cs := #[.slice none 0 0, .slice none 0 0]) (t := 27) ?hr ?_; (case hd => rfl); (case hg => rfl); (case hr => first | (go_simp; done) | (go_simp; rfl)); intro gb198 hg w39 hbox hb; have n0_ := Aside0.mk (Kd.R_below (by (with_reducible repeat (first | apply Kd.R_alloc | apply Kd.R_drewN | apply Kd.R_drew)); exact HO181.out) hb); have n1_ := Aside0.mk (Kd.R_below (by (with_reducible repeat (first | apply Kd.R_alloc | apply Kd.R_drewN | apply Kd.R_drew)); exact HO184.out) hb); have n2_ := Aside0.mk (Kd.R_below (by (with_reducible repeat (first | apply Kd.R_alloc | apply Kd.R_drewN | apply Kd.R_drew)); exact HO187.out) hb); have n3_ := Aside0.mk (Kd.R_below (by (with_reducible repeat (first | apply Kd.R_alloc | apply Kd.R_drewN | apply Kd.R_drew)); exact HO191.out) hb); have n4_ := Aside0.mk (Kd.R_below (by (with_reducible repeat (first | apply Kd.R_alloc | apply Kd.R_drewN | apply Kd.R_drew)); exact HO194.out) hb); have n5_ := Aside0.mk (Kd.R_below (by (with_reducible repeat (first | apply Kd.R_alloc | apply Kd.R_drewN | apply Kd.R_drew)); exact HO197.out) hb); have n6_ := Aside0.mk (blk_below (g := gb176) (o := .cells #[.slice A3_0 l3_0.length c3_0, .slice A3_1 l3_1.length c3_1] 25 (0, 0)) (by (with_reducible repeat (first | refine blk_drewN ?_ _ | refine blk_drew ?_ | refine blk_alloc ?_ _)); exact BK176.out) hb); have n7_ := Aside0.mk (below_step (by repeat (first | (with_reducible first | exact HB.out | apply below_alloc | apply pw_below_drewN | apply below_drew1 | refine below_set ?_ GE176.out) | exact HB.out)) hb); have n8_ := Aside0.mk (hbox); have n9_ := Aside0.mk ((by rw [hg]; exact (below_size (by repeat (first | (with_reducible first | exact HB.out | apply below_alloc | apply pw_below_drewN | apply below_drew1 | refine below_set ?_ GE176.out) | exact HB.out))) : w.heap.size ≤ gb198)); have n10_ := Aside0.mk ((by rw [hg]; exact (below_size (by repeat (first | (with_reducible first | exact HB.out | apply below_alloc | apply pw_below_drewN | apply below_drew1 | refine below_set ?_ GE176.out) | exact HB.out))) : w.heap.size ≤ gb198)); have n11_ := Aside0.mk ((by rw [hg]; exact Nat.ne_of_lt (blk_lt (g := gb176) (o := .cells #[.slice A3_0 l3_0.length c3_0, .slice A3_1 l3_1.length c3_1] 25 (0, 0)) (by (with_reducible repeat (first | refine blk_drewN ?_ _ | refine blk_drew ?_ | refine blk_alloc ?_ _)); exact BK176.out)) : gb176 ≠ gb198)); have n12_ := Aside0.mk ((by rw [hg]; exact Nat.ne_of_gt (blk_lt (g := gb176) (o := .cells #[.slice A3_0 l3_0.length c3_0, .slice A3_1 l3_1.length c3_1] 25 (0, 0)) (by (with_reducible repeat (first | refine blk_drewN ?_ _ | refine blk_drew ?_ | refine blk_alloc ?_ _)); exact BK176.out)) : gb198 ≠ gb176)); clear HO181; clear HO184; clear HO187; clear HO191; clear HO194; clear HO197; clear BK176; clear HB; have HO181 := n0_; have HO184 := n1_; have HO187 := n2_; have HO191 := n3_; have HO194 := n4_; have HO197 := n5_; have BK176 := n6_; have HB := n7_; have BK198 := n8_; have GW198 := n9_; have GE198 := n10_; have NB176_198 := n11_; have NB198_176 := n12_; clear n0_ n1_ n2_ n3_ n4_ n5_ n6_ n7_ n8_ n9_ n10_ n11_ n12_; clear hb hbox hg; obtain ⟨Ao40, co40, eo40⟩ := Kd.R_slice HO194.out; subst eo40; have hnb41 := NB198_176.out; have hnc41 := NB176_198.out; have hcz42_0 : w39.cell? ⟨gb198, 0, none⟩ = some (.slice none 0 0) := (blk_cell BK198.out 0).trans rfl; have hcz42_1 : w39.cell? ⟨gb198, 1, none⟩ = some (.slice none 0 0) := (blk_cell BK198.out 1).trans rfl; have hfz42_0 := blk_frozen BK198.out 0; have hfz42_1 := blk_frozen BK198.out 1; obtain ⟨Ao43, co43, eo43⟩ := Kd.R_slice HO197.out; subst eo43; obtain ⟨Ao44, co44, eo44⟩ := Kd.R_slice HO191.out; subst eo44) | ((with_reducible refine gate_callee (f := 31) rfl ?_); refine goesL_ (some 39) rfl rfl Try.func31 (by kernel_rfl) rfl #[.slice Ao44 t189.length co44, .int .i64 a1, .int .i64 a2, .agg #[.slice Ao40 t192.length co40, .slice Ao43 t195.length co43]] rfl (by (try simp only [List.map_toArray, List.map_cons, List.map_nil]); first | done | rfl | (simp only [List.length_drop, List.length_take]; rfl)) ?_; (with_reducible refine (impl_StepChart.calls k _ _ t189 a1 a2 _ _ t192 _ _ t195 t199 _ ?side1 ?side2 ?side3 ?side4 ?side5 ?side6 A18.out).mono ?_); (case side1 => refine (Kd.R_reads' (e := 75) (base := w.heap.size) (ok := fun k_ => (True ∧ some k_ ≠ (.slice Ao32 t179.length co32 : Value).ownBlock)) (n := t189.length) (c := co44) ?_).2.2; exact (by (with_reducible repeat (first | apply Kd.R_alloc | apply Kd.R_drewN | apply Kd.R_drew)); exact (Kd.R_mono (Kd.R_far (p := ⟨gb198, 1, none⟩) (Kd.R_far (p := ⟨gb198, 0, none⟩) (Kd.R_types HO191.out BK198.out (by decide)) (fun _ hk => by first | exact hk.2 | exact trivial) (.slice Ao40 t192.length co40)) (fun _ hk => by first | exact hk.2 | exact trivial) (.slice Ao43 t195.length co43)) (fun _ h_ => h_.1)))); (case side2 => exact (Kd.R_reads' HO191.out).2.1); (case side3 => refine (Kd.R_reads' (e := 4) (base := w.heap.size) (ok := fun k_ => (True ∧ some k_ ≠ (.slice Ao33 t182.length co33 : Value).ownBlock)) (n := t192.length) (c := co40) ?_).2.2; exact (by (with_reducible repeat (first | apply Kd.R_alloc | apply Kd.R_drewN | apply Kd.R_drew)); exact (Kd.R_mono (Kd.R_far (p := ⟨gb198, 1, none⟩) (Kd.R_far (p := ⟨gb198, 0, none⟩) (Kd.R_types HO194.out BK198.out (by decide)) (fun _ hk => by first | exact hk.2 | exact trivial) (.slice Ao40 t192.length co40)) (fun _ hk => by first | exact hk.2 | exact trivial) (.slice Ao43 t195.length co43)) (fun _ h_ => h_.1)))); (case side4 => exact (Kd.R_reads' HO194.out).2.1); (case side5 => refine (Kd.R_reads' (e := 3) (base := w.heap.size) (ok := fun k_ => (True ∧ some k_ ≠ (.slice Ao34 t185.length co34 : Value).ownBlock)) (n := t195.length) (c := co43) ?_).2.2; exact (by (with_reducible repeat (first | apply Kd.R_alloc | apply Kd.R_drewN | apply Kd.R_drew)); exact (Kd.R_mono (Kd.R_far (p := ⟨gb198, 1, none⟩) (Kd.R_far (p := ⟨gb198, 0, none⟩) (Kd.R_types HO197.out BK198.out (by decide)) (fun _ hk => by first | exact hk.2 | exact trivial) (.slice Ao40 t192.length co40)) (fun _ hk => by first | exact hk.2 | exact trivial) (.slice Ao43 t195.length co43)) (fun _ h_ => h_.1)))); (case side6 => exact (Kd.R_reads' HO197.out).2.1); rintro e w45 ⟨rfl, hb⟩; refine ⟨_, rfl, ?_⟩; have n0_ := Aside0.mk (Kd.R_below (by (with_reducible repeat (first | apply Kd.R_alloc | apply Kd.R_drewN | apply Kd.R_drew)); exact (Kd.R_mono (Kd.R_far (p := ⟨gb198, 1, none⟩) (Kd.R_far (p := ⟨gb198, 0, none⟩) (Kd.R_types HO181.out BK198.out (by decide)) (fun _ hk => by first | exact hk.2 | exact trivial) (.slice Ao40 t192.length co40)) (fun _ hk => by first | exact hk.2 | exact trivial) (.slice Ao43 t195.length co43)) (fun _ h_ => h_.1))) hb); have n1_ := Aside0.mk (Kd.R_below (by (with_reducible repeat (first | apply Kd.R_alloc | apply Kd.R_drewN | apply Kd.R_drew)); exact (Kd.R_mono (Kd.R_far (p := ⟨gb198, 1, none⟩) (Kd.R_far (p := ⟨gb198, 0, none⟩) (Kd.R_types HO184.out BK198.out (by decide)) (fun _ hk => by first | exact hk.2 | exact trivial) (.slice Ao40 t192.length co40)) (fun _ hk => by first | exact hk.2 | exact trivial) (.slice Ao43 t195.length co43)) (fun _ h_ => h_.1))) hb); have n2_ := Aside0.mk (Kd.R_below (by (with_reducible repeat (first | apply Kd.R_alloc | apply Kd.R_drewN | apply Kd.R_drew)); exact (Kd.R_mono (Kd.R_far (p := ⟨gb198, 1, none⟩) (Kd.R_far (p := ⟨gb198, 0, none⟩) (Kd.R_types HO187.out BK198.out (by decide)) (fun _ hk => by first | exact hk.2 | exact trivial) (.slice Ao40 t192.length co40)) (fun _ hk => by first | exact hk.2 | exact trivial) (.slice Ao43 t195.length co43)) (fun _ h_ => h_.1))) hb); have n3_ := Aside0.mk (Kd.R_below (by (with_reducible repeat (first | apply Kd.R_alloc | apply Kd.R_drewN | apply Kd.R_drew)); exact (Kd.R_mono (Kd.R_far (p := ⟨gb198, 1, none⟩) (Kd.R_far (p := ⟨gb198, 0, none⟩) (Kd.R_types HO191.out BK198.out (by decide)) (fun _ hk => by first | exact hk.2 | exact trivial) (.slice Ao40 t192.length co40)) (fun _ hk => by first | exact hk.2 | exact trivial) (.slice Ao43 t195.length co43)) (fun _ h_ => h_.1))) hb); have n4_ := Aside0.mk (Kd.R_below (by (with_reducible repeat (first | apply Kd.R_alloc | apply Kd.R_drewN | apply Kd.R_drew)); exact (Kd.R_mono (Kd.R_far (p := ⟨gb198, 1, none⟩) (Kd.R_far (p := ⟨gb198, 0, none⟩) (Kd.R_types HO194.out BK198.out (by decide)) (fun _ hk => by first | exact hk.2 | exact trivial) (.slice Ao40 t192.length co40)) (fun _ hk => by first | exact hk.2 | exact trivial) (.slice Ao43 t195.length co43)) (fun _ h_ => h_.1))) hb); have n5_ := Aside0.mk (Kd.R_below (by (with_reducible repeat (first | apply Kd.R_alloc | apply Kd.R_drewN | apply Kd.R_drew)); exact (Kd.R_mono (Kd.R_far (p := ⟨gb198, 1, none⟩) (Kd.R_far (p := ⟨gb198, 0, none⟩) (Kd.R_types HO197.out BK198.out (by decide)) (fun _ hk => by first | exact hk.2 | exact trivial) (.slice Ao40 t192.length co40)) (fun _ hk => by first | exact hk.2 | exact trivial) (.slice Ao43 t195.length co43)) (fun _ h_ => h_.1))) hb); have n6_ := Aside0.mk (blk_below (g := gb176) (o := .cells #[.slice A3_0 l3_0.length c3_0, .slice A3_1 l3_1.length c3_1] 25 (0, 0)) (by (with_reducible repeat (first | refine blk_drewN ?_ _ | refine blk_drew ?_ | refine blk_alloc ?_ _)); refine blk_far ?_ NB176_198.out _; (with_reducible repeat (first | refine blk_drewN ?_ _ | refine blk_drew ?_ | refine blk_alloc ?_ _)); refine blk_far ?_ NB176_198.out _; (with_reducible repeat (first | refine blk_drewN ?_ _ | refine blk_drew ?_ | refine blk_alloc ?_ _)); exact BK176.out) hb); have n7_ := Aside0.mk (blk_below (g := gb198) (o := .cells #[.slice Ao40 t192.length co40, .slice Ao43 t195.length co43] 27 (0, 0)) (by (with_reducible repeat (first | refine blk_drewN ?_ _ | refine blk_drew ?_ | refine blk_alloc ?_ _)); refine blk_put (cs := #[.slice Ao40 t192.length co40, .slice none 0 0]) ?_ 1 _ rfl; (with_reducible repeat (first | refine blk_drewN ?_ _ | refine blk_drew ?_ | refine blk_alloc ?_ _)); refine blk_put (cs := #[.slice none 0 0, .slice none 0 0]) ?_ 0 _ rfl; (with_reducible repeat (first | refine blk_drewN ?_ _ | refine blk_drew ?_ | refine blk_alloc ?_ _)); exact BK198.out) hb); have n8_ := Aside0.mk (below_step (by repeat (first | (with_reducible first | exact HB.out | apply below_alloc | apply pw_below_drewN | apply below_drew1 | refine below_set ?_ GE176.out | refine below_set ?_ GE198.out) | exact HB.out)) hb); clear HO181; clear HO184; clear HO187; clear HO191; clear HO194; clear HO197; clear BK176; clear BK198; clear HB; have HO181 := n0_; have HO184 := n1_; have HO187 := n2_; have HO191 := n3_; have HO194 := n4_; have HO197 := n5_; have BK176 := n6_; have BK198 := n7_; have HB := n8_; clear n0_ n1_ n2_ n3_ n4_ n5_ n6_ n7_ n8_; (try clear hb); (try clear hb2); (try clear hk); (try clear hi)) | ((with_reducible refine gate_callee (f := 30) rfl ?_); refine goesL_ (some 45) rfl rfl Try.func30 (by kernel_rfl) rfl #[.slice A0 l0.length c0] rfl (by (try simp only [List.map_toArray, List.map_cons, List.map_nil]); first | done | rfl | (simp only [List.length_drop, List.length_take]; rfl)) ?_; (with_reducible refine (laws_toTransitionS.calls k _ _ l0 t200 _ ?side1 ?side2 A20.out).mono ?_); (case side1 => repeat (first | exact (Kd.C_below HR0.out HB.out) | (with_reducible refine Kd.C_alloc ?_ _) | (with_reducible refine Kd.C_drewN ?_ _) | (with_reducible refine Kd.C_drew ?_))); (case side2 => exact HC0.out); rintro e w46 ⟨v201, rfl, ho0, hb⟩; refine ⟨_, rfl, ?_⟩; have n0_ := Aside0.mk (Kd.R_elder' (by (with_reducible repeat (first | apply Kd.R_alloc | apply Kd.R_drewN | apply Kd.R_drew)); exact HO181.out) (Kd.R_base ho0) hb); have n1_ := Aside0.mk (Kd.R_below (by (with_reducible repeat (first | apply Kd.R_alloc | apply Kd.R_drewN | apply Kd.R_drew)); exact HO184.out) hb); have n2_ := Aside0.mk (Kd.R_below (by (with_reducible repeat (first | apply Kd.R_alloc | apply Kd.R_drewN | apply Kd.R_drew)); exact HO187.out) hb); have n3_ := Aside0.mk (Kd.R_elder' (by (with_reducible repeat (first | apply Kd.R_alloc | apply Kd.R_drewN | apply Kd.R_drew)); exact HO191.out) (Kd.R_base ho0) hb); have n4_ := Aside0.mk (Kd.R_below (by (with_reducible repeat (first | apply Kd.R_alloc | apply Kd.R_drewN | apply Kd.R_drew)); exact HO194.out) hb); have n5_ := Aside0.mk (Kd.R_below (by (with_reducible repeat (first | apply Kd.R_alloc | apply Kd.R_drewN | apply Kd.R_drew)); exact HO197.out) hb); have n6_ := Aside0.mk (Kd.R_lower (Kd.R_new' (Kd.R_new' ho0 (Kd.R_lt (by (with_reducible repeat (first | apply Kd.R_alloc | apply Kd.R_drewN | apply Kd.R_drew)); exact HO181.out))) (Kd.R_lt (by (with_reducible repeat (first | apply Kd.R_alloc | apply Kd.R_drewN | apply Kd.R_drew)); exact HO191.out))) (below_size (by repeat (first | (with_reducible first | exact HB.out | apply below_alloc | apply pw_below_drewN | apply below_drew1 | refine below_set ?_ GE176.out | refine below_set ?_ GE198.out) | exact HB.out)))); have n7_ := Aside0.mk (blk_below (g := gb176) (o := .cells #[.slice A3_0 l3_0.length c3_0, .slice A3_1 l3_1.length c3_1] 25 (0, 0)) (by (with_reducible repeat (first | refine blk_drewN ?_ _ | refine blk_drew ?_ | refine blk_alloc ?_ _)); exact BK176.out) hb); have n8_ := Aside0.mk (blk_below (g := gb198) (o := .cells #[.slice Ao40 t192.length co40, .slice Ao43 t195.length co43] 27 (0, 0)) (by (with_reducible repeat (first | refine blk_drewN ?_ _ | refine blk_drew ?_ | refine blk_alloc ?_ _)); exact BK198.out) hb); have n9_ := Aside0.mk (below_step (by repeat (first | (with_reducible first | exact HB.out | apply below_alloc | apply pw_below_drewN | apply below_drew1 | refine below_set ?_ GE176.out | refine below_set ?_ GE198.out) | exact HB.out)) hb); clear HO181; clear HO184; clear HO187; clear HO191; clear HO194; clear HO197; clear BK176; clear BK198; clear HB; have HO181 := n0_; have HO184 := n1_; have HO187 := n2_; have HO191 := n3_; have HO194 := n4_; have HO197 := n5_; have HO202 := n6_; have BK176 := n7_; have BK198 := n8_; have HB := n9_; clear n0_ n1_ n2_ n3_ n4_ n5_ n6_ n7_ n8_ n9_; (try clear hb); (try clear hb2); (try clear hk); (try clear hi); (try clear ho0); obtain ⟨Ao47, co47, eo47⟩ := Kd.R_slice HO202.out; subst eo47) | ((with_reducible refine gate_callee (f := 32) rfl ?_); refine goesL_ (some 46) rfl rfl Try.func32 (by kernel_rfl) rfl #[.slice Ao44 t189.length co44, .slice Ao47 t200.length co47] rfl (by (try simp only [List.map_toArray, List.map_cons, List.map_nil]); first | done | rfl | (simp only [List.length_drop, List.length_take]; rfl)) ?_; (with_reducible refine (laws_eqTransitionS.calls k _ _ t189 _ _ t200 true _ ?side1 ?side2 ?side3 ?side4 A21.out).mono ?_); (case side1 => repeat (first | exact (Kd.R_reads' HO191.out).2.2 | (with_reducible refine Kd.C_alloc ?_ _) | (with_reducible refine Kd.C_drewN ?_ _) | (with_reducible refine Kd.C_drew ?_))); (case side2 => exact (Kd.R_reads' HO191.out).2.1); (case side3 => repeat (first | exact (Kd.R_reads' HO202.out).2.2 | (with_reducible refine Kd.C_alloc ?_ _) | (with_reducible refine Kd.C_drewN ?_ _) | (with_reducible refine Kd.C_drew ?_))); (case side4 => exact (Kd.R_reads' HO202.out).2.1); rintro e w48 ⟨rfl, hb⟩; refine ⟨_, rfl, ?_⟩; have n0_ := Aside0.mk (Kd.R_below (by (with_reducible repeat (first | apply Kd.R_alloc | apply Kd.R_drewN | apply Kd.R_drew)); exact HO181.out) hb); have n1_ := Aside0.mk (Kd.R_below (by (with_reducible repeat (first | apply Kd.R_alloc | apply Kd.R_drewN | apply Kd.R_drew)); exact HO184.out) hb); have n2_ := Aside0.mk (Kd.R_below (by (with_reducible repeat (first | apply Kd.R_alloc | apply Kd.R_drewN | apply Kd.R_drew)); exact HO187.out) hb); have n3_ := Aside0.mk (Kd.R_below (by (with_reducible repeat (first | apply Kd.R_alloc | apply Kd.R_drewN | apply Kd.R_drew)); exact HO191.out) hb); have n4_ := Aside0.mk (Kd.R_below (by (with_reducible repeat (first | apply Kd.R_alloc | apply Kd.R_drewN | apply Kd.R_drew)); exact HO194.out) hb); have n5_ := Aside0.mk (Kd.R_below (by (with_reducible repeat (first | apply Kd.R_alloc | apply Kd.R_drewN | apply Kd.R_drew)); exact HO197.out) hb); have n6_ := Aside0.mk (Kd.R_below (by (with_reducible repeat (first | apply Kd.R_alloc | apply Kd.R_drewN | apply Kd.R_drew)); exact HO202.out) hb); have n7_ := Aside0.mk (blk_below (g := gb176) (o := .cells #[.slice A3_0 l3_0.length c3_0, .slice A3_1 l3_1.length c3_1] 25 (0, 0)) (by (with_reducible repeat (first | refine blk_drewN ?_ _ | refine blk_drew ?_ | refine blk_alloc ?_ _)); exact BK176.out) hb); have n8_ := Aside0.mk (blk_below (g := gb198) (o := .cells #[.slice Ao40 t192.length co40, .slice Ao43 t195.length co43] 27 (0, 0)) (by (with_reducible repeat (first | refine blk_drewN ?_ _ | refine blk_drew ?_ | refine blk_alloc ?_ _)); exact BK198.out) hb); have n9_ := Aside0.mk (below_step (by repeat (first | (with_reducible first | exact HB.out | apply below_alloc | apply pw_below_drewN | apply below_drew1 | refine below_set ?_ GE176.out | refine below_set ?_ GE198.out) | exact HB.out)) hb); clear HO181; clear HO184; clear HO187; clear HO191; clear HO194; clear HO197; clear HO202; clear BK176; clear BK198; clear HB; have HO181 := n0_; have HO184 := n1_; have HO187 := n2_; have HO191 := n3_; have HO194 := n4_; have HO197 := n5_; have HO202 := n6_; have BK176 := n7_; have BK198 := n8_; have HB := n9_; clear n0_ n1_ n2_ n3_ n4_ n5_ n6_ n7_ n8_ n9_; (try clear hb); (try clear hb2); (try clear hk); (try clear hi)))
            have n0_ := Aside0.mk (Kd.R_drew HO181.out)
            have n1_ := Aside0.mk (Kd.R_drew HO184.out)
            have n2_ := Aside0.mk (Kd.R_drew HO187.out)
            have n3_ := Aside0.mk (Kd.R_drew HO191.out)
            have n4_ := Aside0.mk (Kd.R_drew HO194.out)
            have n5_ := Aside0.mk (Kd.R_drew HO197.out)
            have n6_ := Aside0.mk (Kd.R_drew HO202.out)
            have n7_ := Aside0.mk (blk_drew BK176.out)
            have n8_ := Aside0.mk (blk_drew BK198.out)
            have n9_ := Aside0.mk (below_drew1 HB.out)
            clear HO181
            clear HO184
            clear HO187
            clear HO191
            clear HO194
            clear HO197
            clear HO202
            clear BK176
            clear BK198
            clear HB
            have HO181 := n0_
            have HO184 := n1_
            have HO187 := n2_
            have HO191 := n3_
            have HO194 := n4_
            have HO197 := n5_
            have HO202 := n6_
            have BK176 := n7_
            have BK198 := n8_
            have HB := n9_
            clear n0_ n1_ n2_ n3_ n4_ n5_ n6_ n7_ n8_ n9_
            refine start_ (n := 5) (S := fun w' => w'.cell? ⟨gb198, 0, none⟩ = some (.slice Ao40 t192.length co40) ∧ w'.cell? ⟨gb198, 1, none⟩ = some (.slice Ao43 t195.length co43) ∧ w'.cell? ⟨gb176, 0, none⟩ = some (.slice A3_0 l3_0.length c3_0) ∧ w'.cell? ⟨gb176, 1, none⟩ = some (.slice A3_1 l3_1.length c3_1)) (ds := []) #[false, false, false, false, false] (by kernel_rfl) rfl rfl ⟨(blk_cell BK198.out 0).trans rfl, (blk_cell BK198.out 1).trans rfl, (blk_cell BK176.out 0).trans rfl, (blk_cell BK176.out 1).trans rfl⟩ (fun hHeld => ?_)
            generalize w48.drew = w49 at HO181 HO184 HO187 HO191 HO194 HO197 HO202 BK176 BK198 HB hHeld ⊢
            refine take_ (i := 0) (N := some 48) (v := ?_) (a' := ?_) #[true, false, false, false, false] rfl rfl (by kernel_rfl) (fun _ _ _ h => h) (Or.inl ⟨by rfl, ?_⟩) hHeld ?_ ?_
            rotate_left
            · rintro w' ⟨s0, s1, s2, s3⟩
              go_simp
              with_reducible rfl
            rotate_left
            · simp only [Act.put, List.setIfInBounds_toArray, List.set_cons_zero, List.set_cons_succ, i64_w, i32_w]
              rfl
            refine take_ (i := 1) (N := some 49) (v := ?_) (a' := ?_) #[true, true, false, false, false] rfl rfl (by kernel_rfl) (fun _ _ _ h => h) (Or.inl ⟨by rfl, ?_⟩) hHeld ?_ ?_
            rotate_left
            · rintro w' ⟨s0, s1, s2, s3⟩
              go_simp
              with_reducible rfl
            rotate_left
            · simp only [Act.put, List.setIfInBounds_toArray, List.set_cons_zero, List.set_cons_succ, i64_w, i32_w]
              rfl
            refine one_ (i := 2) (N := some 50) #[true, true, true, false, false] rfl rfl (by kernel_rfl) (by decide) (fun K hK => ?_)
            refine goes_ Try.func10 (by kernel_rfl) rfl #[.agg #[.slice A3_0 l3_0.length c3_0, .slice A3_1 l3_1.length c3_1]] (by rfl) rfl rfl (by (try simp only [List.map_toArray, List.map_cons, List.map_nil]); first | done | rfl | (simp only [List.length_drop, List.length_take]; rfl)) ?_
            with_reducible refine (laws_toImage.calls k _ _ l3_0 _ _ l3_1 t204 t207 _ ?side1 ?side2 ?side3 ?side4 A23.out).mono ?_
            (case side1 => repeat (first | exact (Kd.C_below HR3_0.out HB.out) | (with_reducible refine Kd.C_alloc ?_ _) | (with_reducible refine Kd.C_drewN ?_ _) | (with_reducible refine Kd.C_drew ?_)))
            (case side2 => exact HC3_0.out)
            (case side3 => repeat (first | exact (Kd.C_below HR3_1.out HB.out) | (with_reducible refine Kd.C_alloc ?_ _) | (with_reducible refine Kd.C_drewN ?_ _) | (with_reducible refine Kd.C_drew ?_)))
            (case side4 => exact HC3_1.out)
            rintro e w50 ⟨v205, v208, rfl, ho0, ho1, hb⟩
            refine ⟨_, rfl, ?_⟩
            have n0_ := Aside0.mk (Kd.R_below (by (with_reducible repeat (first | apply Kd.R_alloc | apply Kd.R_drewN | apply Kd.R_drew)); exact HO181.out) hb)
            have n1_ := Aside0.mk (Kd.R_elder' (by (with_reducible repeat (first | apply Kd.R_alloc | apply Kd.R_drewN | apply Kd.R_drew)); exact HO184.out) (Kd.R_base ho0) hb)
            have n2_ := Aside0.mk (Kd.R_elder' (by (with_reducible repeat (first | apply Kd.R_alloc | apply Kd.R_drewN | apply Kd.R_drew)); exact HO187.out) (Kd.R_base ho1) hb)
            have n3_ := Aside0.mk (Kd.R_below (by (with_reducible repeat (first | apply Kd.R_alloc | apply Kd.R_drewN | apply Kd.R_drew)); exact HO191.out) hb)
            have n4_ := Aside0.mk (Kd.R_elder' (by (with_reducible repeat (first | apply Kd.R_alloc | apply Kd.R_drewN | apply Kd.R_drew)); exact HO194.out) (Kd.R_base ho0) hb)
            have n5_ := Aside0.mk (Kd.R_elder' (by (with_reducible repeat (first | apply Kd.R_alloc | apply Kd.R_drewN | apply Kd.R_drew)); exact HO197.out) (Kd.R_base ho1) hb)
            have n6_ := Aside0.mk (Kd.R_below (by (with_reducible repeat (first | apply Kd.R_alloc | apply Kd.R_drewN | apply Kd.R_drew)); exact HO202.out) hb)
            have n7_ := Aside0.mk (Kd.R_lower (Kd.R_new' (Kd.R_new' ho0 (Kd.R_lt (by (with_reducible repeat (first | apply Kd.R_alloc | apply Kd.R_drewN | apply Kd.R_drew)); exact HO184.out))) (Kd.R_lt (by (with_reducible repeat (first | apply Kd.R_alloc | apply Kd.R_drewN | apply Kd.R_drew)); exact HO194.out))) (below_size (by repeat (first | (with_reducible first | exact HB.out | apply below_alloc | apply pw_below_drewN | apply below_drew1 | refine below_set ?_ GE176.out | refine below_set ?_ GE198.out) | exact HB.out))))
            have n8_ := Aside0.mk (Kd.R_lower (Kd.R_new' (Kd.R_new' ho1 (Kd.R_lt (by (with_reducible repeat (first | apply Kd.R_alloc | apply Kd.R_drewN | apply Kd.R_drew)); exact HO187.out))) (Kd.R_lt (by (with_reducible repeat (first | apply Kd.R_alloc | apply Kd.R_drewN | apply Kd.R_drew)); exact HO197.out))) (below_size (by repeat (first | (with_reducible first | exact HB.out | apply below_alloc | apply pw_below_drewN | apply below_drew1 | refine below_set ?_ GE176.out | refine below_set ?_ GE198.out) | exact HB.out))))
            have n9_ := Aside0.mk (blk_below (g := gb176) (o := .cells #[.slice A3_0 l3_0.length c3_0, .slice A3_1 l3_1.length c3_1] 25 (0, 0)) (by (with_reducible repeat (first | refine blk_drewN ?_ _ | refine blk_drew ?_ | refine blk_alloc ?_ _)); exact BK176.out) hb)
            have n10_ := Aside0.mk (blk_below (g := gb198) (o := .cells #[.slice Ao40 t192.length co40, .slice Ao43 t195.length co43] 27 (0, 0)) (by (with_reducible repeat (first | refine blk_drewN ?_ _ | refine blk_drew ?_ | refine blk_alloc ?_ _)); exact BK198.out) hb)
            have n11_ := Aside0.mk (below_step (by repeat (first | (with_reducible first | exact HB.out | apply below_alloc | apply pw_below_drewN | apply below_drew1 | refine below_set ?_ GE176.out | refine below_set ?_ GE198.out) | exact HB.out)) hb)
            clear HO181
            clear HO184
            clear HO187
            clear HO191
            clear HO194
            clear HO197
            clear HO202
            clear BK176
            clear BK198
            clear HB
            have HO181 := n0_
            have HO184 := n1_
            have HO187 := n2_
            have HO191 := n3_
            have HO194 := n4_
            have HO197 := n5_
            have HO202 := n6_
            have HO206 := n7_
            have HO209 := n8_
            have BK176 := n9_
            have BK198 := n10_
            have HB := n11_
            clear n0_ n1_ n2_ n3_ n4_ n5_ n6_ n7_ n8_ n9_ n10_ n11_
            (try clear hb)
            (try clear hb2)
            (try clear hk)
            (try clear hi)
            (try clear ho0)
            (try clear ho1)
            obtain ⟨Ao51, co51, eo51⟩ := Kd.R_slice HO206.out
            (first | subst eo51 | (injection eo51 with f1_ f2_ f3_; have f4_ := f1_.symm; have f5_ := f3_.symm; clear f1_ f2_ f3_; subst f4_; subst f5_))
            obtain ⟨Ao52, co52, eo52⟩ := Kd.R_slice HO209.out
            (first | subst eo52 | (injection eo52 with f1_ f2_ f3_; have f4_ := f1_.symm; have f5_ := f3_.symm; clear f1_ f2_ f3_; subst f4_; subst f5_))
            refine hK.out _ _ ⟨(blk_cell BK198.out 0).trans rfl, (blk_cell BK198.out 1).trans rfl, (blk_cell BK176.out 0).trans rfl, (blk_cell BK176.out 1).trans rfl⟩ (fun hHeld => ?_)
            clear hK K
            refine norm_ (a' := ?_) ?_ ?_
            rotate_left
            · show Act.put _ (some 50) _ = _
              simp only [Act.put, List.setIfInBounds_toArray, List.set_cons_zero, List.set_cons_succ, i64_w, i32_w]
              rfl
            refine one_ (i := 3) (N := some 51) #[true, true, true, true, false] rfl rfl (by kernel_rfl) (by decide) (fun K hK => ?_)
            refine goes_ Try.func12 (by kernel_rfl) rfl #[.agg #[.slice Ao40 t192.length co40, .slice Ao43 t195.length co43], .agg #[.slice Ao51 t204.length co51, .slice Ao52 t207.length co52]] (by rfl) rfl rfl (by (try simp only [List.map_toArray, List.map_cons, List.map_nil]); first | done | rfl | (simp only [List.length_drop, List.length_take]; rfl)) ?_
            with_reducible refine (laws_eqImage.calls k _ _ t192 _ _ t195 _ _ t204 _ _ t207 true _ ?side1 ?side2 ?side3 ?side4 ?side5 ?side6 ?side7 ?side8 A24.out).mono ?_
            (case side1 => repeat (first | exact (Kd.R_reads' HO194.out).2.2 | (with_reducible refine Kd.C_alloc ?_ _) | (with_reducible refine Kd.C_drewN ?_ _) | (with_reducible refine Kd.C_drew ?_)))
            (case side2 => exact (Kd.R_reads' HO194.out).2.1)
            (case side3 => repeat (first | exact (Kd.R_reads' HO197.out).2.2 | (with_reducible refine Kd.C_alloc ?_ _) | (with_reducible refine Kd.C_drewN ?_ _) | (with_reducible refine Kd.C_drew ?_)))
            (case side4 => exact (Kd.R_reads' HO197.out).2.1)
            (case side5 => repeat (first | exact (Kd.R_reads' HO206.out).2.2 | (with_reducible refine Kd.C_alloc ?_ _) | (with_reducible refine Kd.C_drewN ?_ _) | (with_reducible refine Kd.C_drew ?_)))
            (case side6 => exact (Kd.R_reads' HO206.out).2.1)
            (case side7 => repeat (first | exact (Kd.R_reads' HO209.out).2.2 | (with_reducible refine Kd.C_alloc ?_ _) | (with_reducible refine Kd.C_drewN ?_ _) | (with_reducible refine Kd.C_drew ?_)))
            (case side8 => exact (Kd.R_reads' HO209.out).2.1)
            rintro e w53 ⟨rfl, hb⟩
            refine ⟨_, rfl, ?_⟩
            have n0_ := Aside0.mk (Kd.R_below (by (with_reducible repeat (first | apply Kd.R_alloc | apply Kd.R_drewN | apply Kd.R_drew)); exact HO181.out) hb)
            have n1_ := Aside0.mk (Kd.R_below (by (with_reducible repeat (first | apply Kd.R_alloc | apply Kd.R_drewN | apply Kd.R_drew)); exact HO184.out) hb)
            have n2_ := Aside0.mk (Kd.R_below (by (with_reducible repeat (first | apply Kd.R_alloc | apply Kd.R_drewN | apply Kd.R_drew)); exact HO187.out) hb)
            have n3_ := Aside0.mk (Kd.R_below (by (with_reducible repeat (first | apply Kd.R_alloc | apply Kd.R_drewN | apply Kd.R_drew)); exact HO191.out) hb)
            have n4_ := Aside0.mk (Kd.R_below (by (with_reducible repeat (first | apply Kd.R_alloc | apply Kd.R_drewN | apply Kd.R_drew)); exact HO194.out) hb)
            have n5_ := Aside0.mk (Kd.R_below (by (with_reducible repeat (first | apply Kd.R_alloc | apply Kd.R_drewN | apply Kd.R_drew)); exact HO197.out) hb)
            have n6_ := Aside0.mk (Kd.R_below (by (with_reducible repeat (first | apply Kd.R_alloc | apply Kd.R_drewN | apply Kd.R_drew)); exact HO202.out) hb)
            have n7_ := Aside0.mk (Kd.R_below (by (with_reducible repeat (first | apply Kd.R_alloc | apply Kd.R_drewN | apply Kd.R_drew)); exact HO206.out) hb)
            have n8_ := Aside0.mk (Kd.R_below (by (with_reducible repeat (first | apply Kd.R_alloc | apply Kd.R_drewN | apply Kd.R_drew)); exact HO209.out) hb)
            have n9_ := Aside0.mk (blk_below (g := gb176) (o := .cells #[.slice A3_0 l3_0.length c3_0, .slice A3_1 l3_1.length c3_1] 25 (0, 0)) (by (with_reducible repeat (first | refine blk_drewN ?_ _ | refine blk_drew ?_ | refine blk_alloc ?_ _)); exact BK176.out) hb)
            have n10_ := Aside0.mk (blk_below (g := gb198) (o := .cells #[.slice Ao40 t192.length co40, .slice Ao43 t195.length co43] 27 (0, 0)) (by (with_reducible repeat (first | refine blk_drewN ?_ _ | refine blk_drew ?_ | refine blk_alloc ?_ _)); exact BK198.out) hb)
            have n11_ := Aside0.mk (below_step (by repeat (first | (with_reducible first | exact HB.out | apply below_alloc | apply pw_below_drewN | apply below_drew1 | refine below_set ?_ GE176.out | refine below_set ?_ GE198.out) | exact HB.out)) hb)
            clear HO181
            clear HO184
            clear HO187
            clear HO191
            clear HO194
            clear HO197
            clear HO202
            clear HO206
            clear HO209
            clear BK176
            clear BK198
            clear HB
            have HO181 := n0_
            have HO184 := n1_
            have HO187 := n2_
            have HO191 := n3_
            have HO194 := n4_
            have HO197 := n5_
            have HO202 := n6_
            have HO206 := n7_
            have HO209 := n8_
            have BK176 := n9_
            have BK198 := n10_
            have HB := n11_
            clear n0_ n1_ n2_ n3_ n4_ n5_ n6_ n7_ n8_ n9_ n10_ n11_
            (try clear hb)
            (try clear hb2)
            (try clear hk)
            (try clear hi)
            refine hK.out _ _ ⟨(blk_cell BK198.out 0).trans rfl, (blk_cell BK198.out 1).trans rfl, (blk_cell BK176.out 0).trans rfl, (blk_cell BK176.out 1).trans rfl⟩ (fun hHeld => ?_)
            clear hK K
            refine norm_ (a' := ?_) ?_ ?_
            rotate_left
            · show Act.put _ (some 51) _ = _
              simp only [Act.put, List.setIfInBounds_toArray, List.set_cons_zero, List.set_cons_succ, i64_w, i32_w]
              rfl
            refine pure_ (i := 4) (N := some 52) (v := ?_) (a' := ?_) #[true, true, true, true, true] rfl rfl (by kernel_rfl) (fun _ _ _ h => h) (Or.inl ⟨by rfl, ?_⟩) ?_ ?_
            rotate_left
            · intro w'
              go_simp
              with_reducible rfl
            rotate_left
            · simp only [Act.put, List.setIfInBounds_toArray, List.set_cons_zero, List.set_cons_succ, i64_w, i32_w]
              rfl
            refine done_ (by kernel_rfl) ?_
            try go_wp2
            go_ret
            exact ⟨by first | rfl | (simp [errW_none, errW_some] <;> rfl) | (simp [*, errW_none, errW_some] <;> rfl), by repeat (first | (with_reducible first | exact HB.out | apply below_alloc | apply pw_below_drewN | apply below_drew1 | refine below_set ?_ GE176.out | refine below_set ?_ GE198.out) | exact HB.out)⟩
          · replace c25 := Bool.eq_false_iff.mpr c25
            subst c25
            have H1 : (some false) = some r := by rw [if_neg (show ¬ (false = true) by decide)] at H; exact H
            clear H
            have H := H1
            clear H1
            obtain rfl := Option.some.inj H
            go_enter Try.func7, Try.ntmps7
            try go_wp2_with (first | ((with_reducible refine gate_dst (N := 7) rfl ?_); refine box_event ?hg (N := 7) ?hd (cs := #[.slice A3_0 l3_0.length c3_0, .slice A3_1 l3_1.length c3_1]) (t := 25) ?hr ?_; (case hd => rfl); (case hg => rfl); (case hr => first | (go_simp; done) | (go_simp; rfl)); intro gb176 hg w54 hbox hb; have n0_ := Aside0.mk (below_step (by repeat (first | (with_reducible first | exact HB.out | apply below_alloc | apply pw_below_drewN | apply below_drew1) | exact HB.out)) hb); have n1_ := Aside0.mk (hbox); have n2_ := Aside0.mk ((by rw [hg]; exact (below_size (by repeat (first | (with_reducible first | exact HB.out | apply below_alloc | apply pw_below_drewN | apply below_drew1) | exact HB.out))) : w.heap.size ≤ gb176)); have n3_ := Aside0.mk ((by rw [hg]; exact (below_size (by repeat (first | (with_reducible first | exact HB.out | apply below_alloc | apply pw_below_drewN | apply below_drew1) | exact HB.out))) : w.heap.size ≤ gb176)); clear HB; have HB := n0_; have BK176 := n1_; have GW176 := n2_; have GE176 := n3_; clear n0_ n1_ n2_ n3_; clear hb hbox hg) | ((with_reducible refine gate_callee (f := 28) rfl ?_); refine goesL_ (some 16) rfl rfl Try.func28 (by kernel_rfl) rfl #[.slice A0 l0.length c0, .int .i64 1048576] rfl (by (try simp only [List.map_toArray, List.map_cons, List.map_nil]); first | done | rfl | (simp only [List.length_drop, List.length_take]; rfl)) ?_; (with_reducible refine (laws_szTransitionS.calls _ _ l0 1048576 t177 _ ?side1 ?side2 A5.out).mono ?_); (case side1 => repeat (first | exact (Kd.C_below HR0.out HB.out) | (with_reducible refine Kd.C_alloc ?_ _) | (with_reducible refine Kd.C_drewN ?_ _) | (with_reducible refine Kd.C_drew ?_))); (case side2 => exact HC0.out); rintro e w' ⟨rfl, ⟨nd, rfl⟩⟩; refine ⟨_, rfl, ?_⟩; (try (rw [drewN_self w54]; generalize hq_ : World.drewN w54 _ = w54; have n0_ : Aside0 (w54.heap[gb176]? = some (.cells #[.slice A3_0 l3_0.length c3_0, .slice A3_1 l3_1.length c3_1] 25 (0, 0))) := ⟨by rw [← hq_]; exact (by (with_reducible repeat (first | refine blk_drewN ?_ _ | refine blk_drew ?_ | refine blk_alloc ?_ _)); exact BK176.out)⟩; have n1_ : Aside0 (Below w.heap.size w w54) := ⟨by rw [← hq_]; exact (by repeat (first | (with_reducible first | exact HB.out | apply below_alloc | apply pw_below_drewN | apply below_drew1 | refine below_set ?_ GE176.out) | exact HB.out))⟩; clear BK176 HB hq_; have BK176 := n0_; have HB := n1_; clear n0_ n1_)); have hcz55_0 : w54.cell? ⟨gb176, 0, none⟩ = some (.slice A3_0 l3_0.length c3_0) := (blk_cell BK176.out 0).trans rfl; have hcz55_1 : w54.cell? ⟨gb176, 1, none⟩ = some (.slice A3_1 l3_1.length c3_1) := (blk_cell BK176.out 1).trans rfl; have hfz55_0 := blk_frozen BK176.out 0; have hfz55_1 := blk_frozen BK176.out 1) | ((with_reducible refine gate_callee (f := 8) rfl ?_); refine goesL_ (some 21) rfl rfl Try.func8 (by kernel_rfl) rfl #[.agg #[.slice A3_0 l3_0.length c3_0, .slice A3_1 l3_1.length c3_1], .int .i64 t177] rfl (by (try simp only [List.map_toArray, List.map_cons, List.map_nil]); first | done | rfl | (simp only [List.length_drop, List.length_take]; rfl)) ?_; (with_reducible refine (laws_szImage.calls _ _ l3_0 _ _ l3_1 t177 t178 _ ?side1 ?side2 ?side3 ?side4 A8.out).mono ?_); (case side1 => repeat (first | exact (Kd.C_below HR3_0.out HB.out) | (with_reducible refine Kd.C_alloc ?_ _) | (with_reducible refine Kd.C_drewN ?_ _) | (with_reducible refine Kd.C_drew ?_))); (case side2 => exact HC3_0.out); (case side3 => repeat (first | exact (Kd.C_below HR3_1.out HB.out) | (with_reducible refine Kd.C_alloc ?_ _) | (with_reducible refine Kd.C_drewN ?_ _) | (with_reducible refine Kd.C_drew ?_))); (case side4 => exact HC3_1.out); rintro e w56 ⟨rfl, hb⟩; refine ⟨_, rfl, ?_⟩; have n0_ := Aside0.mk (blk_below (g := gb176) (o := .cells #[.slice A3_0 l3_0.length c3_0, .slice A3_1 l3_1.length c3_1] 25 (0, 0)) (by (with_reducible repeat (first | refine blk_drewN ?_ _ | refine blk_drew ?_ | refine blk_alloc ?_ _)); exact BK176.out) hb); have n1_ := Aside0.mk (below_step (by repeat (first | (with_reducible first | exact HB.out | apply below_alloc | apply pw_below_drewN | apply below_drew1 | refine below_set ?_ GE176.out) | exact HB.out)) hb); clear BK176; clear HB; have BK176 := n0_; have HB := n1_; clear n0_ n1_; (try clear hb); (try clear hb2); (try clear hk); (try clear hi)))
            have n0_ := Aside0.mk (blk_drew BK176.out)
            have n1_ := Aside0.mk (below_drew1 HB.out)
            clear BK176
            clear HB
            have BK176 := n0_
            have HB := n1_
            clear n0_ n1_
            refine start_ (n := 8) (S := fun w' => w'.cell? ⟨gb176, 0, none⟩ = some (.slice A3_0 l3_0.length c3_0) ∧ w'.cell? ⟨gb176, 1, none⟩ = some (.slice A3_1 l3_1.length c3_1)) (ds := []) #[false, false, false, false, false, false, false, false] (by kernel_rfl) rfl rfl ⟨(blk_cell BK176.out 0).trans rfl, (blk_cell BK176.out 1).trans rfl⟩ (fun hHeld => ?_); refine with_tabW laws_FnExactStepChart.tab8 laws_FnExactStepChart.bits8 (fun HT_ HW_ => ?_)
            generalize w56.drew = w57 at BK176 HB hHeld ⊢
            refine pure_ (i := 0) (N := some 24) (v := ?_) (a' := ?_) #[true, false, false, false, false, false, false, false] rfl rfl (any_of HT_.out (by kernel_rfl)) (fun _ _ _ h => h) (Or.inl ⟨by rfl, ?_⟩) ?_ ?_
            rotate_left
            · intro w'
              go_simp
              with_reducible rfl
            rotate_left
            · simp only [Act.put, List.setIfInBounds_toArray, List.set_cons_zero, List.set_cons_succ, i64_w, i32_w]
              rfl
            refine pure_ (i := 2) (N := some 26) (v := ?_) (a' := ?_) #[true, false, true, false, false, false, false, false] rfl rfl (any_of HT_.out (by kernel_rfl)) (fun _ _ _ h => h) (Or.inl ⟨by rfl, ?_⟩) ?_ ?_
            rotate_left
            · intro w'
              go_simp
              with_reducible rfl
            rotate_left
            · simp only [Act.put, List.setIfInBounds_toArray, List.set_cons_zero, List.set_cons_succ, i64_w, i32_w]
              rfl
            refine pure_ (i := 3) (N := some 27) (v := ?_) (a' := ?_) #[true, false, true, true, false, false, false, false] rfl rfl (any_of HT_.out (by kernel_rfl)) (fun _ _ _ h => h) (Or.inl ⟨by rfl, ?_⟩) ?_ ?_
            rotate_left
            · intro w'
              go_simp
              with_reducible rfl
            rotate_left
            · simp only [Act.put, List.setIfInBounds_toArray, List.set_cons_zero, List.set_cons_succ, i64_w, i32_w]
              rfl
            refine take_ (i := 4) (N := some 28) (v := ?_) (a' := ?_) #[true, false, true, true, true, false, false, false] rfl rfl (take_ofW HT_.out HW_.out (by kernel_rfl)) (fun _ _ _ h => h) (Or.inl ⟨by rfl, ?_⟩) hHeld ?_ ?_
            rotate_left
            · rintro w' ⟨s0, s1⟩
              go_simp
              with_reducible rfl
            rotate_left
            · simp only [Act.put, List.setIfInBounds_toArray, List.set_cons_zero, List.set_cons_succ, i64_w, i32_w]
              rfl
            refine one_ (i := 1) (N := some 25) #[true, true, true, true, true, false, false, false] rfl rfl (one_of HT_.out (by kernel_rfl)) (by decide) (fun K hK => ?_)
            refine goes_ Try.func30 (by kernel_rfl) rfl #[.slice A0 l0.length c0] (by rfl) rfl rfl (by (try simp only [List.map_toArray, List.map_cons, List.map_nil]); first | done | rfl | (simp only [List.length_drop, List.length_take]; rfl)) ?_
            with_reducible refine (laws_toTransitionS.calls k _ _ l0 t179 _ ?side1 ?side2 A13.out).mono ?_
            (case side1 => repeat (first | exact (Kd.C_below HR0.out HB.out) | (with_reducible refine Kd.C_alloc ?_ _) | (with_reducible refine Kd.C_drewN ?_ _) | (with_reducible refine Kd.C_drew ?_)))
            (case side2 => exact HC0.out)
            rintro e w58 ⟨v180, rfl, ho0, hb⟩
            refine ⟨_, rfl, ?_⟩
            have n0_ := Aside0.mk (Kd.R_lower ho0 (below_size (by repeat (first | (with_reducible first | exact HB.out | apply below_alloc | apply pw_below_drewN | apply below_drew1 | refine below_set ?_ GE176.out) | exact HB.out))))
            have n1_ := Aside0.mk (blk_below (g := gb176) (o := .cells #[.slice A3_0 l3_0.length c3_0, .slice A3_1 l3_1.length c3_1] 25 (0, 0)) (by (with_reducible repeat (first | refine blk_drewN ?_ _ | refine blk_drew ?_ | refine blk_alloc ?_ _)); exact BK176.out) hb)
            have n2_ := Aside0.mk (below_step (by repeat (first | (with_reducible first | exact HB.out | apply below_alloc | apply pw_below_drewN | apply below_drew1 | refine below_set ?_ GE176.out) | exact HB.out)) hb)
            clear BK176
            clear HB
            have HO181 := n0_
            have BK176 := n1_
            have HB := n2_
            clear n0_ n1_ n2_
            (try clear hb)
            (try clear hb2)
            (try clear hk)
            (try clear hi)
            (try clear ho0)
            refine hK.out _ _ ⟨(blk_cell BK176.out 0).trans rfl, (blk_cell BK176.out 1).trans rfl⟩ (fun hHeld => ?_)
            clear hK K
            refine norm_ (a' := ?_) ?_ ?_
            rotate_left
            · show Act.put _ (some 25) _ = _
              simp only [Act.put, List.setIfInBounds_toArray, List.set_cons_zero, List.set_cons_succ, i64_w, i32_w]
              rfl
            refine one_ (i := 5) (N := some 29) #[true, true, true, true, true, true, false, false] rfl rfl (one_of HT_.out (by kernel_rfl)) (by decide) (fun K hK => ?_)
            refine goes_ Try.func10 (by kernel_rfl) rfl #[.agg #[.slice A3_0 l3_0.length c3_0, .slice A3_1 l3_1.length c3_1]] (by rfl) rfl rfl (by (try simp only [List.map_toArray, List.map_cons, List.map_nil]); first | done | rfl | (simp only [List.length_drop, List.length_take]; rfl)) ?_
            with_reducible refine (laws_toImage.calls k _ _ l3_0 _ _ l3_1 t182 t185 _ ?side1 ?side2 ?side3 ?side4 A14.out).mono ?_
            (case side1 => repeat (first | exact (Kd.C_below HR3_0.out HB.out) | (with_reducible refine Kd.C_alloc ?_ _) | (with_reducible refine Kd.C_drewN ?_ _) | (with_reducible refine Kd.C_drew ?_)))
            (case side2 => exact HC3_0.out)
            (case side3 => repeat (first | exact (Kd.C_below HR3_1.out HB.out) | (with_reducible refine Kd.C_alloc ?_ _) | (with_reducible refine Kd.C_drewN ?_ _) | (with_reducible refine Kd.C_drew ?_)))
            (case side4 => exact HC3_1.out)
            rintro e w59 ⟨v183, v186, rfl, ho0, ho1, hb⟩
            refine ⟨_, rfl, ?_⟩
            have n0_ := Aside0.mk (Kd.R_below (by (with_reducible repeat (first | apply Kd.R_alloc | apply Kd.R_drewN | apply Kd.R_drew)); exact HO181.out) hb)
            have n1_ := Aside0.mk (Kd.R_lower ho0 (below_size (by repeat (first | (with_reducible first | exact HB.out | apply below_alloc | apply pw_below_drewN | apply below_drew1 | refine below_set ?_ GE176.out) | exact HB.out))))
            have n2_ := Aside0.mk (Kd.R_lower ho1 (below_size (by repeat (first | (with_reducible first | exact HB.out | apply below_alloc | apply pw_below_drewN | apply below_drew1 | refine below_set ?_ GE176.out) | exact HB.out))))
            have n3_ := Aside0.mk (blk_below (g := gb176) (o := .cells #[.slice A3_0 l3_0.length c3_0, .slice A3_1 l3_1.length c3_1] 25 (0, 0)) (by (with_reducible repeat (first | refine blk_drewN ?_ _ | refine blk_drew ?_ | refine blk_alloc ?_ _)); exact BK176.out) hb)
            have n4_ := Aside0.mk (below_step (by repeat (first | (with_reducible first | exact HB.out | apply below_alloc | apply pw_below_drewN | apply below_drew1 | refine below_set ?_ GE176.out) | exact HB.out)) hb)
            clear HO181
            clear BK176
            clear HB
            have HO181 := n0_
            have HO184 := n1_
            have HO187 := n2_
            have BK176 := n3_
            have HB := n4_
            clear n0_ n1_ n2_ n3_ n4_
            (try clear hb)
            (try clear hb2)
            (try clear hk)
            (try clear hi)
            (try clear ho0)
            (try clear ho1)
            obtain ⟨Ao60, co60, eo60⟩ := Kd.R_slice HO181.out
            (first | subst eo60 | (injection eo60 with f1_ f2_ f3_; have f4_ := f1_.symm; have f5_ := f3_.symm; clear f1_ f2_ f3_; subst f4_; subst f5_))
            obtain ⟨Ao61, co61, eo61⟩ := Kd.R_slice HO184.out
            (first | subst eo61 | (injection eo61 with f1_ f2_ f3_; have f4_ := f1_.symm; have f5_ := f3_.symm; clear f1_ f2_ f3_; subst f4_; subst f5_))
            obtain ⟨Ao62, co62, eo62⟩ := Kd.R_slice HO187.out
            (first | subst eo62 | (injection eo62 with f1_ f2_ f3_; have f4_ := f1_.symm; have f5_ := f3_.symm; clear f1_ f2_ f3_; subst f4_; subst f5_))
            refine hK.out _ _ ⟨(blk_cell BK176.out 0).trans rfl, (blk_cell BK176.out 1).trans rfl⟩ (fun hHeld => ?_)
            clear hK K
            refine norm_ (a' := ?_) ?_ ?_
            rotate_left
            · show Act.put _ (some 29) _ = _
              simp only [Act.put, List.setIfInBounds_toArray, List.set_cons_zero, List.set_cons_succ, i64_w, i32_w]
              rfl
            refine one_ (i := 6) (N := some 30) #[true, true, true, true, true, true, true, false] rfl rfl (one_of HT_.out (by kernel_rfl)) (by decide) (fun K hK => ?_)
            refine goes_ Try.func29 (by kernel_rfl) rfl #[.slice Ao60 t179.length co60, .int .i64 a1, .int .i64 a2, .agg #[.slice Ao61 t182.length co61, .slice Ao62 t185.length co62]] (by rfl) rfl rfl (by (try simp only [List.map_toArray, List.map_cons, List.map_nil]); first | done | rfl | (simp only [List.length_drop, List.length_take]; rfl)) ?_
            with_reducible refine (spec_StepChart.calls k _ _ t179 a1 a2 _ _ t182 _ _ t185 t188 _ ?side1 ?side2 ?side3 ?side4 ?side5 ?side6 A15.out).mono ?_
            (case side1 => repeat (first | exact (Kd.R_reads' HO181.out).2.2 | (with_reducible refine Kd.C_alloc ?_ _) | (with_reducible refine Kd.C_drewN ?_ _) | (with_reducible refine Kd.C_drew ?_)))
            (case side2 => exact (Kd.R_reads' HO181.out).2.1)
            (case side3 => repeat (first | exact (Kd.R_reads' HO184.out).2.2 | (with_reducible refine Kd.C_alloc ?_ _) | (with_reducible refine Kd.C_drewN ?_ _) | (with_reducible refine Kd.C_drew ?_)))
            (case side4 => exact (Kd.R_reads' HO184.out).2.1)
            (case side5 => repeat (first | exact (Kd.R_reads' HO187.out).2.2 | (with_reducible refine Kd.C_alloc ?_ _) | (with_reducible refine Kd.C_drewN ?_ _) | (with_reducible refine Kd.C_drew ?_)))
            (case side6 => exact (Kd.R_reads' HO187.out).2.1)
            rintro e w63 ⟨rfl, hb⟩
            refine ⟨_, rfl, ?_⟩
            have n0_ := Aside0.mk (Kd.R_below (by (with_reducible repeat (first | apply Kd.R_alloc | apply Kd.R_drewN | apply Kd.R_drew)); exact HO181.out) hb)
            have n1_ := Aside0.mk (Kd.R_below (by (with_reducible repeat (first | apply Kd.R_alloc | apply Kd.R_drewN | apply Kd.R_drew)); exact HO184.out) hb)
            have n2_ := Aside0.mk (Kd.R_below (by (with_reducible repeat (first | apply Kd.R_alloc | apply Kd.R_drewN | apply Kd.R_drew)); exact HO187.out) hb)
            have n3_ := Aside0.mk (blk_below (g := gb176) (o := .cells #[.slice A3_0 l3_0.length c3_0, .slice A3_1 l3_1.length c3_1] 25 (0, 0)) (by (with_reducible repeat (first | refine blk_drewN ?_ _ | refine blk_drew ?_ | refine blk_alloc ?_ _)); exact BK176.out) hb)
            have n4_ := Aside0.mk (below_step (by repeat (first | (with_reducible first | exact HB.out | apply below_alloc | apply pw_below_drewN | apply below_drew1 | refine below_set ?_ GE176.out) | exact HB.out)) hb)
            clear HO181
            clear HO184
            clear HO187
            clear BK176
            clear HB
            have HO181 := n0_
            have HO184 := n1_
            have HO187 := n2_
            have BK176 := n3_
            have HB := n4_
            clear n0_ n1_ n2_ n3_ n4_
            (try clear hb)
            (try clear hb2)
            (try clear hk)
            (try clear hi)
            refine hK.out _ _ ⟨(blk_cell BK176.out 0).trans rfl, (blk_cell BK176.out 1).trans rfl⟩ (fun hHeld => ?_)
            clear hK K
            refine norm_ (a' := ?_) ?_ ?_
            rotate_left
            · show Act.put _ (some 30) _ = _
              simp only [Act.put, List.setIfInBounds_toArray, List.set_cons_zero, List.set_cons_succ, i64_w, i32_w]
              rfl
            refine pure_ (i := 7) (N := some 10) (v := ?_) (a' := ?_) #[true, true, true, true, true, true, true, true] rfl rfl (any_of HT_.out (by kernel_rfl)) (fun _ _ _ h => h) (Or.inl ⟨by rfl, ?_⟩) ?_ ?_
            rotate_left
            · intro w'
              go_simp
              with_reducible rfl
            rotate_left
            · simp only [Act.put, List.setIfInBounds_toArray, List.set_cons_zero, List.set_cons_succ, i64_w, i32_w]
              rfl
            refine done_ (done_of HT_.out (by kernel_rfl)) ?_
            try go_wp2_with (first | ((with_reducible refine gate_callee (f := 30) rfl ?_); refine goesL_ (some 32) rfl rfl Try.func30 (by kernel_rfl) rfl #[.slice A0 l0.length c0] rfl (by (try simp only [List.map_toArray, List.map_cons, List.map_nil]); first | done | rfl | (simp only [List.length_drop, List.length_take]; rfl)) ?_; (with_reducible refine (laws_toTransitionS.calls k _ _ l0 t189 _ ?side1 ?side2 A16.out).mono ?_); (case side1 => repeat (first | exact (Kd.C_below HR0.out HB.out) | (with_reducible refine Kd.C_alloc ?_ _) | (with_reducible refine Kd.C_drewN ?_ _) | (with_reducible refine Kd.C_drew ?_))); (case side2 => exact HC0.out); rintro e w64 ⟨v190, rfl, ho0, hb⟩; refine ⟨_, rfl, ?_⟩; have n0_ := Aside0.mk (Kd.R_elder' (by (with_reducible repeat (first | apply Kd.R_alloc | apply Kd.R_drewN | apply Kd.R_drew)); exact HO181.out) (Kd.R_base ho0) hb); have n1_ := Aside0.mk (Kd.R_below (by (with_reducible repeat (first | apply Kd.R_alloc | apply Kd.R_drewN | apply Kd.R_drew)); exact HO184.out) hb); have n2_ := Aside0.mk (Kd.R_below (by (with_reducible repeat (first | apply Kd.R_alloc | apply Kd.R_drewN | apply Kd.R_drew)); exact HO187.out) hb); have n3_ := Aside0.mk (Kd.R_lower (Kd.R_new' ho0 (Kd.R_lt (by (with_reducible repeat (first | apply Kd.R_alloc | apply Kd.R_drewN | apply Kd.R_drew)); exact HO181.out))) (below_size (by repeat (first | (with_reducible first | exact HB.out | apply below_alloc | apply pw_below_drewN | apply below_drew1 | refine below_set ?_ GE176.out) | exact HB.out)))); have n4_ := Aside0.mk (blk_below (g := gb176) (o := .cells #[.slice A3_0 l3_0.length c3_0, .slice A3_1 l3_1.length c3_1] 25 (0, 0)) (by (with_reducible repeat (first | refine blk_drewN ?_ _ | refine blk_drew ?_ | refine blk_alloc ?_ _)); exact BK176.out) hb); have n5_ := Aside0.mk (below_step (by repeat (first | (with_reducible first | exact HB.out | apply below_alloc | apply pw_below_drewN | apply below_drew1 | refine below_set ?_ GE176.out) | exact HB.out)) hb); clear HO181; clear HO184; clear HO187; clear BK176; clear HB; have HO181 := n0_; have HO184 := n1_; have HO187 := n2_; have HO191 := n3_; have BK176 := n4_; have HB := n5_; clear n0_ n1_ n2_ n3_ n4_ n5_; (try clear hb); (try clear hb2); (try clear hk); (try clear hi); (try clear ho0); have hcz65_0 : w64.cell? ⟨gb176, 0, none⟩ = some (.slice A3_0 l3_0.length c3_0) := (blk_cell BK176.out 0).trans rfl; have hcz65_1 : w64.cell? ⟨gb176, 1, none⟩ = some (.slice A3_1 l3_1.length c3_1) := (blk_cell BK176.out 1).trans rfl; have hfz65_0 := blk_frozen BK176.out 0; have hfz65_1 := blk_frozen BK176.out 1) | ((with_reducible refine gate_callee (f := 10) rfl ?_); refine goesL_ (some 34) rfl rfl Try.func10 (by kernel_rfl) rfl #[.agg #[.slice A3_0 l3_0.length c3_0, .slice A3_1 l3_1.length c3_1]] rfl (by (try simp only [List.map_toArray, List.map_cons, List.map_nil]); first | done | rfl | (simp only [List.length_drop, List.length_take]; rfl)) ?_; (with_reducible refine (laws_toImage.calls k _ _ l3_0 _ _ l3_1 t192 t195 _ ?side1 ?side2 ?side3 ?side4 A17.out).mono ?_); (case side1 => repeat (first | exact (Kd.C_below HR3_0.out HB.out) | (with_reducible refine Kd.C_alloc ?_ _) | (with_reducible refine Kd.C_drewN ?_ _) | (with_reducible refine Kd.C_drew ?_))); (case side2 => exact HC3_0.out); (case side3 => repeat (first | exact (Kd.C_below HR3_1.out HB.out) | (with_reducible refine Kd.C_alloc ?_ _) | (with_reducible refine Kd.C_drewN ?_ _) | (with_reducible refine Kd.C_drew ?_))); (case side4 => exact HC3_1.out); rintro e w66 ⟨v193, v196, rfl, ho0, ho1, hb⟩; refine ⟨_, rfl, ?_⟩; have n0_ := Aside0.mk (Kd.R_below (by (with_reducible repeat (first | apply Kd.R_alloc | apply Kd.R_drewN | apply Kd.R_drew)); exact HO181.out) hb); have n1_ := Aside0.mk (Kd.R_elder' (by (with_reducible repeat (first | apply Kd.R_alloc | apply Kd.R_drewN | apply Kd.R_drew)); exact HO184.out) (Kd.R_base ho0) hb); have n2_ := Aside0.mk (Kd.R_elder' (by (with_reducible repeat (first | apply Kd.R_alloc | apply Kd.R_drewN | apply Kd.R_drew)); exact HO187.out) (Kd.R_base ho1) hb); have n3_ := Aside0.mk (Kd.R_below (by (with_reducible repeat (first | apply Kd.R_alloc | apply Kd.R_drewN | apply Kd.R_drew)); exact HO191.out) hb); have n4_ := Aside0.mk (Kd.R_lower (Kd.R_new' ho0 (Kd.R_lt (by (with_reducible repeat (first | apply Kd.R_alloc | apply Kd.R_drewN | apply Kd.R_drew)); exact HO184.out))) (below_size (by repeat (first | (with_reducible first | exact HB.out | apply below_alloc | apply pw_below_drewN | apply below_drew1 | refine below_set ?_ GE176.out) | exact HB.out)))); have n5_ := Aside0.mk (Kd.R_lower (Kd.R_new' ho1 (Kd.R_lt (by (with_reducible repeat (first | apply Kd.R_alloc | apply Kd.R_drewN | apply Kd.R_drew)); exact HO187.out))) (below_size (by repeat (first | (with_reducible first | exact HB.out | apply below_alloc | apply pw_below_drewN | apply below_drew1 | refine below_set ?_ GE176.out) | exact HB.out)))); have n6_ := Aside0.mk (blk_below (g := gb176) (o := .cells #[.slice A3_0 l3_0.length c3_0, .slice A3_1 l3_1.length c3_1] 25 (0, 0)) (by (with_reducible repeat (first | refine blk_drewN ?_ _ | refine blk_drew ?_ | refine blk_alloc ?_ _)); exact BK176.out) hb); have n7_ := Aside0.mk (below_step (by repeat (first | (with_reducible first | exact HB.out | apply below_alloc | apply pw_below_drewN | apply below_drew1 | refine below_set ?_ GE176.out) | exact HB.out)) hb); clear HO181; clear HO184; clear HO187; clear HO191; clear BK176; clear HB; have HO181 := n0_; have HO184 := n1_; have HO187 := n2_; have HO191 := n3_; have HO194 := n4_; have HO197 := n5_; have BK176 := n6_; have HB := n7_; clear n0_ n1_ n2_ n3_ n4_ n5_ n6_ n7_; (try clear hb); (try clear hb2); (try clear hk); (try clear hi); (try clear ho0); (try clear ho1)) | ((with_reducible refine gate_dst (N := 12) rfl ?_); refine box_event ?hg (N := 12) ?hd (cs := #[.slice none 0 0, .slice none 0 0]) (t := 27) ?hr ?_; (case hd => rfl); (case hg => rfl); (case hr => first | (go_simp; done) | (go_simp; rfl)); intro gb198 hg w67 hbox hb; have n0_ := Aside0.mk (Kd.R_below (by (with_reducible repeat (first | apply Kd.R_alloc | apply Kd.R_drewN | apply Kd.R_drew)); exact HO181.out) hb); have n1_ := Aside0.mk (Kd.R_below (by (with_reducible repeat (first | apply Kd.R_alloc | apply Kd.R_drewN | apply Kd.R_drew)); exact HO184.out) hb); have n2_ := Aside0.mk (Kd.R_below (by (with_reducible repeat (first | apply Kd.R_alloc | apply Kd.R_drewN | apply Kd.R_drew)); exact HO187.out) hb); have n3_ := Aside0.mk (Kd.R_below (by (with_reducible repeat (first | apply Kd.R_alloc | apply Kd.R_drewN | apply Kd.R_drew)); exact HO191.out) hb); have n4_ := Aside0.mk (Kd.R_below (by (with_reducible repeat (first | apply Kd.R_alloc | apply Kd.R_drewN | apply Kd.R_drew)); exact HO194.out) hb); have n5_ := Aside0.mk (Kd.R_below (by (with_reducible repeat (first | apply Kd.R_alloc | apply Kd.R_drewN | apply Kd.R_drew)); exact HO197.out) hb); have n6_ := Aside0.mk (blk_below (g := gb176) (o := .cells #[.slice A3_0 l3_0.length c3_0, .slice A3_1 l3_1.length c3_1] 25 (0, 0)) (by (with_reducible repeat (first | refine blk_drewN ?_ _ | refine blk_drew ?_ | refine blk_alloc ?_ _)); exact BK176.out) hb); have n7_ := Aside0.mk (below_step (by repeat (first | (with_reducible first | exact HB.out | apply below_alloc | apply pw_below_drewN | apply below_drew1 | refine below_set ?_ GE176.out) | exact HB.out)) hb); have n8_ := Aside0.mk (hbox); have n9_ := Aside0.mk ((by rw [hg]; exact (below_size (by repeat (first | (with_reducible first | exact HB.out | apply below_alloc | apply pw_below_drewN | apply below_drew1 | refine below_set ?_ GE176.out) | exact HB.out))) : w.heap.size ≤ gb198)); have n10_ := Aside0.mk ((by rw [hg]; exact (below_size (by repeat (first | (with_reducible first | exact HB.out | apply below_alloc | apply pw_below_drewN | apply below_drew1 | refine below_set ?_ GE176.out) | exact HB.out))) : w.heap.size ≤ gb198)); have n11_ := Aside0.mk ((by rw [hg]; exact Nat.ne_of_lt (blk_lt (g := gb176) (o := .cells #[.slice A3_0 l3_0.length c3_0, .slice A3_1 l3_1.length c3_1] 25 (0, 0)) (by (with_reducible repeat (first | refine blk_drewN ?_ _ | refine blk_drew ?_ | refine blk_alloc ?_ _)); exact BK176.out)) : gb176 ≠ gb198)); have n12_ := Aside0.mk ((by rw [hg]; exact Nat.ne_of_gt (blk_lt (g := gb176) (o := .cells #[.slice A3_0 l3_0.length c3_0, .slice A3_1 l3_1.length c3_1] 25 (0, 0)) (by (with_reducible repeat (first | refine blk_drewN ?_ _ | refine blk_drew ?_ | refine blk_alloc ?_ _)); exact BK176.out)) : gb198 ≠ gb176)); clear HO181; clear HO184; clear HO187; clear HO191; clear HO194; clear HO197; clear BK176; clear HB; have HO181 := n0_; have HO184 := n1_; have HO187 := n2_; have HO191 := n3_; have HO194 := n4_; have HO197 := n5_; have BK176 := n6_; have HB := n7_; have BK198 := n8_; have GW198 := n9_; have GE198 := n10_; have NB176_198 := n11_; have NB198_176 := n12_; clear n0_ n1_ n2_ n3_ n4_ n5_ n6_ n7_ n8_ n9_ n10_ n11_ n12_; clear hb hbox hg; obtain ⟨Ao68, co68, eo68⟩ := Kd.R_slice HO194.out; subst eo68; have hnb69 := NB198_176.out; have hnc69 := NB176_198.out; have hcz70_0 : w67.cell? ⟨gb198, 0, none⟩ = some (.slice none 0 0) := (blk_cell BK198.out 0).trans rfl; have hcz70_1 : w67.cell? ⟨gb198, 1, none⟩ = some (.slice none 0 0) := (blk_cell BK198.out 1).trans rfl; have hfz70_0 := blk_frozen BK198.out 0; have hfz70_1 := blk_frozen BK198.out 1; obtain ⟨Ao71, co71, eo71⟩ := Kd.R_slice HO197.out; subst eo71; obtain ⟨Ao72, co72, eo72⟩ := Kd.R_slice HO191.out; subst eo72) | ((with_reducible refine gate_callee (f := 31) rfl ?_); refine goesL_ (some 39) rfl rfl Try.func31 (by kernel_rfl) rfl #[.slice Ao72 t189.length co72, .int .i64 a1, .int .i64 a2, .agg #[.slice Ao68 t192.length co68, .slice Ao71 t195.length co71]] rfl (by (try simp only [List.map_toArray, List.map_cons, List.map_nil]); first | done | rfl | (simp only [List.length_drop, List.length_take]; rfl)) ?_; (with_reducible refine (impl_StepChart.calls k _ _ t189 a1 a2 _ _ t192 _ _ t195 t199 _ ?side1 ?side2 ?side3 ?side4 ?side5 ?side6 A18.out).mono ?_); (case side1 => refine (Kd.R_reads' (e := 75) (base := w.heap.size) (ok := fun k_ => (True ∧ some k_ ≠ (.slice Ao60 t179.length co60 : Value).ownBlock)) (n := t189.length) (c := co72) ?_).2.2; exact (by (with_reducible repeat (first | apply Kd.R_alloc | apply Kd.R_drewN | apply Kd.R_drew)); exact (Kd.R_mono (Kd.R_far (p := ⟨gb198, 1, none⟩) (Kd.R_far (p := ⟨gb198, 0, none⟩) (Kd.R_types HO191.out BK198.out (by decide)) (fun _ hk => by first | exact hk.2 | exact trivial) (.slice Ao68 t192.length co68)) (fun _ hk => by first | exact hk.2 | exact trivial) (.slice Ao71 t195.length co71)) (fun _ h_ => h_.1)))); (case side2 => exact (Kd.R_reads' HO191.out).2.1); (case side3 => refine (Kd.R_reads' (e := 4) (base := w.heap.size) (ok := fun k_ => (True ∧ some k_ ≠ (.slice Ao61 t182.length co61 : Value).ownBlock)) (n := t192.length) (c := co68) ?_).2.2; exact (by (with_reducible repeat (first | apply Kd.R_alloc | apply Kd.R_drewN | apply Kd.R_drew)); exact (Kd.R_mono (Kd.R_far (p := ⟨gb198, 1, none⟩) (Kd.R_far (p := ⟨gb198, 0, none⟩) (Kd.R_types HO194.out BK198.out (by decide)) (fun _ hk => by first | exact hk.2 | exact trivial) (.slice Ao68 t192.length co68)) (fun _ hk => by first | exact hk.2 | exact trivial) (.slice Ao71 t195.length co71)) (fun _ h_ => h_.1)))); (case side4 => exact (Kd.R_reads' HO194.out).2.1); (case side5 => refine (Kd.R_reads' (e := 3) (base := w.heap.size) (ok := fun k_ => (True ∧ some k_ ≠ (.slice Ao62 t185.length co62 : Value).ownBlock)) (n := t195.length) (c := co71) ?_).2.2; exact (by (with_reducible repeat (first | apply Kd.R_alloc | apply Kd.R_drewN | apply Kd.R_drew)); exact (Kd.R_mono (Kd.R_far (p := ⟨gb198, 1, none⟩) (Kd.R_far (p := ⟨gb198, 0, none⟩) (Kd.R_types HO197.out BK198.out (by decide)) (fun _ hk => by first | exact hk.2 | exact trivial) (.slice Ao68 t192.length co68)) (fun _ hk => by first | exact hk.2 | exact trivial) (.slice Ao71 t195.length co71)) (fun _ h_ => h_.1)))); (case side6 => exact (Kd.R_reads' HO197.out).2.1); rintro e w73 ⟨rfl, hb⟩; refine ⟨_, rfl, ?_⟩; have n0_ := Aside0.mk (Kd.R_below (by (with_reducible repeat (first | apply Kd.R_alloc | apply Kd.R_drewN | apply Kd.R_drew)); exact (Kd.R_mono (Kd.R_far (p := ⟨gb198, 1, none⟩) (Kd.R_far (p := ⟨gb198, 0, none⟩) (Kd.R_types HO181.out BK198.out (by decide)) (fun _ hk => by first | exact hk.2 | exact trivial) (.slice Ao68 t192.length co68)) (fun _ hk => by first | exact hk.2 | exact trivial) (.slice Ao71 t195.length co71)) (fun _ h_ => h_.1))) hb); have n1_ := Aside0.mk (Kd.R_below (by (with_reducible repeat (first | apply Kd.R_alloc | apply Kd.R_drewN | apply Kd.R_drew)); exact (Kd.R_mono (Kd.R_far (p := ⟨gb198, 1, none⟩) (Kd.R_far (p := ⟨gb198, 0, none⟩) (Kd.R_types HO184.out BK198.out (by decide)) (fun _ hk => by first | exact hk.2 | exact trivial) (.slice Ao68 t192.length co68)) (fun _ hk => by first | exact hk.2 | exact trivial) (.slice Ao71 t195.length co71)) (fun _ h_ => h_.1))) hb); have n2_ := Aside0.mk (Kd.R_below (by (with_reducible repeat (first | apply Kd.R_alloc | apply Kd.R_drewN | apply Kd.R_drew)); exact (Kd.R_mono (Kd.R_far (p := ⟨gb198, 1, none⟩) (Kd.R_far (p := ⟨gb198, 0, none⟩) (Kd.R_types HO187.out BK198.out (by decide)) (fun _ hk => by first | exact hk.2 | exact trivial) (.slice Ao68 t192.length co68)) (fun _ hk => by first | exact hk.2 | exact trivial) (.slice Ao71 t195.length co71)) (fun _ h_ => h_.1))) hb); have n3_ := Aside0.mk (Kd.R_below (by (with_reducible repeat (first | apply Kd.R_alloc | apply Kd.R_drewN | apply Kd.R_drew)); exact (Kd.R_mono (Kd.R_far (p := ⟨gb198, 1, none⟩) (Kd.R_far (p := ⟨gb198, 0, none⟩) (Kd.R_types HO191.out BK198.out (by decide)) (fun _ hk => by first | exact hk.2 | exact trivial) (.slice Ao68 t192.length co68)) (fun _ hk => by first | exact hk.2 | exact trivial) (.slice Ao71 t195.length co71)) (fun _ h_ => h_.1))) hb); have n4_ := Aside0.mk (Kd.R_below (by (with_reducible repeat (first | apply Kd.R_alloc | apply Kd.R_drewN | apply Kd.R_drew)); exact (Kd.R_mono (Kd.R_far (p := ⟨gb198, 1, none⟩) (Kd.R_far (p := ⟨gb198, 0, none⟩) (Kd.R_types HO194.out BK198.out (by decide)) (fun _ hk => by first | exact hk.2 | exact trivial) (.slice Ao68 t192.length co68)) (fun _ hk => by first | exact hk.2 | exact trivial) (.slice Ao71 t195.length co71)) (fun _ h_ => h_.1))) hb); have n5_ := Aside0.mk (Kd.R_below (by (with_reducible repeat (first | apply Kd.R_alloc | apply Kd.R_drewN | apply Kd.R_drew)); exact (Kd.R_mono (Kd.R_far (p := ⟨gb198, 1, none⟩) (Kd.R_far (p := ⟨gb198, 0, none⟩) (Kd.R_types HO197.out BK198.out (by decide)) (fun _ hk => by first | exact hk.2 | exact trivial) (.slice Ao68 t192.length co68)) (fun _ hk => by first | exact hk.2 | exact trivial) (.slice Ao71 t195.length co71)) (fun _ h_ => h_.1))) hb); have n6_ := Aside0.mk (blk_below (g := gb176) (o := .cells #[.slice A3_0 l3_0.length c3_0, .slice A3_1 l3_1.length c3_1] 25 (0, 0)) (by (with_reducible repeat (first | refine blk_drewN ?_ _ | refine blk_drew ?_ | refine blk_alloc ?_ _)); refine blk_far ?_ NB176_198.out _; (with_reducible repeat (first | refine blk_drewN ?_ _ | refine blk_drew ?_ | refine blk_alloc ?_ _)); refine blk_far ?_ NB176_198.out _; (with_reducible repeat (first | refine blk_drewN ?_ _ | refine blk_drew ?_ | refine blk_alloc ?_ _)); exact BK176.out) hb); have n7_ := Aside0.mk (blk_below (g := gb198) (o := .cells #[.slice Ao68 t192.length co68, .slice Ao71 t195.length co71] 27 (0, 0)) (by (with_reducible repeat (first | refine blk_drewN ?_ _ | refine blk_drew ?_ | refine blk_alloc ?_ _)); refine blk_put (cs := #[.slice Ao68 t192.length co68, .slice none 0 0]) ?_ 1 _ rfl; (with_reducible repeat (first | refine blk_drewN ?_ _ | refine blk_drew ?_ | refine blk_alloc ?_ _)); refine blk_put (cs := #[.slice none 0 0, .slice none 0 0]) ?_ 0 _ rfl; (with_reducible repeat (first | refine blk_drewN ?_ _ | refine blk_drew ?_ | refine blk_alloc ?_ _)); exact BK198.out) hb); have n8_ := Aside0.mk (below_step (by repeat (first | (with_reducible first | exact HB.out | apply below_alloc | apply pw_below_drewN | apply below_drew1 | refine below_set ?_ GE176.out | refine below_set ?_ GE198.out) | exact HB.out)) hb); clear HO181; clear HO184; clear HO187; clear HO191; clear HO194; clear HO197; clear BK176; clear BK198; clear HB; have HO181 := n0_; have HO184 := n1_; have HO187 := n2_; have HO191 := n3_; have HO194 := n4_; have HO197 := n5_; have BK176 := n6_; have BK198 := n7_; have HB := n8_; clear n0_ n1_ n2_ n3_ n4_ n5_ n6_ n7_ n8_; (try clear hb); (try clear hb2); (try clear hk); (try clear hi)) | ((with_reducible refine gate_callee (f := 30) rfl ?_); refine goesL_ (some 45) rfl rfl Try.func30 (by kernel_rfl) rfl #[.slice A0 l0.length c0] rfl (by (try simp only [List.map_toArray, List.map_cons, List.map_nil]); first | done | rfl | (simp only [List.length_drop, List.length_take]; rfl)) ?_; (with_reducible refine (laws_toTransitionS.calls k _ _ l0 t200 _ ?side1 ?side2 A20.out).mono ?_); (case side1 => repeat (first | exact (Kd.C_below HR0.out HB.out) | (with_reducible refine Kd.C_alloc ?_ _) | (with_reducible refine Kd.C_drewN ?_ _) | (with_reducible refine Kd.C_drew ?_))); (case side2 => exact HC0.out); rintro e w74 ⟨v201, rfl, ho0, hb⟩; refine ⟨_, rfl, ?_⟩; have n0_ := Aside0.mk (Kd.R_elder' (by (with_reducible repeat (first | apply Kd.R_alloc | apply Kd.R_drewN | apply Kd.R_drew)); exact HO181.out) (Kd.R_base ho0) hb); have n1_ := Aside0.mk (Kd.R_below (by (with_reducible repeat (first | apply Kd.R_alloc | apply Kd.R_drewN | apply Kd.R_drew)); exact HO184.out) hb); have n2_ := Aside0.mk (Kd.R_below (by (with_reducible repeat (first | apply Kd.R_alloc | apply Kd.R_drewN | apply Kd.R_drew)); exact HO187.out) hb); have n3_ := Aside0.mk (Kd.R_elder' (by (with_reducible repeat (first | apply Kd.R_alloc | apply Kd.R_drewN | apply Kd.R_drew)); exact HO191.out) (Kd.R_base ho0) hb); have n4_ := Aside0.mk (Kd.R_below (by (with_reducible repeat (first | apply Kd.R_alloc | apply Kd.R_drewN | apply Kd.R_drew)); exact HO194.out) hb); have n5_ := Aside0.mk (Kd.R_below (by (with_reducible repeat (first | apply Kd.R_alloc | apply Kd.R_drewN | apply Kd.R_drew)); exact HO197.out) hb); have n6_ := Aside0.mk (Kd.R_lower (Kd.R_new' (Kd.R_new' ho0 (Kd.R_lt (by (with_reducible repeat (first | apply Kd.R_alloc | apply Kd.R_drewN | apply Kd.R_drew)); exact HO181.out))) (Kd.R_lt (by (with_reducible repeat (first | apply Kd.R_alloc | apply Kd.R_drewN | apply Kd.R_drew)); exact HO191.out))) (below_size (by repeat (first | (with_reducible first | exact HB.out | apply below_alloc | apply pw_below_drewN | apply below_drew1 | refine below_set ?_ GE176.out | refine below_set ?_ GE198.out) | exact HB.out)))); have n7_ := Aside0.mk (blk_below (g := gb176) (o := .cells #[.slice A3_0 l3_0.length c3_0, .slice A3_1 l3_1.length c3_1] 25 (0, 0)) (by (with_reducible repeat (first | refine blk_drewN ?_ _ | refine blk_drew ?_ | refine blk_alloc ?_ _)); exact BK176.out) hb); have n8_ := Aside0.mk (blk_below (g := gb198) (o := .cells #[.slice Ao68 t192.length co68, .slice Ao71 t195.length co71] 27 (0, 0)) (by (with_reducible repeat (first | refine blk_drewN ?_ _ | refine blk_drew ?_ | refine blk_alloc ?_ _)); exact BK198.out) hb); have n9_ := Aside0.mk (below_step (by repeat (first | (with_reducible first | exact HB.out | apply below_alloc | apply pw_below_drewN | apply below_drew1 | refine below_set ?_ GE176.out | refine below_set ?_ GE198.out) | exact HB.out)) hb); clear HO181; clear HO184; clear HO187; clear HO191; clear HO194; clear HO197; clear BK176; clear BK198; clear HB; have HO181 := n0_; have HO184 := n1_; have HO187 := n2_; have HO191 := n3_; have HO194 := n4_; have HO197 := n5_; have HO202 := n6_; have BK176 := n7_; have BK198 := n8_; have HB := n9_; clear n0_ n1_ n2_ n3_ n4_ n5_ n6_ n7_ n8_ n9_; (try clear hb); (try clear hb2); (try clear hk); (try clear hi); (try clear ho0); obtain ⟨Ao75, co75, eo75⟩ := Kd.R_slice HO202.out; subst eo75) | ((with_reducible refine gate_callee (f := 32) rfl ?_); refine goesL_ (some 46) rfl rfl Try.func32 (by kernel_rfl) rfl #[.slice Ao72 t189.length co72, .slice Ao75 t200.length co75] rfl (by (try simp only [List.map_toArray, List.map_cons, List.map_nil]); first | done | rfl | (simp only [List.length_drop, List.length_take]; rfl)) ?_; (with_reducible refine (laws_eqTransitionS.calls k _ _ t189 _ _ t200 true _ ?side1 ?side2 ?side3 ?side4 A21.out).mono ?_); (case side1 => repeat (first | exact (Kd.R_reads' HO191.out).2.2 | (with_reducible refine Kd.C_alloc ?_ _) | (with_reducible refine Kd.C_drewN ?_ _) | (with_reducible refine Kd.C_drew ?_))); (case side2 => exact (Kd.R_reads' HO191.out).2.1); (case side3 => repeat (first | exact (Kd.R_reads' HO202.out).2.2 | (with_reducible refine Kd.C_alloc ?_ _) | (with_reducible refine Kd.C_drewN ?_ _) | (with_reducible refine Kd.C_drew ?_))); (case side4 => exact (Kd.R_reads' HO202.out).2.1); rintro e w76 ⟨rfl, hb⟩; refine ⟨_, rfl, ?_⟩; have n0_ := Aside0.mk (Kd.R_below (by (with_reducible repeat (first | apply Kd.R_alloc | apply Kd.R_drewN | apply Kd.R_drew)); exact HO181.out) hb); have n1_ := Aside0.mk (Kd.R_below (by (with_reducible repeat (first | apply Kd.R_alloc | apply Kd.R_drewN | apply Kd.R_drew)); exact HO184.out) hb); have n2_ := Aside0.mk (Kd.R_below (by (with_reducible repeat (first | apply Kd.R_alloc | apply Kd.R_drewN | apply Kd.R_drew)); exact HO187.out) hb); have n3_ := Aside0.mk (Kd.R_below (by (with_reducible repeat (first | apply Kd.R_alloc | apply Kd.R_drewN | apply Kd.R_drew)); exact HO191.out) hb); have n4_ := Aside0.mk (Kd.R_below (by (with_reducible repeat (first | apply Kd.R_alloc | apply Kd.R_drewN | apply Kd.R_drew)); exact HO194.out) hb); have n5_ := Aside0.mk (Kd.R_below (by (with_reducible repeat (first | apply Kd.R_alloc | apply Kd.R_drewN | apply Kd.R_drew)); exact HO197.out) hb); have n6_ := Aside0.mk (Kd.R_below (by (with_reducible repeat (first | apply Kd.R_alloc | apply Kd.R_drewN | apply Kd.R_drew)); exact HO202.out) hb); have n7_ := Aside0.mk (blk_below (g := gb176) (o := .cells #[.slice A3_0 l3_0.length c3_0, .slice A3_1 l3_1.length c3_1] 25 (0, 0)) (by (with_reducible repeat (first | refine blk_drewN ?_ _ | refine blk_drew ?_ | refine blk_alloc ?_ _)); exact BK176.out) hb); have n8_ := Aside0.mk (blk_below (g := gb198) (o := .cells #[.slice Ao68 t192.length co68, .slice Ao71 t195.length co71] 27 (0, 0)) (by (with_reducible repeat (first | refine blk_drewN ?_ _ | refine blk_drew ?_ | refine blk_alloc ?_ _)); exact BK198.out) hb); have n9_ := Aside0.mk (below_step (by repeat (first | (with_reducible first | exact HB.out | apply below_alloc | apply pw_below_drewN | apply below_drew1 | refine below_set ?_ GE176.out | refine below_set ?_ GE198.out) | exact HB.out)) hb); clear HO181; clear HO184; clear HO187; clear HO191; clear HO194; clear HO197; clear HO202; clear BK176; clear BK198; clear HB; have HO181 := n0_; have HO184 := n1_; have HO187 := n2_; have HO191 := n3_; have HO194 := n4_; have HO197 := n5_; have HO202 := n6_; have BK176 := n7_; have BK198 := n8_; have HB := n9_; clear n0_ n1_ n2_ n3_ n4_ n5_ n6_ n7_ n8_ n9_; (try clear hb); (try clear hb2); (try clear hk); (try clear hi)))
            have n0_ := Aside0.mk (Kd.R_drew HO181.out)
            have n1_ := Aside0.mk (Kd.R_drew HO184.out)
            have n2_ := Aside0.mk (Kd.R_drew HO187.out)
            have n3_ := Aside0.mk (Kd.R_drew HO191.out)
            have n4_ := Aside0.mk (Kd.R_drew HO194.out)
            have n5_ := Aside0.mk (Kd.R_drew HO197.out)
            have n6_ := Aside0.mk (Kd.R_drew HO202.out)
            have n7_ := Aside0.mk (blk_drew BK176.out)
            have n8_ := Aside0.mk (blk_drew BK198.out)
            have n9_ := Aside0.mk (below_drew1 HB.out)
            clear HO181
            clear HO184
            clear HO187
            clear HO191
            clear HO194
            clear HO197
            clear HO202
            clear BK176
            clear BK198
            clear HB
            have HO181 := n0_
            have HO184 := n1_
            have HO187 := n2_
            have HO191 := n3_
            have HO194 := n4_
            have HO197 := n5_
            have HO202 := n6_
            have BK176 := n7_
            have BK198 := n8_
            have HB := n9_
            clear n0_ n1_ n2_ n3_ n4_ n5_ n6_ n7_ n8_ n9_
            refine start_ (n := 5) (S := fun w' => w'.cell? ⟨gb198, 0, none⟩ = some (.slice Ao68 t192.length co68) ∧ w'.cell? ⟨gb198, 1, none⟩ = some (.slice Ao71 t195.length co71) ∧ w'.cell? ⟨gb176, 0, none⟩ = some (.slice A3_0 l3_0.length c3_0) ∧ w'.cell? ⟨gb176, 1, none⟩ = some (.slice A3_1 l3_1.length c3_1)) (ds := []) #[false, false, false, false, false] (by kernel_rfl) rfl rfl ⟨(blk_cell BK198.out 0).trans rfl, (blk_cell BK198.out 1).trans rfl, (blk_cell BK176.out 0).trans rfl, (blk_cell BK176.out 1).trans rfl⟩ (fun hHeld => ?_)
            generalize w76.drew = w77 at HO181 HO184 HO187 HO191 HO194 HO197 HO202 BK176 BK198 HB hHeld ⊢
            refine take_ (i := 0) (N := some 48) (v := ?_) (a' := ?_) #[true, false, false, false, false] rfl rfl (by kernel_rfl) (fun _ _ _ h => h) (Or.inl ⟨by rfl, ?_⟩) hHeld ?_ ?_
            rotate_left
            · rintro w' ⟨s0, s1, s2, s3⟩
              go_simp
              with_reducible rfl
            rotate_left
            · simp only [Act.put, List.setIfInBounds_toArray, List.set_cons_zero, List.set_cons_succ, i64_w, i32_w]
              rfl
            refine take_ (i := 1) (N := some 49) (v := ?_) (a' := ?_) #[true, true, false, false, false] rfl rfl (by kernel_rfl) (fun _ _ _ h => h) (Or.inl ⟨by rfl, ?_⟩) hHeld ?_ ?_
            rotate_left
            · rintro w' ⟨s0, s1, s2, s3⟩
              go_simp
              with_reducible rfl
            rotate_left
            · simp only [Act.put, List.setIfInBounds_toArray, List.set_cons_zero, List.set_cons_succ, i64_w, i32_w]
              rfl
            refine one_ (i := 2) (N := some 50) #[true, true, true, false, false] rfl rfl (by kernel_rfl) (by decide) (fun K hK => ?_)
            refine goes_ Try.func10 (by kernel_rfl) rfl #[.agg #[.slice A3_0 l3_0.length c3_0, .slice A3_1 l3_1.length c3_1]] (by rfl) rfl rfl (by (try simp only [List.map_toArray, List.map_cons, List.map_nil]); first | done | rfl | (simp only [List.length_drop, List.length_take]; rfl)) ?_
            with_reducible refine (laws_toImage.calls k _ _ l3_0 _ _ l3_1 t204 t207 _ ?side1 ?side2 ?side3 ?side4 A23.out).mono ?_
            (case side1 => repeat (first | exact (Kd.C_below HR3_0.out HB.out) | (with_reducible refine Kd.C_alloc ?_ _) | (with_reducible refine Kd.C_drewN ?_ _) | (with_reducible refine Kd.C_drew ?_)))
            (case side2 => exact HC3_0.out)
            (case side3 => repeat (first | exact (Kd.C_below HR3_1.out HB.out) | (with_reducible refine Kd.C_alloc ?_ _) | (with_reducible refine Kd.C_drewN ?_ _) | (with_reducible refine Kd.C_drew ?_)))
            (case side4 => exact HC3_1.out)
            rintro e w78 ⟨v205, v208, rfl, ho0, ho1, hb⟩
            refine ⟨_, rfl, ?_⟩
            have n0_ := Aside0.mk (Kd.R_below (by (with_reducible repeat (first | apply Kd.R_alloc | apply Kd.R_drewN | apply Kd.R_drew)); exact HO181.out) hb)
            have n1_ := Aside0.mk (Kd.R_elder' (by (with_reducible repeat (first | apply Kd.R_alloc | apply Kd.R_drewN | apply Kd.R_drew)); exact HO184.out) (Kd.R_base ho0) hb)
            have n2_ := Aside0.mk (Kd.R_elder' (by (with_reducible repeat (first | apply Kd.R_alloc | apply Kd.R_drewN | apply Kd.R_drew)); exact HO187.out) (Kd.R_base ho1) hb)
            have n3_ := Aside0.mk (Kd.R_below (by (with_reducible repeat (first | apply Kd.R_alloc | apply Kd.R_drewN | apply Kd.R_drew)); exact HO191.out) hb)
            have n4_ := Aside0.mk (Kd.R_elder' (by (with_reducible repeat (first | apply Kd.R_alloc | apply Kd.R_drewN | apply Kd.R_drew)); exact HO194.out) (Kd.R_base ho0) hb)
            have n5_ := Aside0.mk (Kd.R_elder' (by (with_reducible repeat (first | apply Kd.R_alloc | apply Kd.R_drewN | apply Kd.R_drew)); exact HO197.out) (Kd.R_base ho1) hb)
            have n6_ := Aside0.mk (Kd.R_below (by (with_reducible repeat (first | apply Kd.R_alloc | apply Kd.R_drewN | apply Kd.R_drew)); exact HO202.out) hb)
            have n7_ := Aside0.mk (Kd.R_lower (Kd.R_new' (Kd.R_new' ho0 (Kd.R_lt (by (with_reducible repeat (first | apply Kd.R_alloc | apply Kd.R_drewN | apply Kd.R_drew)); exact HO184.out))) (Kd.R_lt (by (with_reducible repeat (first | apply Kd.R_alloc | apply Kd.R_drewN | apply Kd.R_drew)); exact HO194.out))) (below_size (by repeat (first | (with_reducible first | exact HB.out | apply below_alloc | apply pw_below_drewN | apply below_drew1 | refine below_set ?_ GE176.out | refine below_set ?_ GE198.out) | exact HB.out))))
            have n8_ := Aside0.mk (Kd.R_lower (Kd.R_new' (Kd.R_new' ho1 (Kd.R_lt (by (with_reducible repeat (first | apply Kd.R_alloc | apply Kd.R_drewN | apply Kd.R_drew)); exact HO187.out))) (Kd.R_lt (by (with_reducible repeat (first | apply Kd.R_alloc | apply Kd.R_drewN | apply Kd.R_drew)); exact HO197.out))) (below_size (by repeat (first | (with_reducible first | exact HB.out | apply below_alloc | apply pw_below_drewN | apply below_drew1 | refine below_set ?_ GE176.out | refine below_set ?_ GE198.out) | exact HB.out))))
            have n9_ := Aside0.mk (blk_below (g := gb176) (o := .cells #[.slice A3_0 l3_0.length c3_0, .slice A3_1 l3_1.length c3_1] 25 (0, 0)) (by (with_reducible repeat (first | refine blk_drewN ?_ _ | refine blk_drew ?_ | refine blk_alloc ?_ _)); exact BK176.out) hb)
            have n10_ := Aside0.mk (blk_below (g := gb198) (o := .cells #[.slice Ao68 t192.length co68, .slice Ao71 t195.length co71] 27 (0, 0)) (by (with_reducible repeat (first | refine blk_drewN ?_ _ | refine blk_drew ?_ | refine blk_alloc ?_ _)); exact BK198.out) hb)
            have n11_ := Aside0.mk (below_step (by repeat (first | (with_reducible first | exact HB.out | apply below_alloc | apply pw_below_drewN | apply below_drew1 | refine below_set ?_ GE176.out | refine below_set ?_ GE198.out) | exact HB.out)) hb)
            clear HO181
            clear HO184
            clear HO187
            clear HO191
            clear HO194
            clear HO197
            clear HO202
            clear BK176
            clear BK198
            clear HB
            have HO181 := n0_
            have HO184 := n1_
            have HO187 := n2_
            have HO191 := n3_
            have HO194 := n4_
            have HO197 := n5_
            have HO202 := n6_
            have HO206 := n7_
            have HO209 := n8_
            have BK176 := n9_
            have BK198 := n10_
            have HB := n11_
            clear n0_ n1_ n2_ n3_ n4_ n5_ n6_ n7_ n8_ n9_ n10_ n11_
            (try clear hb)
            (try clear hb2)
            (try clear hk)
            (try clear hi)
            (try clear ho0)
            (try clear ho1)
            obtain ⟨Ao79, co79, eo79⟩ := Kd.R_slice HO206.out
            (first | subst eo79 | (injection eo79 with f1_ f2_ f3_; have f4_ := f1_.symm; have f5_ := f3_.symm; clear f1_ f2_ f3_; subst f4_; subst f5_))
            obtain ⟨Ao80, co80, eo80⟩ := Kd.R_slice HO209.out
            (first | subst eo80 | (injection eo80 with f1_ f2_ f3_; have f4_ := f1_.symm; have f5_ := f3_.symm; clear f1_ f2_ f3_; subst f4_; subst f5_))
            refine hK.out _ _ ⟨(blk_cell BK198.out 0).trans rfl, (blk_cell BK198.out 1).trans rfl, (blk_cell BK176.out 0).trans rfl, (blk_cell BK176.out 1).trans rfl⟩ (fun hHeld => ?_)
            clear hK K
            refine norm_ (a' := ?_) ?_ ?_
            rotate_left
            · show Act.put _ (some 50) _ = _
              simp only [Act.put, List.setIfInBounds_toArray, List.set_cons_zero, List.set_cons_succ, i64_w, i32_w]
              rfl
            refine one_ (i := 3) (N := some 51) #[true, true, true, true, false] rfl rfl (by kernel_rfl) (by decide) (fun K hK => ?_)
            refine goes_ Try.func12 (by kernel_rfl) rfl #[.agg #[.slice Ao68 t192.length co68, .slice Ao71 t195.length co71], .agg #[.slice Ao79 t204.length co79, .slice Ao80 t207.length co80]] (by rfl) rfl rfl (by (try simp only [List.map_toArray, List.map_cons, List.map_nil]); first | done | rfl | (simp only [List.length_drop, List.length_take]; rfl)) ?_
            with_reducible refine (laws_eqImage.calls k _ _ t192 _ _ t195 _ _ t204 _ _ t207 false _ ?side1 ?side2 ?side3 ?side4 ?side5 ?side6 ?side7 ?side8 A24.out).mono ?_
            (case side1 => repeat (first | exact (Kd.R_reads' HO194.out).2.2 | (with_reducible refine Kd.C_alloc ?_ _) | (with_reducible refine Kd.C_drewN ?_ _) | (with_reducible refine Kd.C_drew ?_)))
            (case side2 => exact (Kd.R_reads' HO194.out).2.1)
            (case side3 => repeat (first | exact (Kd.R_reads' HO197.out).2.2 | (with_reducible refine Kd.C_alloc ?_ _) | (with_reducible refine Kd.C_drewN ?_ _) | (with_reducible refine Kd.C_drew ?_)))
            (case side4 => exact (Kd.R_reads' HO197.out).2.1)
            (case side5 => repeat (first | exact (Kd.R_reads' HO206.out).2.2 | (with_reducible refine Kd.C_alloc ?_ _) | (with_reducible refine Kd.C_drewN ?_ _) | (with_reducible refine Kd.C_drew ?_)))
            (case side6 => exact (Kd.R_reads' HO206.out).2.1)
            (case side7 => repeat (first | exact (Kd.R_reads' HO209.out).2.2 | (with_reducible refine Kd.C_alloc ?_ _) | (with_reducible refine Kd.C_drewN ?_ _) | (with_reducible refine Kd.C_drew ?_)))
            (case side8 => exact (Kd.R_reads' HO209.out).2.1)
            rintro e w81 ⟨rfl, hb⟩
            refine ⟨_, rfl, ?_⟩
            have n0_ := Aside0.mk (Kd.R_below (by (with_reducible repeat (first | apply Kd.R_alloc | apply Kd.R_drewN | apply Kd.R_drew)); exact HO181.out) hb)
            have n1_ := Aside0.mk (Kd.R_below (by (with_reducible repeat (first | apply Kd.R_alloc | apply Kd.R_drewN | apply Kd.R_drew)); exact HO184.out) hb)
            have n2_ := Aside0.mk (Kd.R_below (by (with_reducible repeat (first | apply Kd.R_alloc | apply Kd.R_drewN | apply Kd.R_drew)); exact HO187.out) hb)
            have n3_ := Aside0.mk (Kd.R_below (by (with_reducible repeat (first | apply Kd.R_alloc | apply Kd.R_drewN | apply Kd.R_drew)); exact HO191.out) hb)
            have n4_ := Aside0.mk (Kd.R_below (by (with_reducible repeat (first | apply Kd.R_alloc | apply Kd.R_drewN | apply Kd.R_drew)); exact HO194.out) hb)
            have n5_ := Aside0.mk (Kd.R_below (by (with_reducible repeat (first | apply Kd.R_alloc | apply Kd.R_drewN | apply Kd.R_drew)); exact HO197.out) hb)
            have n6_ := Aside0.mk (Kd.R_below (by (with_reducible repeat (first | apply Kd.R_alloc | apply Kd.R_drewN | apply Kd.R_drew)); exact HO202.out) hb)
            have n7_ := Aside0.mk (Kd.R_below (by (with_reducible repeat (first | apply Kd.R_alloc | apply Kd.R_drewN | apply Kd.R_drew)); exact HO206.out) hb)
            have n8_ := Aside0.mk (Kd.R_below (by (with_reducible repeat (first | apply Kd.R_alloc | apply Kd.R_drewN | apply Kd.R_drew)); exact HO209.out) hb)
            have n9_ := Aside0.mk (blk_below (g := gb176) (o := .cells #[.slice A3_0 l3_0.length c3_0, .slice A3_1 l3_1.length c3_1] 25 (0, 0)) (by (with_reducible repeat (first | refine blk_drewN ?_ _ | refine blk_drew ?_ | refine blk_alloc ?_ _)); exact BK176.out) hb)
            have n10_ := Aside0.mk (blk_below (g := gb198) (o := .cells #[.slice Ao68 t192.length co68, .slice Ao71 t195.length co71] 27 (0, 0)) (by (with_reducible repeat (first | refine blk_drewN ?_ _ | refine blk_drew ?_ | refine blk_alloc ?_ _)); exact BK198.out) hb)
            have n11_ := Aside0.mk (below_step (by repeat (first | (with_reducible first | exact HB.out | apply below_alloc | apply pw_below_drewN | apply below_drew1 | refine below_set ?_ GE176.out | refine below_set ?_ GE198.out) | exact HB.out)) hb)
            clear HO181
            clear HO184
            clear HO187
            clear HO191
            clear HO194
            clear HO197
            clear HO202
            clear HO206
            clear HO209
            clear BK176
            clear BK198
            clear HB
            have HO181 := n0_
            have HO184 := n1_
            have HO187 := n2_
            have HO191 := n3_
            have HO194 := n4_
            have HO197 := n5_
            have HO202 := n6_
            have HO206 := n7_
            have HO209 := n8_
            have BK176 := n9_
            have BK198 := n10_
            have HB := n11_
            clear n0_ n1_ n2_ n3_ n4_ n5_ n6_ n7_ n8_ n9_ n10_ n11_
            (try clear hb)
            (try clear hb2)
            (try clear hk)
            (try clear hi)
            refine hK.out _ _ ⟨(blk_cell BK198.out 0).trans rfl, (blk_cell BK198.out 1).trans rfl, (blk_cell BK176.out 0).trans rfl, (blk_cell BK176.out 1).trans rfl⟩ (fun hHeld => ?_)
            clear hK K
            refine norm_ (a' := ?_) ?_ ?_
            rotate_left
            · show Act.put _ (some 51) _ = _
              simp only [Act.put, List.setIfInBounds_toArray, List.set_cons_zero, List.set_cons_succ, i64_w, i32_w]
              rfl
            refine pure_ (i := 4) (N := some 52) (v := ?_) (a' := ?_) #[true, true, true, true, true] rfl rfl (by kernel_rfl) (fun _ _ _ h => h) (Or.inl ⟨by rfl, ?_⟩) ?_ ?_
            rotate_left
            · intro w'
              go_simp
              with_reducible rfl
            rotate_left
            · simp only [Act.put, List.setIfInBounds_toArray, List.set_cons_zero, List.set_cons_succ, i64_w, i32_w]
              rfl
            refine done_ (by kernel_rfl) ?_
            try go_wp2
            go_ret
            exact ⟨by first | rfl | (simp [errW_none, errW_some] <;> rfl) | (simp [*, errW_none, errW_some] <;> rfl), by repeat (first | (with_reducible first | exact HB.out | apply below_alloc | apply pw_below_drewN | apply below_drew1 | refine below_set ?_ GE176.out | refine below_set ?_ GE198.out) | exact HB.out)⟩
        · replace c22 := Bool.eq_false_iff.mpr c22
          subst c22
          have H1 : (some false) = some r := by rw [if_neg (show ¬ (false = true) by decide)] at H; exact H
          clear H
          have H := H1
          clear H1
          obtain rfl := Option.some.inj H
          go_enter Try.func7, Try.ntmps7
          try go_wp2_with (first | ((with_reducible refine gate_dst (N := 7) rfl ?_); refine box_event ?hg (N := 7) ?hd (cs := #[.slice A3_0 l3_0.length c3_0, .slice A3_1 l3_1.length c3_1]) (t := 25) ?hr ?_; (case hd => rfl); (case hg => rfl); (case hr => first | (go_simp; done) | (go_simp; rfl)); intro gb176 hg w82 hbox hb; have n0_ := Aside0.mk (below_step (by repeat (first | (with_reducible first | exact HB.out | apply below_alloc | apply pw_below_drewN | apply below_drew1) | exact HB.out)) hb); have n1_ := Aside0.mk (hbox); have n2_ := Aside0.mk ((by rw [hg]; exact (below_size (by repeat (first | (with_reducible first | exact HB.out | apply below_alloc | apply pw_below_drewN | apply below_drew1) | exact HB.out))) : w.heap.size ≤ gb176)); have n3_ := Aside0.mk ((by rw [hg]; exact (below_size (by repeat (first | (with_reducible first | exact HB.out | apply below_alloc | apply pw_below_drewN | apply below_drew1) | exact HB.out))) : w.heap.size ≤ gb176)); clear HB; have HB := n0_; have BK176 := n1_; have GW176 := n2_; have GE176 := n3_; clear n0_ n1_ n2_ n3_; clear hb hbox hg) | ((with_reducible refine gate_callee (f := 28) rfl ?_); refine goesL_ (some 16) rfl rfl Try.func28 (by kernel_rfl) rfl #[.slice A0 l0.length c0, .int .i64 1048576] rfl (by (try simp only [List.map_toArray, List.map_cons, List.map_nil]); first | done | rfl | (simp only [List.length_drop, List.length_take]; rfl)) ?_; (with_reducible refine (laws_szTransitionS.calls _ _ l0 1048576 t177 _ ?side1 ?side2 A5.out).mono ?_); (case side1 => repeat (first | exact (Kd.C_below HR0.out HB.out) | (with_reducible refine Kd.C_alloc ?_ _) | (with_reducible refine Kd.C_drewN ?_ _) | (with_reducible refine Kd.C_drew ?_))); (case side2 => exact HC0.out); rintro e w' ⟨rfl, ⟨nd, rfl⟩⟩; refine ⟨_, rfl, ?_⟩; (try (rw [drewN_self w82]; generalize hq_ : World.drewN w82 _ = w82; have n0_ : Aside0 (w82.heap[gb176]? = some (.cells #[.slice A3_0 l3_0.length c3_0, .slice A3_1 l3_1.length c3_1] 25 (0, 0))) := ⟨by rw [← hq_]; exact (by (with_reducible repeat (first | refine blk_drewN ?_ _ | refine blk_drew ?_ | refine blk_alloc ?_ _)); exact BK176.out)⟩; have n1_ : Aside0 (Below w.heap.size w w82) := ⟨by rw [← hq_]; exact (by repeat (first | (with_reducible first | exact HB.out | apply below_alloc | apply pw_below_drewN | apply below_drew1 | refine below_set ?_ GE176.out) | exact HB.out))⟩; clear BK176 HB hq_; have BK176 := n0_; have HB := n1_; clear n0_ n1_)); have hcz83_0 : w82.cell? ⟨gb176, 0, none⟩ = some (.slice A3_0 l3_0.length c3_0) := (blk_cell BK176.out 0).trans rfl; have hcz83_1 : w82.cell? ⟨gb176, 1, none⟩ = some (.slice A3_1 l3_1.length c3_1) := (blk_cell BK176.out 1).trans rfl; have hfz83_0 := blk_frozen BK176.out 0; have hfz83_1 := blk_frozen BK176.out 1) | ((with_reducible refine gate_callee (f := 8) rfl ?_); refine goesL_ (some 21) rfl rfl Try.func8 (by kernel_rfl) rfl #[.agg #[.slice A3_0 l3_0.length c3_0, .slice A3_1 l3_1.length c3_1], .int .i64 t177] rfl (by (try simp only [List.map_toArray, List.map_cons, List.map_nil]); first | done | rfl | (simp only [List.length_drop, List.length_take]; rfl)) ?_; (with_reducible refine (laws_szImage.calls _ _ l3_0 _ _ l3_1 t177 t178 _ ?side1 ?side2 ?side3 ?side4 A8.out).mono ?_); (case side1 => repeat (first | exact (Kd.C_below HR3_0.out HB.out) | (with_reducible refine Kd.C_alloc ?_ _) | (with_reducible refine Kd.C_drewN ?_ _) | (with_reducible refine Kd.C_drew ?_))); (case side2 => exact HC3_0.out); (case side3 => repeat (first | exact (Kd.C_below HR3_1.out HB.out) | (with_reducible refine Kd.C_alloc ?_ _) | (with_reducible refine Kd.C_drewN ?_ _) | (with_reducible refine Kd.C_drew ?_))); (case side4 => exact HC3_1.out); rintro e w84 ⟨rfl, hb⟩; refine ⟨_, rfl, ?_⟩; have n0_ := Aside0.mk (blk_below (g := gb176) (o := .cells #[.slice A3_0 l3_0.length c3_0, .slice A3_1 l3_1.length c3_1] 25 (0, 0)) (by (with_reducible repeat (first | refine blk_drewN ?_ _ | refine blk_drew ?_ | refine blk_alloc ?_ _)); exact BK176.out) hb); have n1_ := Aside0.mk (below_step (by repeat (first | (with_reducible first | exact HB.out | apply below_alloc | apply pw_below_drewN | apply below_drew1 | refine below_set ?_ GE176.out) | exact HB.out)) hb); clear BK176; clear HB; have BK176 := n0_; have HB := n1_; clear n0_ n1_; (try clear hb); (try clear hb2); (try clear hk); (try clear hi)))
          have n0_ := Aside0.mk (blk_drew BK176.out)
          have n1_ := Aside0.mk (below_drew1 HB.out)
          clear BK176
          clear HB
          have BK176 := n0_
          have HB := n1_
          clear n0_ n1_
          refine start_ (n := 8) (S := fun w' => w'.cell? ⟨gb176, 0, none⟩ = some (.slice A3_0 l3_0.length c3_0) ∧ w'.cell? ⟨gb176, 1, none⟩ = some (.slice A3_1 l3_1.length c3_1)) (ds := []) #[false, false, false, false, false, false, false, false] (by kernel_rfl) rfl rfl ⟨(blk_cell BK176.out 0).trans rfl, (blk_cell BK176.out 1).trans rfl⟩ (fun hHeld => ?_); refine with_tabW laws_FnExactStepChart.tab8 laws_FnExactStepChart.bits8 (fun HT_ HW_ => ?_)
          generalize w84.drew = w85 at BK176 HB hHeld ⊢
          refine pure_ (i := 0) (N := some 24) (v := ?_) (a' := ?_) #[true, false, false, false, false, false, false, false] rfl rfl (any_of HT_.out (by kernel_rfl)) (fun _ _ _ h => h) (Or.inl ⟨by rfl, ?_⟩) ?_ ?_
          rotate_left
          · intro w'
            go_simp
            with_reducible rfl
          rotate_left
          · simp only [Act.put, List.setIfInBounds_toArray, List.set_cons_zero, List.set_cons_succ, i64_w, i32_w]
            rfl
          refine pure_ (i := 2) (N := some 26) (v := ?_) (a' := ?_) #[true, false, true, false, false, false, false, false] rfl rfl (any_of HT_.out (by kernel_rfl)) (fun _ _ _ h => h) (Or.inl ⟨by rfl, ?_⟩) ?_ ?_
          rotate_left
          · intro w'
            go_simp
            with_reducible rfl
          rotate_left
          · simp only [Act.put, List.setIfInBounds_toArray, List.set_cons_zero, List.set_cons_succ, i64_w, i32_w]
            rfl
          refine pure_ (i := 3) (N := some 27) (v := ?_) (a' := ?_) #[true, false, true, true, false, false, false, false] rfl rfl (any_of HT_.out (by kernel_rfl)) (fun _ _ _ h => h) (Or.inl ⟨by rfl, ?_⟩) ?_ ?_
          rotate_left
          · intro w'
            go_simp
            with_reducible rfl
          rotate_left
          · simp only [Act.put, List.setIfInBounds_toArray, List.set_cons_zero, List.set_cons_succ, i64_w, i32_w]
            rfl
          refine take_ (i := 4) (N := some 28) (v := ?_) (a' := ?_) #[true, false, true, true, true, false, false, false] rfl rfl (take_ofW HT_.out HW_.out (by kernel_rfl)) (fun _ _ _ h => h) (Or.inl ⟨by rfl, ?_⟩) hHeld ?_ ?_
          rotate_left
          · rintro w' ⟨s0, s1⟩
            go_simp
            with_reducible rfl
          rotate_left
          · simp only [Act.put, List.setIfInBounds_toArray, List.set_cons_zero, List.set_cons_succ, i64_w, i32_w]
            rfl
          refine one_ (i := 1) (N := some 25) #[true, true, true, true, true, false, false, false] rfl rfl (one_of HT_.out (by kernel_rfl)) (by decide) (fun K hK => ?_)
          refine goes_ Try.func30 (by kernel_rfl) rfl #[.slice A0 l0.length c0] (by rfl) rfl rfl (by (try simp only [List.map_toArray, List.map_cons, List.map_nil]); first | done | rfl | (simp only [List.length_drop, List.length_take]; rfl)) ?_
          with_reducible refine (laws_toTransitionS.calls k _ _ l0 t179 _ ?side1 ?side2 A13.out).mono ?_
          (case side1 => repeat (first | exact (Kd.C_below HR0.out HB.out) | (with_reducible refine Kd.C_alloc ?_ _) | (with_reducible refine Kd.C_drewN ?_ _) | (with_reducible refine Kd.C_drew ?_)))
          (case side2 => exact HC0.out)
          rintro e w86 ⟨v180, rfl, ho0, hb⟩
          refine ⟨_, rfl, ?_⟩
          have n0_ := Aside0.mk (Kd.R_lower ho0 (below_size (by repeat (first | (with_reducible first | exact HB.out | apply below_alloc | apply pw_below_drewN | apply below_drew1 | refine below_set ?_ GE176.out) | exact HB.out))))
          have n1_ := Aside0.mk (blk_below (g := gb176) (o := .cells #[.slice A3_0 l3_0.length c3_0, .slice A3_1 l3_1.length c3_1] 25 (0, 0)) (by (with_reducible repeat (first | refine blk_drewN ?_ _ | refine blk_drew ?_ | refine blk_alloc ?_ _)); exact BK176.out) hb)
          have n2_ := Aside0.mk (below_step (by repeat (first | (with_reducible first | exact HB.out | apply below_alloc | apply pw_below_drewN | apply below_drew1 | refine below_set ?_ GE176.out) | exact HB.out)) hb)
          clear BK176
          clear HB
          have HO181 := n0_
          have BK176 := n1_
          have HB := n2_
          clear n0_ n1_ n2_
          (try clear hb)
          (try clear hb2)
          (try clear hk)
          (try clear hi)
          (try clear ho0)
          refine hK.out _ _ ⟨(blk_cell BK176.out 0).trans rfl, (blk_cell BK176.out 1).trans rfl⟩ (fun hHeld => ?_)
          clear hK K
          refine norm_ (a' := ?_) ?_ ?_
          rotate_left
          · show Act.put _ (some 25) _ = _
            simp only [Act.put, List.setIfInBounds_toArray, List.set_cons_zero, List.set_cons_succ, i64_w, i32_w]
            rfl
          refine one_ (i := 5) (N := some 29) #[true, true, true, true, true, true, false, false] rfl rfl (one_of HT_.out (by kernel_rfl)) (by decide) (fun K hK => ?_)
          refine goes_ Try.func10 (by kernel_rfl) rfl #[.agg #[.slice A3_0 l3_0.length c3_0, .slice A3_1 l3_1.length c3_1]] (by rfl) rfl rfl (by (try simp only [List.map_toArray, List.map_cons, List.map_nil]); first | done | rfl | (simp only [List.length_drop, List.length_take]; rfl)) ?_
          with_reducible refine (laws_toImage.calls k _ _ l3_0 _ _ l3_1 t182 t185 _ ?side1 ?side2 ?side3 ?side4 A14.out).mono ?_
          (case side1 => repeat (first | exact (Kd.C_below HR3_0.out HB.out) | (with_reducible refine Kd.C_alloc ?_ _) | (with_reducible refine Kd.C_drewN ?_ _) | (with_reducible refine Kd.C_drew ?_)))
          (case side2 => exact HC3_0.out)
          (case side3 => repeat (first | exact (Kd.C_below HR3_1.out HB.out) | (with_reducible refine Kd.C_alloc ?_ _) | (with_reducible refine Kd.C_drewN ?_ _) | (with_reducible refine Kd.C_drew ?_)))
          (case side4 => exact HC3_1.out)
          rintro e w87 ⟨v183, v186, rfl, ho0, ho1, hb⟩
          refine ⟨_, rfl, ?_⟩
          have n0_ := Aside0.mk (Kd.R_below (by (with_reducible repeat (first | apply Kd.R_alloc | apply Kd.R_drewN | apply Kd.R_drew)); exact HO181.out) hb)
          have n1_ := Aside0.mk (Kd.R_lower ho0 (below_size (by repeat (first | (with_reducible first | exact HB.out | apply below_alloc | apply pw_below_drewN | apply below_drew1 | refine below_set ?_ GE176.out) | exact HB.out))))
          have n2_ := Aside0.mk (Kd.R_lower ho1 (below_size (by repeat (first | (with_reducible first | exact HB.out | apply below_alloc | apply pw_below_drewN | apply below_drew1 | refine below_set ?_ GE176.out) | exact HB.out))))
          have n3_ := Aside0.mk (blk_below (g := gb176) (o := .cells #[.slice A3_0 l3_0.length c3_0, .slice A3_1 l3_1.length c3_1] 25 (0, 0)) (by (with_reducible repeat (first | refine blk_drewN ?_ _ | refine blk_drew ?_ | refine blk_alloc ?_ _)); exact BK176.out) hb)
          have n4_ := Aside0.mk (below_step (by repeat (first | (with_reducible first | exact HB.out | apply below_alloc | apply pw_below_drewN | apply below_drew1 | refine below_set ?_ GE176.out) | exact HB.out)) hb)
          clear HO181
          clear BK176
          clear HB
          have HO181 := n0_
          have HO184 := n1_
          have HO187 := n2_
          have BK176 := n3_
          have HB := n4_
          clear n0_ n1_ n2_ n3_ n4_
          (try clear hb)
          (try clear hb2)
          (try clear hk)
          (try clear hi)
          (try clear ho0)
          (try clear ho1)
          obtain ⟨Ao88, co88, eo88⟩ := Kd.R_slice HO181.out
          (first | subst eo88 | (injection eo88 with f1_ f2_ f3_; have f4_ := f1_.symm; have f5_ := f3_.symm; clear f1_ f2_ f3_; subst f4_; subst f5_))
          obtain ⟨Ao89, co89, eo89⟩ := Kd.R_slice HO184.out
          (first | subst eo89 | (injection eo89 with f1_ f2_ f3_; have f4_ := f1_.symm; have f5_ := f3_.symm; clear f1_ f2_ f3_; subst f4_; subst f5_))
          obtain ⟨Ao90, co90, eo90⟩ := Kd.R_slice HO187.out
          (first | subst eo90 | (injection eo90 with f1_ f2_ f3_; have f4_ := f1_.symm; have f5_ := f3_.symm; clear f1_ f2_ f3_; subst f4_; subst f5_))
          refine hK.out _ _ ⟨(blk_cell BK176.out 0).trans rfl, (blk_cell BK176.out 1).trans rfl⟩ (fun hHeld => ?_)
          clear hK K
          refine norm_ (a' := ?_) ?_ ?_
          rotate_left
          · show Act.put _ (some 29) _ = _
            simp only [Act.put, List.setIfInBounds_toArray, List.set_cons_zero, List.set_cons_succ, i64_w, i32_w]
            rfl
          refine one_ (i := 6) (N := some 30) #[true, true, true, true, true, true, true, false] rfl rfl (one_of HT_.out (by kernel_rfl)) (by decide) (fun K hK => ?_)
          refine goes_ Try.func29 (by kernel_rfl) rfl #[.slice Ao88 t179.length co88, .int .i64 a1, .int .i64 a2, .agg #[.slice Ao89 t182.length co89, .slice Ao90 t185.length co90]] (by rfl) rfl rfl (by (try simp only [List.map_toArray, List.map_cons, List.map_nil]); first | done | rfl | (simp only [List.length_drop, List.length_take]; rfl)) ?_
          with_reducible refine (spec_StepChart.calls k _ _ t179 a1 a2 _ _ t182 _ _ t185 t188 _ ?side1 ?side2 ?side3 ?side4 ?side5 ?side6 A15.out).mono ?_
          (case side1 => repeat (first | exact (Kd.R_reads' HO181.out).2.2 | (with_reducible refine Kd.C_alloc ?_ _) | (with_reducible refine Kd.C_drewN ?_ _) | (with_reducible refine Kd.C_drew ?_)))
          (case side2 => exact (Kd.R_reads' HO181.out).2.1)
          (case side3 => repeat (first | exact (Kd.R_reads' HO184.out).2.2 | (with_reducible refine Kd.C_alloc ?_ _) | (with_reducible refine Kd.C_drewN ?_ _) | (with_reducible refine Kd.C_drew ?_)))
          (case side4 => exact (Kd.R_reads' HO184.out).2.1)
          (case side5 => repeat (first | exact (Kd.R_reads' HO187.out).2.2 | (with_reducible refine Kd.C_alloc ?_ _) | (with_reducible refine Kd.C_drewN ?_ _) | (with_reducible refine Kd.C_drew ?_)))
          (case side6 => exact (Kd.R_reads' HO187.out).2.1)
          rintro e w91 ⟨rfl, hb⟩
          refine ⟨_, rfl, ?_⟩
          have n0_ := Aside0.mk (Kd.R_below (by (with_reducible repeat (first | apply Kd.R_alloc | apply Kd.R_drewN | apply Kd.R_drew)); exact HO181.out) hb)
          have n1_ := Aside0.mk (Kd.R_below (by (with_reducible repeat (first | apply Kd.R_alloc | apply Kd.R_drewN | apply Kd.R_drew)); exact HO184.out) hb)
          have n2_ := Aside0.mk (Kd.R_below (by (with_reducible repeat (first | apply Kd.R_alloc | apply Kd.R_drewN | apply Kd.R_drew)); exact HO187.out) hb)
          have n3_ := Aside0.mk (blk_below (g := gb176) (o := .cells #[.slice A3_0 l3_0.length c3_0, .slice A3_1 l3_1.length c3_1] 25 (0, 0)) (by (with_reducible repeat (first | refine blk_drewN ?_ _ | refine blk_drew ?_ | refine blk_alloc ?_ _)); exact BK176.out) hb)
          have n4_ := Aside0.mk (below_step (by repeat (first | (with_reducible first | exact HB.out | apply below_alloc | apply pw_below_drewN | apply below_drew1 | refine below_set ?_ GE176.out) | exact HB.out)) hb)
          clear HO181
          clear HO184
          clear HO187
          clear BK176
          clear HB
          have HO181 := n0_
          have HO184 := n1_
          have HO187 := n2_
          have BK176 := n3_
          have HB := n4_
          clear n0_ n1_ n2_ n3_ n4_
          (try clear hb)
          (try clear hb2)
          (try clear hk)
          (try clear hi)
          refine hK.out _ _ ⟨(blk_cell BK176.out 0).trans rfl, (blk_cell BK176.out 1).trans rfl⟩ (fun hHeld => ?_)
          clear hK K
          refine norm_ (a' := ?_) ?_ ?_
          rotate_left
          · show Act.put _ (some 30) _ = _
            simp only [Act.put, List.setIfInBounds_toArray, List.set_cons_zero, List.set_cons_succ, i64_w, i32_w]
            rfl
          refine pure_ (i := 7) (N := some 10) (v := ?_) (a' := ?_) #[true, true, true, true, true, true, true, true] rfl rfl (any_of HT_.out (by kernel_rfl)) (fun _ _ _ h => h) (Or.inl ⟨by rfl, ?_⟩) ?_ ?_
          rotate_left
          · intro w'
            go_simp
            with_reducible rfl
          rotate_left
          · simp only [Act.put, List.setIfInBounds_toArray, List.set_cons_zero, List.set_cons_succ, i64_w, i32_w]
            rfl
          refine done_ (done_of HT_.out (by kernel_rfl)) ?_
          try go_wp2_with (first | ((with_reducible refine gate_callee (f := 30) rfl ?_); refine goesL_ (some 32) rfl rfl Try.func30 (by kernel_rfl) rfl #[.slice A0 l0.length c0] rfl (by (try simp only [List.map_toArray, List.map_cons, List.map_nil]); first | done | rfl | (simp only [List.length_drop, List.length_take]; rfl)) ?_; (with_reducible refine (laws_toTransitionS.calls k _ _ l0 t189 _ ?side1 ?side2 A16.out).mono ?_); (case side1 => repeat (first | exact (Kd.C_below HR0.out HB.out) | (with_reducible refine Kd.C_alloc ?_ _) | (with_reducible refine Kd.C_drewN ?_ _) | (with_reducible refine Kd.C_drew ?_))); (case side2 => exact HC0.out); rintro e w92 ⟨v190, rfl, ho0, hb⟩; refine ⟨_, rfl, ?_⟩; have n0_ := Aside0.mk (Kd.R_elder' (by (with_reducible repeat (first | apply Kd.R_alloc | apply Kd.R_drewN | apply Kd.R_drew)); exact HO181.out) (Kd.R_base ho0) hb); have n1_ := Aside0.mk (Kd.R_below (by (with_reducible repeat (first | apply Kd.R_alloc | apply Kd.R_drewN | apply Kd.R_drew)); exact HO184.out) hb); have n2_ := Aside0.mk (Kd.R_below (by (with_reducible repeat (first | apply Kd.R_alloc | apply Kd.R_drewN | apply Kd.R_drew)); exact HO187.out) hb); have n3_ := Aside0.mk (Kd.R_lower (Kd.R_new' ho0 (Kd.R_lt (by (with_reducible repeat (first | apply Kd.R_alloc | apply Kd.R_drewN | apply Kd.R_drew)); exact HO181.out))) (below_size (by repeat (first | (with_reducible first | exact HB.out | apply below_alloc | apply pw_below_drewN | apply below_drew1 | refine below_set ?_ GE176.out) | exact HB.out)))); have n4_ := Aside0.mk (blk_below (g := gb176) (o := .cells #[.slice A3_0 l3_0.length c3_0, .slice A3_1 l3_1.length c3_1] 25 (0, 0)) (by (with_reducible repeat (first | refine blk_drewN ?_ _ | refine blk_drew ?_ | refine blk_alloc ?_ _)); exact BK176.out) hb); have n5_ := Aside0.mk (below_step (by repeat (first | (with_reducible first | exact HB.out | apply below_alloc | apply pw_below_drewN | apply below_drew1 | refine below_set ?_ GE176.out) | exact HB.out)) hb); clear HO181; clear HO184; clear HO187; clear BK176; clear HB; have HO181 := n0_; have HO184 := n1_; have HO187 := n2_; have HO191 := n3_; have BK176 := n4_; have HB := n5_; clear n0_ n1_ n2_ n3_ n4_ n5_; (try clear hb); (try clear hb2); (try clear hk); (try clear hi); (try clear ho0); have hcz93_0 : w92.cell? ⟨gb176, 0, none⟩ = some (.slice A3_0 l3_0.length c3_0) := (blk_cell BK176.out 0).trans rfl; have hcz93_1 : w92.cell? ⟨gb176, 1, none⟩ = some (.slice A3_1 l3_1.length c3_1) := (blk_cell BK176.out 1).trans rfl; have hfz93_0 := blk_frozen BK176.out 0; have hfz93_1 := blk_frozen BK176.out 1) | ((with_reducible refine gate_callee (f := 10) rfl ?_); refine goesL_ (some 34) rfl rfl Try.func10 (by kernel_rfl) rfl #[.agg #[.slice A3_0 l3_0.length c3_0, .slice A3_1 l3_1.length c3_1]] rfl (by (try simp only [List.map_toArray, List.map_cons, List.map_nil]); first | done | rfl | (simp only [List.length_drop, List.length_take]; rfl)) ?_; (with_reducible refine (laws_toImage.calls k _ _ l3_0 _ _ l3_1 t192 t195 _ ?side1 ?side2 ?side3 ?side4 A17.out).mono ?_); (case side1 => repeat (first | exact (Kd.C_below HR3_0.out HB.out) | (with_reducible refine Kd.C_alloc ?_ _) | (with_reducible refine Kd.C_drewN ?_ _) | (with_reducible refine Kd.C_drew ?_))); (case side2 => exact HC3_0.out); (case side3 => repeat (first | exact (Kd.C_below HR3_1.out HB.out) | (with_reducible refine Kd.C_alloc ?_ _) | (with_reducible refine Kd.C_drewN ?_ _) | (with_reducible refine Kd.C_drew ?_))); (case side4 => exact HC3_1.out); rintro e w94 ⟨v193, v196, rfl, ho0, ho1, hb⟩; refine ⟨_, rfl, ?_⟩; have n0_ := Aside0.mk (Kd.R_below (by (with_reducible repeat (first | apply Kd.R_alloc | apply Kd.R_drewN | apply Kd.R_drew)); exact HO181.out) hb); have n1_ := Aside0.mk (Kd.R_elder' (by (with_reducible repeat (first | apply Kd.R_alloc | apply Kd.R_drewN | apply Kd.R_drew)); exact HO184.out) (Kd.R_base ho0) hb); have n2_ := Aside0.mk (Kd.R_elder' (by (with_reducible repeat (first | apply Kd.R_alloc | apply Kd.R_drewN | apply Kd.R_drew)); exact HO187.out) (Kd.R_base ho1) hb); have n3_ := Aside0.mk (Kd.R_below (by (with_reducible repeat (first | apply Kd.R_alloc | apply Kd.R_drewN | apply Kd.R_drew)); exact HO191.out) hb); have n4_ := Aside0.mk (Kd.R_lower (Kd.R_new' ho0 (Kd.R_lt (by (with_reducible repeat (first | apply Kd.R_alloc | apply Kd.R_drewN | apply Kd.R_drew)); exact HO184.out))) (below_size (by repeat (first | (with_reducible first | exact HB.out | apply below_alloc | apply pw_below_drewN | apply below_drew1 | refine below_set ?_ GE176.out) | exact HB.out)))); have n5_ := Aside0.mk (Kd.R_lower (Kd.R_new' ho1 (Kd.R_lt (by (with_reducible repeat (first | apply Kd.R_alloc | apply Kd.R_drewN | apply Kd.R_drew)); exact HO187.out))) (below_size (by repeat (first | (with_reducible first | exact HB.out | apply below_alloc | apply pw_below_drewN | apply below_drew1 | refine below_set ?_ GE176.out) | exact HB.out)))); have n6_ := Aside0.mk (blk_below (g := gb176) (o := .cells #[.slice A3_0 l3_0.length c3_0, .slice A3_1 l3_1.length c3_1] 25 (0, 0)) (by (with_reducible repeat (first | refine blk_drewN ?_ _ | refine blk_drew ?_ | refine blk_alloc ?_ _)); exact BK176.out) hb); have n7_ := Aside0.mk (below_step (by repeat (first | (with_reducible first | exact HB.out | apply below_alloc | apply pw_below_drewN | apply below_drew1 | refine below_set ?_ GE176.out) | exact HB.out)) hb); clear HO181; clear HO184; clear HO187; clear HO191; clear BK176; clear HB; have HO181 := n0_; have HO184 := n1_; have HO187 := n2_; have HO191 := n3_; have HO194 := n4_; have HO197 := n5_; have BK176 := n6_; have HB := n7_; clear n0_ n1_ n2_ n3_ n4_ n5_ n6_ n7_; (try clear hb); (try clear hb2); (try clear hk); (try clear hi); (try clear ho0); (try clear ho1)) | ((with_reducible refine gate_dst (N := 12) rfl ?_); refine box_event ?hg (N := 12) ?hd (cs := #[.slice none 0 0, .slice none 0 0]) (t := 27) ?hr ?_; (case hd => rfl); (case hg => rfl); (case hr => first | (go_simp; done) | (go_simp; rfl)); intro gb198 hg w95 hbox hb; have n0_ := Aside0.mk (Kd.R_below (by (with_reducible repeat (first | apply Kd.R_alloc | apply Kd.R_drewN | apply Kd.R_drew)); exact HO181.out) hb); have n1_ := Aside0.mk (Kd.R_below (by (with_reducible repeat (first | apply Kd.R_alloc | apply Kd.R_drewN | apply Kd.R_drew)); exact HO184.out) hb); have n2_ := Aside0.mk (Kd.R_below (by (with_reducible repeat (first | apply Kd.R_alloc | apply Kd.R_drewN | apply Kd.R_drew)); exact HO187.out) hb); have n3_ := Aside0.mk (Kd.R_below (by (with_reducible repeat (first | apply Kd.R_alloc | apply Kd.R_drewN | apply Kd.R_drew)); exact HO191.out) hb); have n4_ := Aside0.mk (Kd.R_below (by (with_reducible repeat (first | apply Kd.R_alloc | apply Kd.R_drewN | apply Kd.R_drew)); exact HO194.out) hb); have n5_ := Aside0.mk (Kd.R_below (by (with_reducible repeat (first | apply Kd.R_alloc | apply Kd.R_drewN | apply Kd.R_drew)); exact HO197.out) hb); have n6_ := Aside0.mk (blk_below (g := gb176) (o := .cells #[.slice A3_0 l3_0.length c3_0, .slice A3_1 l3_1.length c3_1] 25 (0, 0)) (by (with_reducible repeat (first | refine blk_drewN ?_ _ | refine blk_drew ?_ | refine blk_alloc ?_ _)); exact BK176.out) hb); have n7_ := Aside0.mk (below_step (by repeat (first | (with_reducible first | exact HB.out | apply below_alloc | apply pw_below_drewN | apply below_drew1 | refine below_set ?_ GE176.out) | exact HB.out)) hb); have n8_ := Aside0.mk (hbox); have n9_ := Aside0.mk ((by rw [hg]; exact (below_size (by repeat (first | (with_reducible first | exact HB.out | apply below_alloc | apply pw_below_drewN | apply below_drew1 | refine below_set ?_ GE176.out) | exact HB.out))) : w.heap.size ≤ gb198)); have n10_ := Aside0.mk ((by rw [hg]; exact (below_size (by repeat (first | (with_reducible first | exact HB.out | apply below_alloc | apply pw_below_drewN | apply below_drew1 | refine below_set ?_ GE176.out) | exact HB.out))) : w.heap.size ≤ gb198)); have n11_ := Aside0.mk ((by rw [hg]; exact Nat.ne_of_lt (blk_lt (g := gb176) (o := .cells #[.slice A3_0 l3_0.length c3_0, .slice A3_1 l3_1.length c3_1] 25 (0, 0)) (by (with_reducible repeat (first | refine blk_drewN ?_ _ | refine blk_drew ?_ | refine blk_alloc ?_ _)); exact BK176.out)) : gb176 ≠ gb198)); have n12_ := Aside0.mk ((by rw [hg]; exact Nat.ne_of_gt (blk_lt (g := gb176) (o := .cells #[.slice A3_0 l3_0.length c3_0, .slice A3_1 l3_1.length c3_1] 25 (0, 0)) (by (with_reducible repeat (first | refine blk_drewN ?_ _ | refine blk_drew ?_ | refine blk_alloc ?_ _)); exact BK176.out)) : gb198 ≠ gb176)); clear HO181; clear HO184; clear HO187; clear HO191; clear HO194; clear HO197; clear BK176; clear HB; have HO181 := n0_; have HO184 := n1_; have HO187 := n2_; have HO191 := n3_; have HO194 := n4_; have HO197 := n5_; have BK176 := n6_; have HB := n7_; have BK198 := n8_; have GW198 := n9_; have GE198 := n10_; have NB176_198 := n11_; have NB198_176 := n12_; clear n0_ n1_ n2_ n3_ n4_ n5_ n6_ n7_ n8_ n9_ n10_ n11_ n12_; clear hb hbox hg; obtain ⟨Ao96, co96, eo96⟩ := Kd.R_slice HO194.out; subst eo96; have hnb97 := NB198_176.out; have hnc97 := NB176_198.out; have hcz98_0 : w95.cell? ⟨gb198, 0, none⟩ = some (.slice none 0 0) := (blk_cell BK198.out 0).trans rfl; have hcz98_1 : w95.cell? ⟨gb198, 1, none⟩ = some (.slice none 0 0) := (blk_cell BK198.out 1).trans rfl; have hfz98_0 := blk_frozen BK198.out 0; have hfz98_1 := blk_frozen BK198.out 1; obtain ⟨Ao99, co99, eo99⟩ := Kd.R_slice HO197.out; subst eo99; obtain ⟨Ao100, co100, eo100⟩ := Kd.R_slice HO191.out; subst eo100) | ((with_reducible refine gate_callee (f := 31) rfl ?_); refine goesL_ (some 39) rfl rfl Try.func31 (by kernel_rfl) rfl #[.slice Ao100 t189.length co100, .int .i64 a1, .int .i64 a2, .agg #[.slice Ao96 t192.length co96, .slice Ao99 t195.length co99]] rfl (by (try simp only [List.map_toArray, List.map_cons, List.map_nil]); first | done | rfl | (simp only [List.length_drop, List.length_take]; rfl)) ?_; (with_reducible refine (impl_StepChart.calls k _ _ t189 a1 a2 _ _ t192 _ _ t195 t199 _ ?side1 ?side2 ?side3 ?side4 ?side5 ?side6 A18.out).mono ?_); (case side1 => refine (Kd.R_reads' (e := 75) (base := w.heap.size) (ok := fun k_ => (True ∧ some k_ ≠ (.slice Ao88 t179.length co88 : Value).ownBlock)) (n := t189.length) (c := co100) ?_).2.2; exact (by (with_reducible repeat (first | apply Kd.R_alloc | apply Kd.R_drewN | apply Kd.R_drew)); exact (Kd.R_mono (Kd.R_far (p := ⟨gb198, 1, none⟩) (Kd.R_far (p := ⟨gb198, 0, none⟩) (Kd.R_types HO191.out BK198.out (by decide)) (fun _ hk => by first | exact hk.2 | exact trivial) (.slice Ao96 t192.length co96)) (fun _ hk => by first | exact hk.2 | exact trivial) (.slice Ao99 t195.length co99)) (fun _ h_ => h_.1)))); (case side2 => exact (Kd.R_reads' HO191.out).2.1); (case side3 => refine (Kd.R_reads' (e := 4) (base := w.heap.size) (ok := fun k_ => (True ∧ some k_ ≠ (.slice Ao89 t182.length co89 : Value).ownBlock)) (n := t192.length) (c := co96) ?_).2.2; exact (by (with_reducible repeat (first | apply Kd.R_alloc | apply Kd.R_drewN | apply Kd.R_drew)); exact (Kd.R_mono (Kd.R_far (p := ⟨gb198, 1, none⟩) (Kd.R_far (p := ⟨gb198, 0, none⟩) (Kd.R_types HO194.out BK198.out (by decide)) (fun _ hk => by first | exact hk.2 | exact trivial) (.slice Ao96 t192.length co96)) (fun _ hk => by first | exact hk.2 | exact trivial) (.slice Ao99 t195.length co99)) (fun _ h_ => h_.1)))); (case side4 => exact (Kd.R_reads' HO194.out).2.1); (case side5 => refine (Kd.R_reads' (e := 3) (base := w.heap.size) (ok := fun k_ => (True ∧ some k_ ≠ (.slice Ao90 t185.length co90 : Value).ownBlock)) (n := t195.length) (c := co99) ?_).2.2; exact (by (with_reducible repeat (first | apply Kd.R_alloc | apply Kd.R_drewN | apply Kd.R_drew)); exact (Kd.R_mono (Kd.R_far (p := ⟨gb198, 1, none⟩) (Kd.R_far (p := ⟨gb198, 0, none⟩) (Kd.R_types HO197.out BK198.out (by decide)) (fun _ hk => by first | exact hk.2 | exact trivial) (.slice Ao96 t192.length co96)) (fun _ hk => by first | exact hk.2 | exact trivial) (.slice Ao99 t195.length co99)) (fun _ h_ => h_.1)))); (case side6 => exact (Kd.R_reads' HO197.out).2.1); rintro e w101 ⟨rfl, hb⟩; refine ⟨_, rfl, ?_⟩; have n0_ := Aside0.mk (Kd.R_below (by (with_reducible repeat (first | apply Kd.R_alloc | apply Kd.R_drewN | apply Kd.R_drew)); exact (Kd.R_mono (Kd.R_far (p := ⟨gb198, 1, none⟩) (Kd.R_far (p := ⟨gb198, 0, none⟩) (Kd.R_types HO181.out BK198.out (by decide)) (fun _ hk => by first | exact hk.2 | exact trivial) (.slice Ao96 t192.length co96)) (fun _ hk => by first | exact hk.2 | exact trivial) (.slice Ao99 t195.length co99)) (fun _ h_ => h_.1))) hb); have n1_ := Aside0.mk (Kd.R_below (by (with_reducible repeat (first | apply Kd.R_alloc | apply Kd.R_drewN | apply Kd.R_drew)); exact (Kd.R_mono (Kd.R_far (p := ⟨gb198, 1, none⟩) (Kd.R_far (p := ⟨gb198, 0, none⟩) (Kd.R_types HO184.out BK198.out (by decide)) (fun _ hk => by first | exact hk.2 | exact trivial) (.slice Ao96 t192.length co96)) (fun _ hk => by first | exact hk.2 | exact trivial) (.slice Ao99 t195.length co99)) (fun _ h_ => h_.1))) hb); have n2_ := Aside0.mk (Kd.R_below (by (with_reducible repeat (first | apply Kd.R_alloc | apply Kd.R_drewN | apply Kd.R_drew)); exact (Kd.R_mono (Kd.R_far (p := ⟨gb198, 1, none⟩) (Kd.R_far (p := ⟨gb198, 0, none⟩) (Kd.R_types HO187.out BK198.out (by decide)) (fun _ hk => by first | exact hk.2 | exact trivial) (.slice Ao96 t192.length co96)) (fun _ hk => by first | exact hk.2 | exact trivial) (.slice Ao99 t195.length co99)) (fun _ h_ => h_.1))) hb); have n3_ := Aside0.mk (Kd.R_below (by (with_reducible repeat (first | apply Kd.R_alloc | apply Kd.R_drewN | apply Kd.R_drew)); exact (Kd.R_mono (Kd.R_far (p := ⟨gb198, 1, none⟩) (Kd.R_far (p := ⟨gb198, 0, none⟩) (Kd.R_types HO191.out BK198.out (by decide)) (fun _ hk => by first | exact hk.2 | exact trivial) (.slice Ao96 t192.length co96)) (fun _ hk => by first | exact hk.2 | exact trivial) (.slice Ao99 t195.length co99)) (fun _ h_ => h_.1))) hb); have n4_ := Aside0.mk (Kd.R_below (by (with_reducible repeat (first | apply Kd.R_alloc | apply Kd.R_drewN | apply Kd.R_drew)); exact (Kd.R_mono (Kd.R_far (p := ⟨gb198, 1, none⟩) (Kd.R_far (p := ⟨gb198, 0, none⟩) (Kd.R_types HO194.out BK198.out (by decide)) (fun _ hk => by first | exact hk.2 | exact trivial) (.slice Ao96 t192.length co96)) (fun _ hk => by first | exact hk.2 | exact trivial) (.slice Ao99 t195.length co99)) (fun _ h_ => h_.1))) hb); have n5_ := Aside0.mk (Kd.R_below (by (with_reducible repeat (first | apply Kd.R_alloc | apply Kd.R_drewN | apply Kd.R_drew)); exact (Kd.R_mono (Kd.R_far (p := ⟨gb198, 1, none⟩) (Kd.R_far (p := ⟨gb198, 0, none⟩) (Kd.R_types HO197.out BK198.out (by decide)) (fun _ hk => by first | exact hk.2 | exact trivial) (.slice Ao96 t192.length co96)) (fun _ hk => by first | exact hk.2 | exact trivial) (.slice Ao99 t195.length co99)) (fun _ h_ => h_.1))) hb); have n6_ := Aside0.mk (blk_below (g := gb176) (o := .cells #[.slice A3_0 l3_0.length c3_0, .slice A3_1 l3_1.length c3_1] 25 (0, 0)) (by (with_reducible repeat (first | refine blk_drewN ?_ _ | refine blk_drew ?_ | refine blk_alloc ?_ _)); refine blk_far ?_ NB176_198.out _; (with_reducible repeat (first | refine blk_drewN ?_ _ | refine blk_drew ?_ | refine blk_alloc ?_ _)); refine blk_far ?_ NB176_198.out _; (with_reducible repeat (first | refine blk_drewN ?_ _ | refine blk_drew ?_ | refine blk_alloc ?_ _)); exact BK176.out) hb); have n7_ := Aside0.mk (blk_below (g := gb198) (o := .cells #[.slice Ao96 t192.length co96, .slice Ao99 t195.length co99] 27 (0, 0)) (by (with_reducible repeat (first | refine blk_drewN ?_ _ | refine blk_drew ?_ | refine blk_alloc ?_ _)); refine blk_put (cs := #[.slice Ao96 t192.length co96, .slice none 0 0]) ?_ 1 _ rfl; (with_reducible repeat (first | refine blk_drewN ?_ _ | refine blk_drew ?_ | refine blk_alloc ?_ _)); refine blk_put (cs := #[.slice none 0 0, .slice none 0 0]) ?_ 0 _ rfl; (with_reducible repeat (first | refine blk_drewN ?_ _ | refine blk_drew ?_ | refine blk_alloc ?_ _)); exact BK198.out) hb); have n8_ := Aside0.mk (below_step (by repeat (first | (with_reducible first | exact HB.out | apply below_alloc | apply pw_below_drewN | apply below_drew1 | refine below_set ?_ GE176.out | refine below_set ?_ GE198.out) | exact HB.out)) hb); clear HO181; clear HO184; clear HO187; clear HO191; clear HO194; clear HO197; clear BK176; clear BK198; clear HB; have HO181 := n0_; have HO184 := n1_; have HO187 := n2_; have HO191 := n3_; have HO194 := n4_; have HO197 := n5_; have BK176 := n6_; have BK198 := n7_; have HB := n8_; clear n0_ n1_ n2_ n3_ n4_ n5_ n6_ n7_ n8_; (try clear hb); (try clear hb2); (try clear hk); (try clear hi)) | ((with_reducible refine gate_callee (f := 30) rfl ?_); refine goesL_ (some 45) rfl rfl Try.func30 (by kernel_rfl) rfl #[.slice A0 l0.length c0] rfl (by (try simp only [List.map_toArray, List.map_cons, List.map_nil]); first | done | rfl | (simp only [List.length_drop, List.length_take]; rfl)) ?_; (with_reducible refine (laws_toTransitionS.calls k _ _ l0 t200 _ ?side1 ?side2 A20.out).mono ?_); (case side1 => repeat (first | exact (Kd.C_below HR0.out HB.out) | (with_reducible refine Kd.C_alloc ?_ _) | (with_reducible refine Kd.C_drewN ?_ _) | (with_reducible refine Kd.C_drew ?_))); (case side2 => exact HC0.out); rintro e w102 ⟨v201, rfl, ho0, hb⟩; refine ⟨_, rfl, ?_⟩; have n0_ := Aside0.mk (Kd.R_elder' (by (with_reducible repeat (first | apply Kd.R_alloc | apply Kd.R_drewN | apply Kd.R_drew)); exact HO181.out) (Kd.R_base ho0) hb); have n1_ := Aside0.mk (Kd.R_below (by (with_reducible repeat (first | apply Kd.R_alloc | apply Kd.R_drewN | apply Kd.R_drew)); exact HO184.out) hb); have n2_ := Aside0.mk (Kd.R_below (by (with_reducible repeat (first | apply Kd.R_alloc | apply Kd.R_drewN | apply Kd.R_drew)); exact HO187.out) hb); have n3_ := Aside0.mk (Kd.R_elder' (by (with_reducible repeat (first | apply Kd.R_alloc | apply Kd.R_drewN | apply Kd.R_drew)); exact HO191.out) (Kd.R_base ho0) hb); have n4_ := Aside0.mk (Kd.R_below (by (with_reducible repeat (first | apply Kd.R_alloc | apply Kd.R_drewN | apply Kd.R_drew)); exact HO194.out) hb); have n5_ := Aside0.mk (Kd.R_below (by (with_reducible repeat (first | apply Kd.R_alloc | apply Kd.R_drewN | apply Kd.R_drew)); exact HO197.out) hb); have n6_ := Aside0.mk (Kd.R_lower (Kd.R_new' (Kd.R_new' ho0 (Kd.R_lt (by (with_reducible repeat (first | apply Kd.R_alloc | apply Kd.R_drewN | apply Kd.R_drew)); exact HO181.out))) (Kd.R_lt (by (with_reducible repeat (first | apply Kd.R_alloc | apply Kd.R_drewN | apply Kd.R_drew)); exact HO191.out))) (below_size (by repeat (first | (with_reducible first | exact HB.out | apply below_alloc | apply pw_below_drewN | apply below_drew1 | refine below_set ?_ GE176.out | refine below_set ?_ GE198.out) | exact HB.out)))); have n7_ := Aside0.mk (blk_below (g := gb176) (o := .cells #[.slice A3_0 l3_0.length c3_0, .slice A3_1 l3_1.length c3_1] 25 (0, 0)) (by (with_reducible repeat (first | refine blk_drewN ?_ _ | refine blk_drew ?_ | refine blk_alloc ?_ _)); exact BK176.out) hb); have n8_ := Aside0.mk (blk_below (g := gb198) (o := .cells #[.slice Ao96 t192.length co96, .slice Ao99 t195.length co99] 27 (0, 0)) (by (with_reducible repeat (first | refine blk_drewN ?_ _ | refine blk_drew ?_ | refine blk_alloc ?_ _)); exact BK198.out) hb); have n9_ := Aside0.mk (below_step (by repeat (first | (with_reducible first | exact HB.out | apply below_alloc | apply pw_below_drewN | apply below_drew1 | refine below_set ?_ GE176.out | refine below_set ?_ GE198.out) | exact HB.out)) hb); clear HO181; clear HO184; clear HO187; clear HO191; clear HO194; clear HO197; clear BK176; clear BK198; clear HB; have HO181 := n0_; have HO184 := n1_; have HO187 := n2_; have HO191 := n3_; have HO194 := n4_; have HO197 := n5_; have HO202 := n6_; have BK176 := n7_; have BK198 := n8_; have HB := n9_; clear n0_ n1_ n2_ n3_ n4_ n5_ n6_ n7_ n8_ n9_; (try clear hb); (try clear hb2); (try clear hk); (try clear hi); (try clear ho0); obtain ⟨Ao103, co103, eo103⟩ := Kd.R_slice HO202.out; subst eo103) | ((with_reducible refine gate_callee (f := 32) rfl ?_); refine goesL_ (some 46) rfl rfl Try.func32 (by kernel_rfl) rfl #[.slice Ao100 t189.length co100, .slice Ao103 t200.length co103] rfl (by (try simp only [List.map_toArray, List.map_cons, List.map_nil]); first | done | rfl | (simp only [List.length_drop, List.length_take]; rfl)) ?_; (with_reducible refine (laws_eqTransitionS.calls k _ _ t189 _ _ t200 false _ ?side1 ?side2 ?side3 ?side4 A21.out).mono ?_); (case side1 => repeat (first | exact (Kd.R_reads' HO191.out).2.2 | (with_reducible refine Kd.C_alloc ?_ _) | (with_reducible refine Kd.C_drewN ?_ _) | (with_reducible refine Kd.C_drew ?_))); (case side2 => exact (Kd.R_reads' HO191.out).2.1); (case side3 => repeat (first | exact (Kd.R_reads' HO202.out).2.2 | (with_reducible refine Kd.C_alloc ?_ _) | (with_reducible refine Kd.C_drewN ?_ _) | (with_reducible refine Kd.C_drew ?_))); (case side4 => exact (Kd.R_reads' HO202.out).2.1); rintro e w104 ⟨rfl, hb⟩; refine ⟨_, rfl, ?_⟩; have n0_ := Aside0.mk (Kd.R_below (by (with_reducible repeat (first | apply Kd.R_alloc | apply Kd.R_drewN | apply Kd.R_drew)); exact HO181.out) hb); have n1_ := Aside0.mk (Kd.R_below (by (with_reducible repeat (first | apply Kd.R_alloc | apply Kd.R_drewN | apply Kd.R_drew)); exact HO184.out) hb); have n2_ := Aside0.mk (Kd.R_below (by (with_reducible repeat (first | apply Kd.R_alloc | apply Kd.R_drewN | apply Kd.R_drew)); exact HO187.out) hb); have n3_ := Aside0.mk (Kd.R_below (by (with_reducible repeat (first | apply Kd.R_alloc | apply Kd.R_drewN | apply Kd.R_drew)); exact HO191.out) hb); have n4_ := Aside0.mk (Kd.R_below (by (with_reducible repeat (first | apply Kd.R_alloc | apply Kd.R_drewN | apply Kd.R_drew)); exact HO194.out) hb); have n5_ := Aside0.mk (Kd.R_below (by (with_reducible repeat (first | apply Kd.R_alloc | apply Kd.R_drewN | apply Kd.R_drew)); exact HO197.out) hb); have n6_ := Aside0.mk (Kd.R_below (by (with_reducible repeat (first | apply Kd.R_alloc | apply Kd.R_drewN | apply Kd.R_drew)); exact HO202.out) hb); have n7_ := Aside0.mk (blk_below (g := gb176) (o := .cells #[.slice A3_0 l3_0.length c3_0, .slice A3_1 l3_1.length c3_1] 25 (0, 0)) (by (with_reducible repeat (first | refine blk_drewN ?_ _ | refine blk_drew ?_ | refine blk_alloc ?_ _)); exact BK176.out) hb); have n8_ := Aside0.mk (blk_below (g := gb198) (o := .cells #[.slice Ao96 t192.length co96, .slice Ao99 t195.length co99] 27 (0, 0)) (by (with_reducible repeat (first | refine blk_drewN ?_ _ | refine blk_drew ?_ | refine blk_alloc ?_ _)); exact BK198.out) hb); have n9_ := Aside0.mk (below_step (by repeat (first | (with_reducible first | exact HB.out | apply below_alloc | apply pw_below_drewN | apply below_drew1 | refine below_set ?_ GE176.out | refine below_set ?_ GE198.out) | exact HB.out)) hb); clear HO181; clear HO184; clear HO187; clear HO191; clear HO194; clear HO197; clear HO202; clear BK176; clear BK198; clear HB; have HO181 := n0_; have HO184 := n1_; have HO187 := n2_; have HO191 := n3_; have HO194 := n4_; have HO197 := n5_; have HO202 := n6_; have BK176 := n7_; have BK198 := n8_; have HB := n9_; clear n0_ n1_ n2_ n3_ n4_ n5_ n6_ n7_ n8_ n9_; (try clear hb); (try clear hb2); (try clear hk); (try clear hi)))
          go_ret
          exact ⟨by first | rfl | (simp [errW_none, errW_some] <;> rfl) | (simp [*, errW_none, errW_some] <;> rfl), by repeat (first | (with_reducible first | exact HB.out | apply below_alloc | apply pw_below_drewN | apply below_drew1 | refine below_set ?_ GE176.out | refine below_set ?_ GE198.out) | exact HB.out)⟩
      · rw [if_neg c19] at H
        have c19b0 : (t199 == t188) = false := beq_eq_false_iff_ne.mpr c19
        have c19b1 : (t199 != t188) = true := bne_iff_ne.mpr c19
        obtain rfl := Option.some.inj H
        go_enter Try.func7, Try.ntmps7
        try go_wp2_with (first | ((with_reducible refine gate_dst (N := 7) rfl ?_); refine box_event ?hg (N := 7) ?hd (cs := #[.slice A3_0 l3_0.length c3_0, .slice A3_1 l3_1.length c3_1]) (t := 25) ?hr ?_; (case hd => rfl); (case hg => rfl); (case hr => first | (go_simp; done) | (go_simp; rfl)); intro gb176 hg w105 hbox hb; have n0_ := Aside0.mk (below_step (by repeat (first | (with_reducible first | exact HB.out | apply below_alloc | apply pw_below_drewN | apply below_drew1) | exact HB.out)) hb); have n1_ := Aside0.mk (hbox); have n2_ := Aside0.mk ((by rw [hg]; exact (below_size (by repeat (first | (with_reducible first | exact HB.out | apply below_alloc | apply pw_below_drewN | apply below_drew1) | exact HB.out))) : w.heap.size ≤ gb176)); have n3_ := Aside0.mk ((by rw [hg]; exact (below_size (by repeat (first | (with_reducible first | exact HB.out | apply below_alloc | apply pw_below_drewN | apply below_drew1) | exact HB.out))) : w.heap.size ≤ gb176)); clear HB; have HB := n0_; have BK176 := n1_; have GW176 := n2_; have GE176 := n3_; clear n0_ n1_ n2_ n3_; clear hb hbox hg) | ((with_reducible refine gate_callee (f := 28) rfl ?_); refine goesL_ (some 16) rfl rfl Try.func28 (by kernel_rfl) rfl #[.slice A0 l0.length c0, .int .i64 1048576] rfl (by (try simp only [List.map_toArray, List.map_cons, List.map_nil]); first | done | rfl | (simp only [List.length_drop, List.length_take]; rfl)) ?_; (with_reducible refine (laws_szTransitionS.calls _ _ l0 1048576 t177 _ ?side1 ?side2 A5.out).mono ?_); (case side1 => repeat (first | exact (Kd.C_below HR0.out HB.out) | (with_reducible refine Kd.C_alloc ?_ _) | (with_reducible refine Kd.C_drewN ?_ _) | (with_reducible refine Kd.C_drew ?_))); (case side2 => exact HC0.out); rintro e w' ⟨rfl, ⟨nd, rfl⟩⟩; refine ⟨_, rfl, ?_⟩; (try (rw [drewN_self w105]; generalize hq_ : World.drewN w105 _ = w105; have n0_ : Aside0 (w105.heap[gb176]? = some (.cells #[.slice A3_0 l3_0.length c3_0, .slice A3_1 l3_1.length c3_1] 25 (0, 0))) := ⟨by rw [← hq_]; exact (by (with_reducible repeat (first | refine blk_drewN ?_ _ | refine blk_drew ?_ | refine blk_alloc ?_ _)); exact BK176.out)⟩; have n1_ : Aside0 (Below w.heap.size w w105) := ⟨by rw [← hq_]; exact (by repeat (first | (with_reducible first | exact HB.out | apply below_alloc | apply pw_below_drewN | apply below_drew1 | refine below_set ?_ GE176.out) | exact HB.out))⟩; clear BK176 HB hq_; have BK176 := n0_; have HB := n1_; clear n0_ n1_)); have hcz106_0 : w105.cell? ⟨gb176, 0, none⟩ = some (.slice A3_0 l3_0.length c3_0) := (blk_cell BK176.out 0).trans rfl; have hcz106_1 : w105.cell? ⟨gb176, 1, none⟩ = some (.slice A3_1 l3_1.length c3_1) := (blk_cell BK176.out 1).trans rfl; have hfz106_0 := blk_frozen BK176.out 0; have hfz106_1 := blk_frozen BK176.out 1) | ((with_reducible refine gate_callee (f := 8) rfl ?_); refine goesL_ (some 21) rfl rfl Try.func8 (by kernel_rfl) rfl #[.agg #[.slice A3_0 l3_0.length c3_0, .slice A3_1 l3_1.length c3_1], .int .i64 t177] rfl (by (try simp only [List.map_toArray, List.map_cons, List.map_nil]); first | done | rfl | (simp only [List.length_drop, List.length_take]; rfl)) ?_; (with_reducible refine (laws_szImage.calls _ _ l3_0 _ _ l3_1 t177 t178 _ ?side1 ?side2 ?side3 ?side4 A8.out).mono ?_); (case side1 => repeat (first | exact (Kd.C_below HR3_0.out HB.out) | (with_reducible refine Kd.C_alloc ?_ _) | (with_reducible refine Kd.C_drewN ?_ _) | (with_reducible refine Kd.C_drew ?_))); (case side2 => exact HC3_0.out); (case side3 => repeat (first | exact (Kd.C_below HR3_1.out HB.out) | (with_reducible refine Kd.C_alloc ?_ _) | (with_reducible refine Kd.C_drewN ?_ _) | (with_reducible refine Kd.C_drew ?_))); (case side4 => exact HC3_1.out); rintro e w107 ⟨rfl, hb⟩; refine ⟨_, rfl, ?_⟩; have n0_ := Aside0.mk (blk_below (g := gb176) (o := .cells #[.slice A3_0 l3_0.length c3_0, .slice A3_1 l3_1.length c3_1] 25 (0, 0)) (by (with_reducible repeat (first | refine blk_drewN ?_ _ | refine blk_drew ?_ | refine blk_alloc ?_ _)); exact BK176.out) hb); have n1_ := Aside0.mk (below_step (by repeat (first | (with_reducible first | exact HB.out | apply below_alloc | apply pw_below_drewN | apply below_drew1 | refine below_set ?_ GE176.out) | exact HB.out)) hb); clear BK176; clear HB; have BK176 := n0_; have HB := n1_; clear n0_ n1_; (try clear hb); (try clear hb2); (try clear hk); (try clear hi)))
        have n0_ := Aside0.mk (blk_drew BK176.out)
        have n1_ := Aside0.mk (below_drew1 HB.out)
        clear BK176
        clear HB
        have BK176 := n0_
        have HB := n1_
        clear n0_ n1_
        refine start_ (n := 8) (S := fun w' => w'.cell? ⟨gb176, 0, none⟩ = some (.slice A3_0 l3_0.length c3_0) ∧ w'.cell? ⟨gb176, 1, none⟩ = some (.slice A3_1 l3_1.length c3_1)) (ds := []) #[false, false, false, false, false, false, false, false] (by kernel_rfl) rfl rfl ⟨(blk_cell BK176.out 0).trans rfl, (blk_cell BK176.out 1).trans rfl⟩ (fun hHeld => ?_); refine with_tabW laws_FnExactStepChart.tab8 laws_FnExactStepChart.bits8 (fun HT_ HW_ => ?_)
        generalize w107.drew = w108 at BK176 HB hHeld ⊢
        refine pure_ (i := 0) (N := some 24) (v := ?_) (a' := ?_) #[true, false, false, false, false, false, false, false] rfl rfl (any_of HT_.out (by kernel_rfl)) (fun _ _ _ h => h) (Or.inl ⟨by rfl, ?_⟩) ?_ ?_
        rotate_left
        · intro w'
          go_simp
          with_reducible rfl
        rotate_left
        · simp only [Act.put, List.setIfInBounds_toArray, List.set_cons_zero, List.set_cons_succ, i64_w, i32_w]
          rfl
        refine pure_ (i := 2) (N := some 26) (v := ?_) (a' := ?_) #[true, false, true, false, false, false, false, false] rfl rfl (any_of HT_.out (by kernel_rfl)) (fun _ _ _ h => h) (Or.inl ⟨by rfl, ?_⟩) ?_ ?_
        rotate_left
        · intro w'
          go_simp
          with_reducible rfl
        rotate_left
        · simp only [Act.put, List.setIfInBounds_toArray, List.set_cons_zero, List.set_cons_succ, i64_w, i32_w]
          rfl
        refine pure_ (i := 3) (N := some 27) (v := ?_) (a' := ?_) #[true, false, true, true, false, false, false, false] rfl rfl (any_of HT_.out (by kernel_rfl)) (fun _ _ _ h => h) (Or.inl ⟨by rfl, ?_⟩) ?_ ?_
        rotate_left
        · intro w'
          go_simp
          with_reducible rfl
        rotate_left
        · simp only [Act.put, List.setIfInBounds_toArray, List.set_cons_zero, List.set_cons_succ, i64_w, i32_w]
          rfl
        refine take_ (i := 4) (N := some 28) (v := ?_) (a' := ?_) #[true, false, true, true, true, false, false, false] rfl rfl (take_ofW HT_.out HW_.out (by kernel_rfl)) (fun _ _ _ h => h) (Or.inl ⟨by rfl, ?_⟩) hHeld ?_ ?_
        rotate_left
        · rintro w' ⟨s0, s1⟩
          go_simp
          with_reducible rfl
        rotate_left
        · simp only [Act.put, List.setIfInBounds_toArray, List.set_cons_zero, List.set_cons_succ, i64_w, i32_w]
          rfl
        refine one_ (i := 1) (N := some 25) #[true, true, true, true, true, false, false, false] rfl rfl (one_of HT_.out (by kernel_rfl)) (by decide) (fun K hK => ?_)
        refine goes_ Try.func30 (by kernel_rfl) rfl #[.slice A0 l0.length c0] (by rfl) rfl rfl (by (try simp only [List.map_toArray, List.map_cons, List.map_nil]); first | done | rfl | (simp only [List.length_drop, List.length_take]; rfl)) ?_
        with_reducible refine (laws_toTransitionS.calls k _ _ l0 t179 _ ?side1 ?side2 A13.out).mono ?_
        (case side1 => repeat (first | exact (Kd.C_below HR0.out HB.out) | (with_reducible refine Kd.C_alloc ?_ _) | (with_reducible refine Kd.C_drewN ?_ _) | (with_reducible refine Kd.C_drew ?_)))
        (case side2 => exact HC0.out)
        rintro e w109 ⟨v180, rfl, ho0, hb⟩
        refine ⟨_, rfl, ?_⟩
        have n0_ := Aside0.mk (Kd.R_lower ho0 (below_size (by repeat (first | (with_reducible first | exact HB.out | apply below_alloc | apply pw_below_drewN | apply below_drew1 | refine below_set ?_ GE176.out) | exact HB.out))))
        have n1_ := Aside0.mk (blk_below (g := gb176) (o := .cells #[.slice A3_0 l3_0.length c3_0, .slice A3_1 l3_1.length c3_1] 25 (0, 0)) (by (with_reducible repeat (first | refine blk_drewN ?_ _ | refine blk_drew ?_ | refine blk_alloc ?_ _)); exact BK176.out) hb)
        have n2_ := Aside0.mk (below_step (by repeat (first | (with_reducible first | exact HB.out | apply below_alloc | apply pw_below_drewN | apply below_drew1 | refine below_set ?_ GE176.out) | exact HB.out)) hb)
        clear BK176
        clear HB
        have HO181 := n0_
        have BK176 := n1_
        have HB := n2_
        clear n0_ n1_ n2_
        (try clear hb)
        (try clear hb2)
        (try clear hk)
        (try clear hi)
        (try clear ho0)
        refine hK.out _ _ ⟨(blk_cell BK176.out 0).trans rfl, (blk_cell BK176.out 1).trans rfl⟩ (fun hHeld => ?_)
        clear hK K
        refine norm_ (a' := ?_) ?_ ?_
        rotate_left
        · show Act.put _ (some 25) _ = _
          simp only [Act.put, List.setIfInBounds_toArray, List.set_cons_zero, List.set_cons_succ, i64_w, i32_w]
          rfl
        refine one_ (i := 5) (N := some 29) #[true, true, true, true, true, true, false, false] rfl rfl (one_of HT_.out (by kernel_rfl)) (by decide) (fun K hK => ?_)
        refine goes_ Try.func10 (by kernel_rfl) rfl #[.agg #[.slice A3_0 l3_0.length c3_0, .slice A3_1 l3_1.length c3_1]] (by rfl) rfl rfl (by (try simp only [List.map_toArray, List.map_cons, List.map_nil]); first | done | rfl | (simp only [List.length_drop, List.length_take]; rfl)) ?_
        with_reducible refine (laws_toImage.calls k _ _ l3_0 _ _ l3_1 t182 t185 _ ?side1 ?side2 ?side3 ?side4 A14.out).mono ?_
        (case side1 => repeat (first | exact (Kd.C_below HR3_0.out HB.out) | (with_reducible refine Kd.C_alloc ?_ _) | (with_reducible refine Kd.C_drewN ?_ _) | (with_reducible refine Kd.C_drew ?_)))
        (case side2 => exact HC3_0.out)
        (case side3 => repeat (first | exact (Kd.C_below HR3_1.out HB.out) | (with_reducible refine Kd.C_alloc ?_ _) | (with_reducible refine Kd.C_drewN ?_ _) | (with_reducible refine Kd.C_drew ?_)))
        (case side4 => exact HC3_1.out)
        rintro e w110 ⟨v183, v186, rfl, ho0, ho1, hb⟩
        refine ⟨_, rfl, ?_⟩
        have n0_ := Aside0.mk (Kd.R_below (by (with_reducible repeat (first | apply Kd.R_alloc | apply Kd.R_drewN | apply Kd.R_drew)); exact HO181.out) hb)
        have n1_ := Aside0.mk (Kd.R_lower ho0 (below_size (by repeat (first | (with_reducible first | exact HB.out | apply below_alloc | apply pw_below_drewN | apply below_drew1 | refine below_set ?_ GE176.out) | exact HB.out))))
        have n2_ := Aside0.mk (Kd.R_lower ho1 (below_size (by repeat (first | (with_reducible first | exact HB.out | apply below_alloc | apply pw_below_drewN | apply below_drew1 | refine below_set ?_ GE176.out) | exact HB.out))))
        have n3_ := Aside0.mk (blk_below (g := gb176) (o := .cells #[.slice A3_0 l3_0.length c3_0, .slice A3_1 l3_1.length c3_1] 25 (0, 0)) (by (with_reducible repeat (first | refine blk_drewN ?_ _ | refine blk_drew ?_ | refine blk_alloc ?_ _)); exact BK176.out) hb)
        have n4_ := Aside0.mk (below_step (by repeat (first | (with_reducible first | exact HB.out | apply below_alloc | apply pw_below_drewN | apply below_drew1 | refine below_set ?_ GE176.out) | exact HB.out)) hb)
        clear HO181
        clear BK176
        clear HB
        have HO181 := n0_
        have HO184 := n1_
        have HO187 := n2_
        have BK176 := n3_
        have HB := n4_
        clear n0_ n1_ n2_ n3_ n4_
        (try clear hb)
        (try clear hb2)
        (try clear hk)
        (try clear hi)
        (try clear ho0)
        (try clear ho1)
        obtain ⟨Ao111, co111, eo111⟩ := Kd.R_slice HO181.out
        (first | subst eo111 | (injection eo111 with f1_ f2_ f3_; have f4_ := f1_.symm; have f5_ := f3_.symm; clear f1_ f2_ f3_; subst f4_; subst f5_))
        obtain ⟨Ao112, co112, eo112⟩ := Kd.R_slice HO184.out
        (first | subst eo112 | (injection eo112 with f1_ f2_ f3_; have f4_ := f1_.symm; have f5_ := f3_.symm; clear f1_ f2_ f3_; subst f4_; subst f5_))
        obtain ⟨Ao113, co113, eo113⟩ := Kd.R_slice HO187.out
        (first | subst eo113 | (injection eo113 with f1_ f2_ f3_; have f4_ := f1_.symm; have f5_ := f3_.symm; clear f1_ f2_ f3_; subst f4_; subst f5_))
        refine hK.out _ _ ⟨(blk_cell BK176.out 0).trans rfl, (blk_cell BK176.out 1).trans rfl⟩ (fun hHeld => ?_)
        clear hK K
        refine norm_ (a' := ?_) ?_ ?_
        rotate_left
        · show Act.put _ (some 29) _ = _
          simp only [Act.put, List.setIfInBounds_toArray, List.set_cons_zero, List.set_cons_succ, i64_w, i32_w]
          rfl
        refine one_ (i := 6) (N := some 30) #[true, true, true, true, true, true, true, false] rfl rfl (one_of HT_.out (by kernel_rfl)) (by decide) (fun K hK => ?_)
        refine goes_ Try.func29 (by kernel_rfl) rfl #[.slice Ao111 t179.length co111, .int .i64 a1, .int .i64 a2, .agg #[.slice Ao112 t182.length co112, .slice Ao113 t185.length co113]] (by rfl) rfl rfl (by (try simp only [List.map_toArray, List.map_cons, List.map_nil]); first | done | rfl | (simp only [List.length_drop, List.length_take]; rfl)) ?_
        with_reducible refine (spec_StepChart.calls k _ _ t179 a1 a2 _ _ t182 _ _ t185 t188 _ ?side1 ?side2 ?side3 ?side4 ?side5 ?side6 A15.out).mono ?_
        (case side1 => repeat (first | exact (Kd.R_reads' HO181.out).2.2 | (with_reducible refine Kd.C_alloc ?_ _) | (with_reducible refine Kd.C_drewN ?_ _) | (with_reducible refine Kd.C_drew ?_)))
        (case side2 => exact (Kd.R_reads' HO181.out).2.1)
        (case side3 => repeat (first | exact (Kd.R_reads' HO184.out).2.2 | (with_reducible refine Kd.C_alloc ?_ _) | (with_reducible refine Kd.C_drewN ?_ _) | (with_reducible refine Kd.C_drew ?_)))
        (case side4 => exact (Kd.R_reads' HO184.out).2.1)
        (case side5 => repeat (first | exact (Kd.R_reads' HO187.out).2.2 | (with_reducible refine Kd.C_alloc ?_ _) | (with_reducible refine Kd.C_drewN ?_ _) | (with_reducible refine Kd.C_drew ?_)))
        (case side6 => exact (Kd.R_reads' HO187.out).2.1)
        rintro e w114 ⟨rfl, hb⟩
        refine ⟨_, rfl, ?_⟩
        have n0_ := Aside0.mk (Kd.R_below (by (with_reducible repeat (first | apply Kd.R_alloc | apply Kd.R_drewN | apply Kd.R_drew)); exact HO181.out) hb)
        have n1_ := Aside0.mk (Kd.R_below (by (with_reducible repeat (first | apply Kd.R_alloc | apply Kd.R_drewN | apply Kd.R_drew)); exact HO184.out) hb)
        have n2_ := Aside0.mk (Kd.R_below (by (with_reducible repeat (first | apply Kd.R_alloc | apply Kd.R_drewN | apply Kd.R_drew)); exact HO187.out) hb)
        have n3_ := Aside0.mk (blk_below (g := gb176) (o := .cells #[.slice A3_0 l3_0.length c3_0, .slice A3_1 l3_1.length c3_1] 25 (0, 0)) (by (with_reducible repeat (first | refine blk_drewN ?_ _ | refine blk_drew ?_ | refine blk_alloc ?_ _)); exact BK176.out) hb)
        have n4_ := Aside0.mk (below_step (by repeat (first | (with_reducible first | exact HB.out | apply below_alloc | apply pw_below_drewN | apply below_drew1 | refine below_set ?_ GE176.out) | exact HB.out)) hb)
        clear HO181
        clear HO184
        clear HO187
        clear BK176
        clear HB
        have HO181 := n0_
        have HO184 := n1_
        have HO187 := n2_
        have BK176 := n3_
        have HB := n4_
        clear n0_ n1_ n2_ n3_ n4_
        (try clear hb)
        (try clear hb2)
        (try clear hk)
        (try clear hi)
        refine hK.out _ _ ⟨(blk_cell BK176.out 0).trans rfl, (blk_cell BK176.out 1).trans rfl⟩ (fun hHeld => ?_)
        clear hK K
        refine norm_ (a' := ?_) ?_ ?_
        rotate_left
        · show Act.put _ (some 30) _ = _
          simp only [Act.put, List.setIfInBounds_toArray, List.set_cons_zero, List.set_cons_succ, i64_w, i32_w]
          rfl
        refine pure_ (i := 7) (N := some 10) (v := ?_) (a' := ?_) #[true, true, true, true, true, true, true, true] rfl rfl (any_of HT_.out (by kernel_rfl)) (fun _ _ _ h => h) (Or.inl ⟨by rfl, ?_⟩) ?_ ?_
        rotate_left
        · intro w'
          go_simp
          with_reducible rfl
        rotate_left
        · simp only [Act.put, List.setIfInBounds_toArray, List.set_cons_zero, List.set_cons_succ, i64_w, i32_w]
          rfl
        refine done_ (done_of HT_.out (by kernel_rfl)) ?_
        try go_wp2_with (first | ((with_reducible refine gate_callee (f := 30) rfl ?_); refine goesL_ (some 32) rfl rfl Try.func30 (by kernel_rfl) rfl #[.slice A0 l0.length c0] rfl (by (try simp only [List.map_toArray, List.map_cons, List.map_nil]); first | done | rfl | (simp only [List.length_drop, List.length_take]; rfl)) ?_; (with_reducible refine (laws_toTransitionS.calls k _ _ l0 t189 _ ?side1 ?side2 A16.out).mono ?_); (case side1 => repeat (first | exact (Kd.C_below HR0.out HB.out) | (with_reducible refine Kd.C_alloc ?_ _) | (with_reducible refine Kd.C_drewN ?_ _) | (with_reducible refine Kd.C_drew ?_))); (case side2 => exact HC0.out); rintro e w115 ⟨v190, rfl, ho0, hb⟩; refine ⟨_, rfl, ?_⟩; have n0_ := Aside0.mk (Kd.R_elder' (by (with_reducible repeat (first | apply Kd.R_alloc | apply Kd.R_drewN | apply Kd.R_drew)); exact HO181.out) (Kd.R_base ho0) hb); have n1_ := Aside0.mk (Kd.R_below (by (with_reducible repeat (first | apply Kd.R_alloc | apply Kd.R_drewN | apply Kd.R_drew)); exact HO184.out) hb); have n2_ := Aside0.mk (Kd.R_below (by (with_reducible repeat (first | apply Kd.R_alloc | apply Kd.R_drewN | apply Kd.R_drew)); exact HO187.out) hb); have n3_ := Aside0.mk (Kd.R_lower (Kd.R_new' ho0 (Kd.R_lt (by (with_reducible repeat (first | apply Kd.R_alloc | apply Kd.R_drewN | apply Kd.R_drew)); exact HO181.out))) (below_size (by repeat (first | (with_reducible first | exact HB.out | apply below_alloc | apply pw_below_drewN | apply below_drew1 | refine below_set ?_ GE176.out) | exact HB.out)))); have n4_ := Aside0.mk (blk_below (g := gb176) (o := .cells #[.slice A3_0 l3_0.length c3_0, .slice A3_1 l3_1.length c3_1] 25 (0, 0)) (by (with_reducible repeat (first | refine blk_drewN ?_ _ | refine blk_drew ?_ | refine blk_alloc ?_ _)); exact BK176.out) hb); have n5_ := Aside0.mk (below_step (by repeat (first | (with_reducible first | exact HB.out | apply below_alloc | apply pw_below_drewN | apply below_drew1 | refine below_set ?_ GE176.out) | exact HB.out)) hb); clear HO181; clear HO184; clear HO187; clear BK176; clear HB; have HO181 := n0_; have HO184 := n1_; have HO187 := n2_; have HO191 := n3_; have BK176 := n4_; have HB := n5_; clear n0_ n1_ n2_ n3_ n4_ n5_; (try clear hb); (try clear hb2); (try clear hk); (try clear hi); (try clear ho0); have hcz116_0 : w115.cell? ⟨gb176, 0, none⟩ = some (.slice A3_0 l3_0.length c3_0) := (blk_cell BK176.out 0).trans rfl; have hcz116_1 : w115.cell? ⟨gb176, 1, none⟩ = some (.slice A3_1 l3_1.length c3_1) := (blk_cell BK176.out 1).trans rfl; have hfz116_0 := blk_frozen BK176.out 0; have hfz116_1 := blk_frozen BK176.out 1) | ((with_reducible refine gate_callee (f := 10) rfl ?_); refine goesL_ (some 34) rfl rfl Try.func10 (by kernel_rfl) rfl #[.agg #[.slice A3_0 l3_0.length c3_0, .slice A3_1 l3_1.length c3_1]] rfl (by (try simp only [List.map_toArray, List.map_cons, List.map_nil]); first | done | rfl | (simp only [List.length_drop, List.length_take]; rfl)) ?_; (with_reducible refine (laws_toImage.calls k _ _ l3_0 _ _ l3_1 t192 t195 _ ?side1 ?side2 ?side3 ?side4 A17.out).mono ?_); (case side1 => repeat (first | exact (Kd.C_below HR3_0.out HB.out) | (with_reducible refine Kd.C_alloc ?_ _) | (with_reducible refine Kd.C_drewN ?_ _) | (with_reducible refine Kd.C_drew ?_))); (case side2 => exact HC3_0.out); (case side3 => repeat (first | exact (Kd.C_below HR3_1.out HB.out) | (with_reducible refine Kd.C_alloc ?_ _) | (with_reducible refine Kd.C_drewN ?_ _) | (with_reducible refine Kd.C_drew ?_))); (case side4 => exact HC3_1.out); rintro e w117 ⟨v193, v196, rfl, ho0, ho1, hb⟩; refine ⟨_, rfl, ?_⟩; have n0_ := Aside0.mk (Kd.R_below (by (with_reducible repeat (first | apply Kd.R_alloc | apply Kd.R_drewN | apply Kd.R_drew)); exact HO181.out) hb); have n1_ := Aside0.mk (Kd.R_elder' (by (with_reducible repeat (first | apply Kd.R_alloc | apply Kd.R_drewN | apply Kd.R_drew)); exact HO184.out) (Kd.R_base ho0) hb); have n2_ := Aside0.mk (Kd.R_elder' (by (with_reducible repeat (first | apply Kd.R_alloc | apply Kd.R_drewN | apply Kd.R_drew)); exact HO187.out) (Kd.R_base ho1) hb); have n3_ := Aside0.mk (Kd.R_below (by (with_reducible repeat (first | apply Kd.R_alloc | apply Kd.R_drewN | apply Kd.R_drew)); exact HO191.out) hb); have n4_ := Aside0.mk (Kd.R_lower (Kd.R_new' ho0 (Kd.R_lt (by (with_reducible repeat (first | apply Kd.R_alloc | apply Kd.R_drewN | apply Kd.R_drew)); exact HO184.out))) (below_size (by repeat (first | (with_reducible first | exact HB.out | apply below_alloc | apply pw_below_drewN | apply below_drew1 | refine below_set ?_ GE176.out) | exact HB.out)))); have n5_ := Aside0.mk (Kd.R_lower (Kd.R_new' ho1 (Kd.R_lt (by (with_reducible repeat (first | apply Kd.R_alloc | apply Kd.R_drewN | apply Kd.R_drew)); exact HO187.out))) (below_size (by repeat (first | (with_reducible first | exact HB.out | apply below_alloc | apply pw_below_drewN | apply below_drew1 | refine below_set ?_ GE176.out) | exact HB.out)))); have n6_ := Aside0.mk (blk_below (g := gb176) (o := .cells #[.slice A3_0 l3_0.length c3_0, .slice A3_1 l3_1.length c3_1] 25 (0, 0)) (by (with_reducible repeat (first | refine blk_drewN ?_ _ | refine blk_drew ?_ | refine blk_alloc ?_ _)); exact BK176.out) hb); have n7_ := Aside0.mk (below_step (by repeat (first | (with_reducible first | exact HB.out | apply below_alloc | apply pw_below_drewN | apply below_drew1 | refine below_set ?_ GE176.out) | exact HB.out)) hb); clear HO181; clear HO184; clear HO187; clear HO191; clear BK176; clear HB; have HO181 := n0_; have HO184 := n1_; have HO187 := n2_; have HO191 := n3_; have HO194 := n4_; have HO197 := n5_; have BK176 := n6_; have HB := n7_; clear n0_ n1_ n2_ n3_ n4_ n5_ n6_ n7_; (try clear hb); (try clear hb2); (try clear hk); (try clear hi); (try clear ho0); (try clear ho1)) | ((with_reducible refine gate_dst (N := 12) rfl ?_); refine box_event ?hg (N := 12) ?hd (cs := #[.slice none 0 0, .slice none 0 0]) (t := 27) ?hr ?_; (case hd => rfl); (case hg => rfl); (case hr => first | (go_simp; done) | (go_simp; rfl)); intro gb198 hg w118 hbox hb; have n0_ := Aside0.mk (Kd.R_below (by (with_reducible repeat (first | apply Kd.R_alloc | apply Kd.R_drewN | apply Kd.R_drew)); exact HO181.out) hb); have n1_ := Aside0.mk (Kd.R_below (by (with_reducible repeat (first | apply Kd.R_alloc | apply Kd.R_drewN | apply Kd.R_drew)); exact HO184.out) hb); have n2_ := Aside0.mk (Kd.R_below (by (with_reducible repeat (first | apply Kd.R_alloc | apply Kd.R_drewN | apply Kd.R_drew)); exact HO187.out) hb); have n3_ := Aside0.mk (Kd.R_below (by (with_reducible repeat (first | apply Kd.R_alloc | apply Kd.R_drewN | apply Kd.R_drew)); exact HO191.out) hb); have n4_ := Aside0.mk (Kd.R_below (by (with_reducible repeat (first | apply Kd.R_alloc | apply Kd.R_drewN | apply Kd.R_drew)); exact HO194.out) hb); have n5_ := Aside0.mk (Kd.R_below (by (with_reducible repeat (first | apply Kd.R_alloc | apply Kd.R_drewN | apply Kd.R_drew)); exact HO197.out) hb); have n6_ := Aside0.mk (blk_below (g := gb176) (o := .cells #[.slice A3_0 l3_0.length c3_0, .slice A3_1 l3_1.length c3_1] 25 (0, 0)) (by (with_reducible repeat (first | refine blk_drewN ?_ _ | refine blk_drew ?_ | refine blk_alloc ?_ _)); exact BK176.out) hb); have n7_ := Aside0.mk (below_step (by repeat (first | (with_reducible first | exact HB.out | apply below_alloc | apply pw_below_drewN | apply below_drew1 | refine below_set ?_ GE176.out) | exact HB.out)) hb); have n8_ := Aside0.mk (hbox); have n9_ := Aside0.mk ((by rw [hg]; exact (below_size (by repeat (first | (with_reducible first | exact HB.out | apply below_alloc | apply pw_below_drewN | apply below_drew1 | refine below_set ?_ GE176.out) | exact HB.out))) : w.heap.size ≤ gb198)); have n10_ := Aside0.mk ((by rw [hg]; exact (below_size (by repeat (first | (with_reducible first | exact HB.out | apply below_alloc | apply pw_below_drewN | apply below_drew1 | refine below_set ?_ GE176.out) | exact HB.out))) : w.heap.size ≤ gb198)); have n11_ := Aside0.mk ((by rw [hg]; exact Nat.ne_of_lt (blk_lt (g := gb176) (o := .cells #[.slice A3_0 l3_0.length c3_0, .slice A3_1 l3_1.length c3_1] 25 (0, 0)) (by (with_reducible repeat (first | refine blk_drewN ?_ _ | refine blk_drew ?_ | refine blk_alloc ?_ _)); exact BK176.out)) : gb176 ≠ gb198)); have n12_ := Aside0.mk ((by rw [hg]; exact Nat.ne_of_gt (blk_lt (g := gb176) (o := .cells #[.slice A3_0 l3_0.length c3_0, .slice A3_1 l3_1.length c3_1] 25 (0, 0)) (by (with_reducible repeat (first | refine blk_drewN ?_ _ | refine blk_drew ?_ | refine blk_alloc ?_ _)); exact BK176.out)) : gb198 ≠ gb176)); clear HO181; clear HO184; clear HO187; clear HO191; clear HO194; clear HO197; clear BK176; clear HB; have HO181 := n0_; have HO184 := n1_; have HO187 := n2_; have HO191 := n3_; have HO194 := n4_; have HO197 := n5_; have BK176 := n6_; have HB := n7_; have BK198 := n8_; have GW198 := n9_; have GE198 := n10_; have NB176_198 := n11_; have NB198_176 := n12_; clear n0_ n1_ n2_ n3_ n4_ n5_ n6_ n7_ n8_ n9_ n10_ n11_ n12_; clear hb hbox hg; obtain ⟨Ao119, co119, eo119⟩ := Kd.R_slice HO194.out; subst eo119; have hnb120 := NB198_176.out; have hnc120 := NB176_198.out; have hcz121_0 : w118.cell? ⟨gb198, 0, none⟩ = some (.slice none 0 0) := (blk_cell BK198.out 0).trans rfl; have hcz121_1 : w118.cell? ⟨gb198, 1, none⟩ = some (.slice none 0 0) := (blk_cell BK198.out 1).trans rfl; have hfz121_0 := blk_frozen BK198.out 0; have hfz121_1 := blk_frozen BK198.out 1; obtain ⟨Ao122, co122, eo122⟩ := Kd.R_slice HO197.out; subst eo122; obtain ⟨Ao123, co123, eo123⟩ := Kd.R_slice HO191.out; subst eo123) | ((with_reducible refine gate_callee (f := 31) rfl ?_); refine goesL_ (some 39) rfl rfl Try.func31 (by kernel_rfl) rfl #[.slice Ao123 t189.length co123, .int .i64 a1, .int .i64 a2, .agg #[.slice Ao119 t192.length co119, .slice Ao122 t195.length co122]] rfl (by (try simp only [List.map_toArray, List.map_cons, List.map_nil]); first | done | rfl | (simp only [List.length_drop, List.length_take]; rfl)) ?_; (with_reducible refine (impl_StepChart.calls k _ _ t189 a1 a2 _ _ t192 _ _ t195 t199 _ ?side1 ?side2 ?side3 ?side4 ?side5 ?side6 A18.out).mono ?_); (case side1 => refine (Kd.R_reads' (e := 75) (base := w.heap.size) (ok := fun k_ => (True ∧ some k_ ≠ (.slice Ao111 t179.length co111 : Value).ownBlock)) (n := t189.length) (c := co123) ?_).2.2; exact (by (with_reducible repeat (first | apply Kd.R_alloc | apply Kd.R_drewN | apply Kd.R_drew)); exact (Kd.R_mono (Kd.R_far (p := ⟨gb198, 1, none⟩) (Kd.R_far (p := ⟨gb198, 0, none⟩) (Kd.R_types HO191.out BK198.out (by decide)) (fun _ hk => by first | exact hk.2 | exact trivial) (.slice Ao119 t192.length co119)) (fun _ hk => by first | exact hk.2 | exact trivial) (.slice Ao122 t195.length co122)) (fun _ h_ => h_.1)))); (case side2 => exact (Kd.R_reads' HO191.out).2.1); (case side3 => refine (Kd.R_reads' (e := 4) (base := w.heap.size) (ok := fun k_ => (True ∧ some k_ ≠ (.slice Ao112 t182.length co112 : Value).ownBlock)) (n := t192.length) (c := co119) ?_).2.2; exact (by (with_reducible repeat (first | apply Kd.R_alloc | apply Kd.R_drewN | apply Kd.R_drew)); exact (Kd.R_mono (Kd.R_far (p := ⟨gb198, 1, none⟩) (Kd.R_far (p := ⟨gb198, 0, none⟩) (Kd.R_types HO194.out BK198.out (by decide)) (fun _ hk => by first | exact hk.2 | exact trivial) (.slice Ao119 t192.length co119)) (fun _ hk => by first | exact hk.2 | exact trivial) (.slice Ao122 t195.length co122)) (fun _ h_ => h_.1)))); (case side4 => exact (Kd.R_reads' HO194.out).2.1); (case side5 => refine (Kd.R_reads' (e := 3) (base := w.heap.size) (ok := fun k_ => (True ∧ some k_ ≠ (.slice Ao113 t185.length co113 : Value).ownBlock)) (n := t195.length) (c := co122) ?_).2.2; exact (by (with_reducible repeat (first | apply Kd.R_alloc | apply Kd.R_drewN | apply Kd.R_drew)); exact (Kd.R_mono (Kd.R_far (p := ⟨gb198, 1, none⟩) (Kd.R_far (p := ⟨gb198, 0, none⟩) (Kd.R_types HO197.out BK198.out (by decide)) (fun _ hk => by first | exact hk.2 | exact trivial) (.slice Ao119 t192.length co119)) (fun _ hk => by first | exact hk.2 | exact trivial) (.slice Ao122 t195.length co122)) (fun _ h_ => h_.1)))); (case side6 => exact (Kd.R_reads' HO197.out).2.1); rintro e w124 ⟨rfl, hb⟩; refine ⟨_, rfl, ?_⟩; have n0_ := Aside0.mk (Kd.R_below (by (with_reducible repeat (first | apply Kd.R_alloc | apply Kd.R_drewN | apply Kd.R_drew)); exact (Kd.R_mono (Kd.R_far (p := ⟨gb198, 1, none⟩) (Kd.R_far (p := ⟨gb198, 0, none⟩) (Kd.R_types HO181.out BK198.out (by decide)) (fun _ hk => by first | exact hk.2 | exact trivial) (.slice Ao119 t192.length co119)) (fun _ hk => by first | exact hk.2 | exact trivial) (.slice Ao122 t195.length co122)) (fun _ h_ => h_.1))) hb); have n1_ := Aside0.mk (Kd.R_below (by (with_reducible repeat (first | apply Kd.R_alloc | apply Kd.R_drewN | apply Kd.R_drew)); exact (Kd.R_mono (Kd.R_far (p := ⟨gb198, 1, none⟩) (Kd.R_far (p := ⟨gb198, 0, none⟩) (Kd.R_types HO184.out BK198.out (by decide)) (fun _ hk => by first | exact hk.2 | exact trivial) (.slice Ao119 t192.length co119)) (fun _ hk => by first | exact hk.2 | exact trivial) (.slice Ao122 t195.length co122)) (fun _ h_ => h_.1))) hb); have n2_ := Aside0.mk (Kd.R_below (by (with_reducible repeat (first | apply Kd.R_alloc | apply Kd.R_drewN | apply Kd.R_drew)); exact (Kd.R_mono (Kd.R_far (p := ⟨gb198, 1, none⟩) (Kd.R_far (p := ⟨gb198, 0, none⟩) (Kd.R_types HO187.out BK198.out (by decide)) (fun _ hk => by first | exact hk.2 | exact trivial) (.slice Ao119 t192.length co119)) (fun _ hk => by first | exact hk.2 | exact trivial) (.slice Ao122 t195.length co122)) (fun _ h_ => h_.1))) hb); have n3_ := Aside0.mk (Kd.R_below (by (with_reducible repeat (first | apply Kd.R_alloc | apply Kd.R_drewN | apply Kd.R_drew)); exact (Kd.R_mono (Kd.R_far (p := ⟨gb198, 1, none⟩) (Kd.R_far (p := ⟨gb198, 0, none⟩) (Kd.R_types HO191.out BK198.out (by decide)) (fun _ hk => by first | exact hk.2 | exact trivial) (.slice Ao119 t192.length co119)) (fun _ hk => by first | exact hk.2 | exact trivial) (.slice Ao122 t195.length co122)) (fun _ h_ => h_.1))) hb); have n4_ := Aside0.mk (Kd.R_below (by (with_reducible repeat (first | apply Kd.R_alloc | apply Kd.R_drewN | apply Kd.R_drew)); exact (Kd.R_mono (Kd.R_far (p := ⟨gb198, 1, none⟩) (Kd.R_far (p := ⟨gb198, 0, none⟩) (Kd.R_types HO194.out BK198.out (by decide)) (fun _ hk => by first | exact hk.2 | exact trivial) (.slice Ao119 t192.length co119)) (fun _ hk => by first | exact hk.2 | exact trivial) (.slice Ao122 t195.length co122)) (fun _ h_ => h_.1))) hb); have n5_ := Aside0.mk (Kd.R_below (by (with_reducible repeat (first | apply Kd.R_alloc | apply Kd.R_drewN | apply Kd.R_drew)); exact (Kd.R_mono (Kd.R_far (p := ⟨gb198, 1, none⟩) (Kd.R_far (p := ⟨gb198, 0, none⟩) (Kd.R_types HO197.out BK198.out (by decide)) (fun _ hk => by first | exact hk.2 | exact trivial) (.slice Ao119 t192.length co119)) (fun _ hk => by first | exact hk.2 | exact trivial) (.slice Ao122 t195.length co122)) (fun _ h_ => h_.1))) hb); have n6_ := Aside0.mk (blk_below (g := gb176) (o := .cells #[.slice A3_0 l3_0.length c3_0, .slice A3_1 l3_1.length c3_1] 25 (0, 0)) (by (with_reducible repeat (first | refine blk_drewN ?_ _ | refine blk_drew ?_ | refine blk_alloc ?_ _)); refine blk_far ?_ NB176_198.out _; (with_reducible repeat (first | refine blk_drewN ?_ _ | refine blk_drew ?_ | refine blk_alloc ?_ _)); refine blk_far ?_ NB176_198.out _; (with_reducible repeat (first | refine blk_drewN ?_ _ | refine blk_drew ?_ | refine blk_alloc ?_ _)); exact BK176.out) hb); have n7_ := Aside0.mk (blk_below (g := gb198) (o := .cells #[.slice Ao119 t192.length co119, .slice Ao122 t195.length co122] 27 (0, 0)) (by (with_reducible repeat (first | refine blk_drewN ?_ _ | refine blk_drew ?_ | refine blk_alloc ?_ _)); refine blk_put (cs := #[.slice Ao119 t192.length co119, .slice none 0 0]) ?_ 1 _ rfl; (with_reducible repeat (first | refine blk_drewN ?_ _ | refine blk_drew ?_ | refine blk_alloc ?_ _)); refine blk_put (cs := #[.slice none 0 0, .slice none 0 0]) ?_ 0 _ rfl; (with_reducible repeat (first | refine blk_drewN ?_ _ | refine blk_drew ?_ | refine blk_alloc ?_ _)); exact BK198.out) hb); have n8_ := Aside0.mk (below_step (by repeat (first | (with_reducible first | exact HB.out | apply below_alloc | apply pw_below_drewN | apply below_drew1 | refine below_set ?_ GE176.out | refine below_set ?_ GE198.out) | exact HB.out)) hb); clear HO181; clear HO184; clear HO187; clear HO191; clear HO194; clear HO197; clear BK176; clear BK198; clear HB; have HO181 := n0_; have HO184 := n1_; have HO187 := n2_; have HO191 := n3_; have HO194 := n4_; have HO197 := n5_; have BK176 := n6_; have BK198 := n7_; have HB := n8_; clear n0_ n1_ n2_ n3_ n4_ n5_ n6_ n7_ n8_; (try clear hb); (try clear hb2); (try clear hk); (try clear hi)))
        go_ret
        exact ⟨by first | rfl | (simp [errW_none, errW_some] <;> rfl) | (simp [*, errW_none, errW_some] <;> rfl), by repeat (first | (with_reducible first | exact HB.out | apply below_alloc | apply pw_below_drewN | apply below_drew1 | refine below_set ?_ GE176.out | refine below_set ?_ GE198.out) | exact HB.out)⟩
end Go.Proofs.Ytojgaiibnajghaa.QFnExactStepChart
