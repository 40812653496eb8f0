-- Written by wip/pr2.py: a program of this session's own, which runs the kit's print over contracts of its own.
import Derived.Test.YthbbhdadioiefaaQFnCompressLinex0
import Derived.Test.YthbbhdadioiefaaQFnCompressLinex2
import Derived.Test.YthbbhdadioiefaaQFnCompressLinex3
namespace Go.Proofs.Ythbbhdadioiefaa.QFnCompressLine
open Go.RowKit Go.Proofs.YthbbhdadioiefaaW.PrintWords Go.Proofs.YthbbhdadioiefaaW.PrintLast Go.Proofs.YthbbhdadioiefaaW.PrintMore
attribute [local go_sem] max2_int min2_int max_two min_two max_three min_three max_four min_four   -- for this text's walks alone
set_option linter.unusedVariables false
set_option linter.unusedSimpArgs false

/-! ### spec_l19Chord: function 96 -/
def spec_l19Chord.l0 : Nat → List (S84) → Int → Int → Int → Int → Int → Option (Bool)
  | 0, _, _, _, _, _, _ => none
  | k + 1, x0, x1, x2, x3, x9, x10 => if x10 < x2 then (if 0 ≤ x10 then (if x10 < (x0.length : Int) then (if 0 ≤ x1 then (if x1 < (x0.length : Int) then (if 0 ≤ x2 then (if x2 < (x0.length : Int) then (if (mx (wrap64 ((wrap64 ((wrap64 (((rd_T84 x0 x10).f1) - ((rd_T84 x0 x1).f1))) * x9)) - (wrap64 ((wrap64 (((rd_T84 x0 x2).f1) - ((rd_T84 x0 x1).f1))) * (wrap64 (((rd_T84 x0 x10).f0) - ((rd_T84 x0 x1).f0))))))) (wrap64 (-(wrap64 ((wrap64 ((wrap64 (((rd_T84 x0 x10).f1) - ((rd_T84 x0 x1).f1))) * x9)) - (wrap64 ((wrap64 (((rd_T84 x0 x2).f1) - ((rd_T84 x0 x1).f1))) * (wrap64 (((rd_T84 x0 x10).f0) - ((rd_T84 x0 x1).f0)))))))))) > (wrap64 (x3 * x9)) then (some false) else (spec_l19Chord.l0 k x0 x1 x2 x3 x9 (wrap64 (x10 + 1)))) else (none)) else (none)) else (none)) else (none)) else (none)) else (none)) else (some true)
def spec_l19Chord.f (k : Nat) (l0 : List (S84)) (a1 : Int) (a2 : Int) (a3 : Int) : Option (Bool) := if 0 ≤ a2 then (if a2 < (l0.length : Int) then (if 0 ≤ a1 then (if a1 < (l0.length : Int) then (spec_l19Chord.l0 k l0 a1 a2 a3 (wrap64 (((rd_T84 l0 a2).f0) - ((rd_T84 l0 a1).f0))) (wrap64 (a1 + 1))) else (none)) else (none)) else (none)) else (none)
theorem spec_l19Chord.mono_l : ∀ k, (∀ y0 y1 y2 y3 y4 y5, LeO (spec_l19Chord.l0 k y0 y1 y2 y3 y4 y5) (spec_l19Chord.l0 (k + 1) y0 y1 y2 y3 y4 y5))
  | 0 => fun _ _ _ _ _ _ r h => by simp [spec_l19Chord.l0] at h
  | k + 1 => by
    have ih0 := spec_l19Chord.mono_l k
    · intro y0 y1 y2 y3 y4 y5
      unfold spec_l19Chord.l0
      repeat' first
      | (with_reducible exact ih0 _ _ _ _ _ _)
      | (with_reducible exact LeO.refl _)
      | (with_reducible exact LeO.none _)
      | (with_reducible refine LeO.ite ?_ ?_)
      | (with_reducible refine LeO.bind ?_ (fun _ => ?_))
      | exact ih0 _ _ _ _ _ _
      | exact LeO.none _
      | refine LeO.ite ?_ ?_
      | refine LeO.bind ?_ (fun _ => ?_)
theorem spec_l19Chord.mono : ∀ a0 a1 a2 a3 k, LeO (spec_l19Chord.f k a0 a1 a2 a3) (spec_l19Chord.f (k + 1) a0 a1 a2 a3) := by
  intro a0 a1 a2 a3 k
  have ih0 := spec_l19Chord.mono_l k
  unfold spec_l19Chord.f
  repeat' first
      | (with_reducible exact ih0 _ _ _ _ _ _)
      | (with_reducible exact LeO.refl _)
      | (with_reducible exact LeO.none _)
      | (with_reducible refine LeO.ite ?_ ?_)
      | (with_reducible refine LeO.bind ?_ (fun _ => ?_))
      | exact ih0 _ _ _ _ _ _
      | exact LeO.none _
      | refine LeO.ite ?_ ?_
      | refine LeO.bind ?_ (fun _ => ?_)
set_option maxHeartbeats 8000000 in
set_option maxRecDepth 100000 in
theorem spec_l19Chord.calls (k : Nat) (A0 : Option Addr) (c0 : Nat) (l0 : List (S84)) (a1 : Int) (a2 : Int) (a3 : Int) (r : Bool) (w : World) (hr0 : Kd.C k84 w A0 l0.length l0) (hc0 : l0.length ≤ c0) (h : spec_l19Chord.f k l0 a1 a2 a3 = some r) :
    Calls Try.prog 96 #[.slice A0 l0.length c0, .int .i64 a1, .int .i64 a2, .int .i64 a3] w fun e w' => e = .returned (.bool r) ∧ Below w.heap.size w w' := by
  have HR0 := Aside0.mk hr0
  have HC0 := Aside0.mk hc0
  clear hr0 hc0
  have HB := Aside0.mk (Below.refl w.heap.size w)
  have H : (if 0 ≤ a2 then (if a2 < (l0.length : Int) then (if 0 ≤ a1 then (if a1 < (l0.length : Int) then (spec_l19Chord.l0 k l0 a1 a2 a3 (wrap64 (((rd_T84 l0 a2).f0) - ((rd_T84 l0 a1).f0))) (wrap64 (a1 + 1))) else (none)) else (none)) else (none)) else (none)) = some r := h
  clear h
  by_cases c5 : 0 ≤ a2
  · rw [if_pos c5] at H
    have c5b0 : decide (0 ≤ a2) = true := decide_eq_true c5
    clear c5
    by_cases c6 : a2 < (l0.length : Int)
    · rw [if_pos c6] at H
      have c6b0 : decide (a2 < (l0.length : Int)) = true := decide_eq_true c6
      clear c6
      by_cases c7 : 0 ≤ a1
      · rw [if_pos c7] at H
        have c7b0 : decide (0 ≤ a1) = true := decide_eq_true c7
        clear c7
        by_cases c8 : a1 < (l0.length : Int)
        · rw [if_pos c8] at H
          have c8b0 : decide (a1 < (l0.length : Int)) = true := decide_eq_true c8
          clear c8
          have H' := Aside0.mk H
          clear H
          have p132 : 0 ≤ (a2 : Int) := of_decide_eq_true (by first | (with_reducible assumption) | assumption)
          have q132 : a2 < (l0.length : Int) := of_decide_eq_true (by first | (with_reducible assumption) | assumption)
          obtain ⟨ad132, e132, hx132_0, hx132_1⟩ := at_T84 HR0.out a2 p132 q132
          cases e132
          replace p132 := eq_true p132
          replace q132 := eq_true q132
          have p133 : 0 ≤ (a1 : Int) := of_decide_eq_true (by first | (with_reducible assumption) | assumption)
          have q133 : a1 < (l0.length : Int) := of_decide_eq_true (by first | (with_reducible assumption) | assumption)
          obtain ⟨ad133, e133, hx133_0, hx133_1⟩ := at_T84 HR0.out a1 p133 q133
          obtain rfl : ad132 = ad133 := (by injection e133)
          replace p133 := eq_true p133
          replace q133 := eq_true q133
          go_enter Try.func96, Try.ntmps96
          go_wp2
          repeat (go_quiet (fail); try go_wp2)
          go_loopg [10] k (fun kq v10 w' => ∃ (x10_1 : Int), v10 = .int .i64 x10_1 ∧ Aside0 (spec_l19Chord.l0 kq l0 a1 a2 a3 (wrap64 (((rd_T84 l0 a2).f0) - ((rd_T84 l0 a1).f0))) x10_1 = some r) ∧ Aside0 (kq ≤ k) ∧ Aside0 (Below w.heap.size w w'))
          case atStart => exact ⟨(wrap64 (a1 + 1)), (by first | rfl | (simp; done) | (simp [*]; done)), H', ⟨Nat.le_refl _⟩, ⟨by repeat (first | (with_reducible first | exact HB.out | apply below_alloc | apply pw_below_drewN | apply below_drew1) | exact HB.out)⟩⟩
          case round =>
            clear H'
            try clear p1
            try clear q1
            try clear hx1
            try clear p2
            try clear c5
            try clear c5b0
            try clear c6
            try clear c6b0
            try clear p6
            try clear c7
            try clear c7b0
            try clear c8
            try clear c8b0
            try clear hx132_0
            try clear hx132_1
            try clear hx133_0
            try clear hx133_1
            try clear p132
            try clear p133
            try clear q132
            try clear q133
            obtain ⟨x10_1, rfl, HA, HK1, HB⟩ := hrel
            cases gk with
            | zero => exact absurd HA.out (by simp [spec_l19Chord.l0])
            | succ k1 =>
              have H := HA.out
              clear HA
              simp only [spec_l19Chord.l0] at H
              by_cases c9 : x10_1 < a2
              · rw [if_pos c9] at H
                have c9b0 : decide (x10_1 < a2) = true := decide_eq_true c9
                clear c9
                by_cases c10 : 0 ≤ x10_1
                · rw [if_pos c10] at H
                  have c10b0 : decide (0 ≤ x10_1) = true := decide_eq_true c10
                  clear c10
                  by_cases c11 : x10_1 < (l0.length : Int)
                  · rw [if_pos c11] at H
                    have c11b0 : decide (x10_1 < (l0.length : Int)) = true := decide_eq_true c11
                    clear c11
                    by_cases c12 : 0 ≤ a1
                    · rw [if_pos c12] at H
                      have c12b0 : decide (0 ≤ a1) = true := decide_eq_true c12
                      clear c12
                      by_cases c13 : a1 < (l0.length : Int)
                      · rw [if_pos c13] at H
                        have c13b0 : decide (a1 < (l0.length : Int)) = true := decide_eq_true c13
                        clear c13
                        by_cases c14 : 0 ≤ a2
                        · rw [if_pos c14] at H
                          have c14b0 : decide (0 ≤ a2) = true := decide_eq_true c14
                          clear c14
                          by_cases c15 : a2 < (l0.length : Int)
                          · rw [if_pos c15] at H
                            have c15b0 : decide (a2 < (l0.length : Int)) = true := decide_eq_true c15
                            clear c15
                            obtain ⟨ji16, hji16⟩ : ∃ j_ : Int, (mx (wrap64 ((wrap64 ((wrap64 (((rd_T84 l0 x10_1).f1) - ((rd_T84 l0 a1).f1))) * (wrap64 (((rd_T84 l0 a2).f0) - ((rd_T84 l0 a1).f0))))) - (wrap64 ((wrap64 (((rd_T84 l0 a2).f1) - ((rd_T84 l0 a1).f1))) * (wrap64 (((rd_T84 l0 x10_1).f0) - ((rd_T84 l0 a1).f0))))))) (wrap64 (-(wrap64 ((wrap64 ((wrap64 (((rd_T84 l0 x10_1).f1) - ((rd_T84 l0 a1).f1))) * (wrap64 (((rd_T84 l0 a2).f0) - ((rd_T84 l0 a1).f0))))) - (wrap64 ((wrap64 (((rd_T84 l0 a2).f1) - ((rd_T84 l0 a1).f1))) * (wrap64 (((rd_T84 l0 x10_1).f0) - ((rd_T84 l0 a1).f0)))))))))) = j_ := ⟨_, rfl⟩
                            replace H : (if (ji16) > (wrap64 (a3 * (wrap64 (((rd_T84 l0 a2).f0) - ((rd_T84 l0 a1).f0))))) then (some false) else (spec_l19Chord.l0 k1 l0 a1 a2 a3 (wrap64 (((rd_T84 l0 a2).f0) - ((rd_T84 l0 a1).f0))) (wrap64 (x10_1 + 1)))) = some r := by first | (rw [hji16] at H; exact H) | (simp only [hji16] at H ⊢; exact H)
                            have hji16_ : (if (wrap64 ((wrap64 ((wrap64 (((rd_T84 l0 x10_1).f1) - ((rd_T84 l0 a1).f1))) * (wrap64 (((rd_T84 l0 a2).f0) - ((rd_T84 l0 a1).f0))))) - (wrap64 ((wrap64 (((rd_T84 l0 a2).f1) - ((rd_T84 l0 a1).f1))) * (wrap64 (((rd_T84 l0 x10_1).f0) - ((rd_T84 l0 a1).f0))))))) < (wrap64 (-(wrap64 ((wrap64 ((wrap64 (((rd_T84 l0 x10_1).f1) - ((rd_T84 l0 a1).f1))) * (wrap64 (((rd_T84 l0 a2).f0) - ((rd_T84 l0 a1).f0))))) - (wrap64 ((wrap64 (((rd_T84 l0 a2).f1) - ((rd_T84 l0 a1).f1))) * (wrap64 (((rd_T84 l0 x10_1).f0) - ((rd_T84 l0 a1).f0))))))))) then (wrap64 (-(wrap64 ((wrap64 ((wrap64 (((rd_T84 l0 x10_1).f1) - ((rd_T84 l0 a1).f1))) * (wrap64 (((rd_T84 l0 a2).f0) - ((rd_T84 l0 a1).f0))))) - (wrap64 ((wrap64 (((rd_T84 l0 a2).f1) - ((rd_T84 l0 a1).f1))) * (wrap64 (((rd_T84 l0 x10_1).f0) - ((rd_T84 l0 a1).f0))))))))) else (wrap64 ((wrap64 ((wrap64 (((rd_T84 l0 x10_1).f1) - ((rd_T84 l0 a1).f1))) * (wrap64 (((rd_T84 l0 a2).f0) - ((rd_T84 l0 a1).f0))))) - (wrap64 ((wrap64 (((rd_T84 l0 a2).f1) - ((rd_T84 l0 a1).f1))) * (wrap64 (((rd_T84 l0 x10_1).f0) - ((rd_T84 l0 a1).f0)))))))) = ji16 := hji16
                            by_cases c17 : (ji16) > (wrap64 (a3 * (wrap64 (((rd_T84 l0 a2).f0) - ((rd_T84 l0 a1).f0)))))
                            · rw [if_pos c17] at H
                              have c17b0 : decide ((wrap64 (a3 * (wrap64 (((rd_T84 l0 a2).f0) - ((rd_T84 l0 a1).f0))))) < (ji16)) = true := decide_eq_true c17
                              clear c17
                              obtain rfl := Option.some.inj H
                              have p134 : 0 ≤ (x10_1 : Int) := of_decide_eq_true (by first | (with_reducible assumption) | assumption)
                              have q134 : x10_1 < (l0.length : Int) := of_decide_eq_true (by first | (with_reducible assumption) | assumption)
                              obtain ⟨ad134, e134, hx134_0, hx134_1⟩ := at_T84 HR0.out x10_1 p134 q134
                              obtain rfl : ad132 = ad134 := (by injection e134)
                              replace hx134_0 := (HB.out.cell (World.block_lt_of_cell? w _ hx134_0)).trans hx134_0
                              replace hx134_1 := (HB.out.cell (World.block_lt_of_cell? w _ hx134_1)).trans hx134_1
                              replace p134 := eq_true p134
                              replace q134 := eq_true q134
                              have p135 : 0 ≤ (a1 : Int) := of_decide_eq_true (by first | (with_reducible assumption) | assumption)
                              have q135 : a1 < (l0.length : Int) := of_decide_eq_true (by first | (with_reducible assumption) | assumption)
                              obtain ⟨ad135, e135, hx135_0, hx135_1⟩ := at_T84 HR0.out a1 p135 q135
                              obtain rfl : ad132 = ad135 := (by injection e135)
                              replace hx135_0 := (HB.out.cell (World.block_lt_of_cell? w _ hx135_0)).trans hx135_0
                              replace hx135_1 := (HB.out.cell (World.block_lt_of_cell? w _ hx135_1)).trans hx135_1
                              replace p135 := eq_true p135
                              replace q135 := eq_true q135
                              have p136 : 0 ≤ (a2 : Int) := of_decide_eq_true (by first | (with_reducible assumption) | assumption)
                              have q136 : a2 < (l0.length : Int) := of_decide_eq_true (by first | (with_reducible assumption) | assumption)
                              obtain ⟨ad136, e136, hx136_0, hx136_1⟩ := at_T84 HR0.out a2 p136 q136
                              obtain rfl : ad132 = ad136 := (by injection e136)
                              replace hx136_0 := (HB.out.cell (World.block_lt_of_cell? w _ hx136_0)).trans hx136_0
                              replace hx136_1 := (HB.out.cell (World.block_lt_of_cell? w _ hx136_1)).trans hx136_1
                              replace p136 := eq_true p136
                              replace q136 := eq_true q136
                              have p137 : 0 ≤ (a1 : Int) := of_decide_eq_true (by first | (with_reducible assumption) | assumption)
                              have q137 : a1 < (l0.length : Int) := of_decide_eq_true (by first | (with_reducible assumption) | assumption)
                              obtain ⟨ad137, e137, hx137_0, hx137_1⟩ := at_T84 HR0.out a1 p137 q137
                              obtain rfl : ad132 = ad137 := (by injection e137)
                              replace hx137_0 := (HB.out.cell (World.block_lt_of_cell? w _ hx137_0)).trans hx137_0
                              replace hx137_1 := (HB.out.cell (World.block_lt_of_cell? w _ hx137_1)).trans hx137_1
                              replace p137 := eq_true p137
                              replace q137 := eq_true q137
                              have p138 : 0 ≤ (x10_1 : Int) := of_decide_eq_true (by first | (with_reducible assumption) | assumption)
                              have q138 : x10_1 < (l0.length : Int) := of_decide_eq_true (by first | (with_reducible assumption) | assumption)
                              obtain ⟨ad138, e138, hx138_0, hx138_1⟩ := at_T84 HR0.out x10_1 p138 q138
                              obtain rfl : ad132 = ad138 := (by injection e138)
                              replace hx138_0 := (HB.out.cell (World.block_lt_of_cell? w _ hx138_0)).trans hx138_0
                              replace hx138_1 := (HB.out.cell (World.block_lt_of_cell? w _ hx138_1)).trans hx138_1
                              replace p138 := eq_true p138
                              replace q138 := eq_true q138
                              have p139 : 0 ≤ (a1 : Int) := of_decide_eq_true (by first | (with_reducible assumption) | assumption)
                              have q139 : a1 < (l0.length : Int) := of_decide_eq_true (by first | (with_reducible assumption) | assumption)
                              obtain ⟨ad139, e139, hx139_0, hx139_1⟩ := at_T84 HR0.out a1 p139 q139
                              obtain rfl : ad132 = ad139 := (by injection e139)
                              replace hx139_0 := (HB.out.cell (World.block_lt_of_cell? w _ hx139_0)).trans hx139_0
                              replace hx139_1 := (HB.out.cell (World.block_lt_of_cell? w _ hx139_1)).trans hx139_1
                              replace p139 := eq_true p139
                              replace q139 := eq_true q139
                              go_wp2
                              repeat (go_quiet (fail); try go_wp2)
                              go_ret
                              exact ⟨by first | rfl | (simp [errW_none, errW_some] <;> rfl) | (simp only [← hji16]; first | rfl | (simp [errW_none, errW_some] <;> rfl)) | (simp [*, errW_none, errW_some] <;> rfl), by repeat (first | (with_reducible first | exact HB.out | apply below_alloc | apply pw_below_drewN | apply below_drew1) | exact HB.out)⟩
                            · rw [if_neg c17] at H
                              have c17b0 : decide ((wrap64 (a3 * (wrap64 (((rd_T84 l0 a2).f0) - ((rd_T84 l0 a1).f0))))) < (ji16)) = false := decide_eq_false c17
                              clear c17
                              have H' := Aside0.mk H
                              clear H
                              have p134 : 0 ≤ (x10_1 : Int) := of_decide_eq_true (by first | (with_reducible assumption) | assumption)
                              have q134 : x10_1 < (l0.length : Int) := of_decide_eq_true (by first | (with_reducible assumption) | assumption)
                              obtain ⟨ad134, e134, hx134_0, hx134_1⟩ := at_T84 HR0.out x10_1 p134 q134
                              obtain rfl : ad132 = ad134 := (by injection e134)
                              replace hx134_0 := (HB.out.cell (World.block_lt_of_cell? w _ hx134_0)).trans hx134_0
                              replace hx134_1 := (HB.out.cell (World.block_lt_of_cell? w _ hx134_1)).trans hx134_1
                              replace p134 := eq_true p134
                              replace q134 := eq_true q134
                              have p135 : 0 ≤ (a1 : Int) := of_decide_eq_true (by first | (with_reducible assumption) | assumption)
                              have q135 : a1 < (l0.length : Int) := of_decide_eq_true (by first | (with_reducible assumption) | assumption)
                              obtain ⟨ad135, e135, hx135_0, hx135_1⟩ := at_T84 HR0.out a1 p135 q135
                              obtain rfl : ad132 = ad135 := (by injection e135)
                              replace hx135_0 := (HB.out.cell (World.block_lt_of_cell? w _ hx135_0)).trans hx135_0
                              replace hx135_1 := (HB.out.cell (World.block_lt_of_cell? w _ hx135_1)).trans hx135_1
                              replace p135 := eq_true p135
                              replace q135 := eq_true q135
                              have p136 : 0 ≤ (a2 : Int) := of_decide_eq_true (by first | (with_reducible assumption) | assumption)
                              have q136 : a2 < (l0.length : Int) := of_decide_eq_true (by first | (with_reducible assumption) | assumption)
                              obtain ⟨ad136, e136, hx136_0, hx136_1⟩ := at_T84 HR0.out a2 p136 q136
                              obtain rfl : ad132 = ad136 := (by injection e136)
                              replace hx136_0 := (HB.out.cell (World.block_lt_of_cell? w _ hx136_0)).trans hx136_0
                              replace hx136_1 := (HB.out.cell (World.block_lt_of_cell? w _ hx136_1)).trans hx136_1
                              replace p136 := eq_true p136
                              replace q136 := eq_true q136
                              have p137 : 0 ≤ (a1 : Int) := of_decide_eq_true (by first | (with_reducible assumption) | assumption)
                              have q137 : a1 < (l0.length : Int) := of_decide_eq_true (by first | (with_reducible assumption) | assumption)
                              obtain ⟨ad137, e137, hx137_0, hx137_1⟩ := at_T84 HR0.out a1 p137 q137
                              obtain rfl : ad132 = ad137 := (by injection e137)
                              replace hx137_0 := (HB.out.cell (World.block_lt_of_cell? w _ hx137_0)).trans hx137_0
                              replace hx137_1 := (HB.out.cell (World.block_lt_of_cell? w _ hx137_1)).trans hx137_1
                              replace p137 := eq_true p137
                              replace q137 := eq_true q137
                              have p138 : 0 ≤ (x10_1 : Int) := of_decide_eq_true (by first | (with_reducible assumption) | assumption)
                              have q138 : x10_1 < (l0.length : Int) := of_decide_eq_true (by first | (with_reducible assumption) | assumption)
                              obtain ⟨ad138, e138, hx138_0, hx138_1⟩ := at_T84 HR0.out x10_1 p138 q138
                              obtain rfl : ad132 = ad138 := (by injection e138)
                              replace hx138_0 := (HB.out.cell (World.block_lt_of_cell? w _ hx138_0)).trans hx138_0
                              replace hx138_1 := (HB.out.cell (World.block_lt_of_cell? w _ hx138_1)).trans hx138_1
                              replace p138 := eq_true p138
                              replace q138 := eq_true q138
                              have p139 : 0 ≤ (a1 : Int) := of_decide_eq_true (by first | (with_reducible assumption) | assumption)
                              have q139 : a1 < (l0.length : Int) := of_decide_eq_true (by first | (with_reducible assumption) | assumption)
                              obtain ⟨ad139, e139, hx139_0, hx139_1⟩ := at_T84 HR0.out a1 p139 q139
                              obtain rfl : ad132 = ad139 := (by injection e139)
                              replace hx139_0 := (HB.out.cell (World.block_lt_of_cell? w _ hx139_0)).trans hx139_0
                              replace hx139_1 := (HB.out.cell (World.block_lt_of_cell? w _ hx139_1)).trans hx139_1
                              replace p139 := eq_true p139
                              replace q139 := eq_true q139
                              go_wp2
                              repeat (go_quiet (fail); try go_wp2)
                              go_roundg k1
                              case measure => have := HK1.out; omega
                              case rel => exact ⟨(wrap64 (x10_1 + 1)), (by first | rfl | (simp; done) | (simp [*]; done)), H', ⟨by have := HK1.out; omega⟩, ⟨by repeat (first | (with_reducible first | exact HB.out | apply below_alloc | apply pw_below_drewN | apply below_drew1) | exact HB.out)⟩⟩
                          · rw [if_neg c15] at H
                            exact absurd H (by simp)
                        · rw [if_neg c14] at H
                          exact absurd H (by simp)
                      · rw [if_neg c13] at H
                        exact absurd H (by simp)
                    · rw [if_neg c12] at H
                      exact absurd H (by simp)
                  · rw [if_neg c11] at H
                    exact absurd H (by simp)
                · rw [if_neg c10] at H
                  exact absurd H (by simp)
              · rw [if_neg c9] at H
                have c9b0 : decide (x10_1 < a2) = false := decide_eq_false c9
                clear c9
                obtain rfl := Option.some.inj H
                go_wp2
                repeat (go_quiet (fail); try go_wp2)
                go_ret
                exact ⟨by first | rfl | (simp [errW_none, errW_some] <;> rfl) | (simp [*, errW_none, errW_some] <;> rfl), by repeat (first | (with_reducible first | exact HB.out | apply below_alloc | apply pw_below_drewN | apply below_drew1) | exact HB.out)⟩
        · rw [if_neg c8] at H
          exact absurd H (by simp)
      · rw [if_neg c7] at H
        exact absurd H (by simp)
    · rw [if_neg c6] at H
      exact absurd H (by simp)
  · rw [if_neg c5] at H
    exact absurd H (by simp)

/-! ### spec_CompressTrend: function 60 -/
mutual
def spec_CompressTrend.j0 : Nat → List (S84) → Int → List (S84) → Bool → Option ((List (S84)))
  | 0, _, _, _, _ => none
  | k + 1, x0, x1, x5, x21 => if x21 = true then (some x5) else (if 0 < (x0.length : Int) then (if x5.length < 8796093022208 then (spec_CompressTrend.l0 k x0 x1 (x5 ++ [(⟨(rd_T84 x0 0).f0, (rd_T84 x0 0).f1⟩ : S84)]) 0) else (none)) else (none))
def spec_CompressTrend.l0 : Nat → List (S84) → Int → List (S84) → Int → Option ((List (S84)))
  | 0, _, _, _, _ => none
  | k + 1, x0, x1, x5, x6 => if x6 < (wrap64 ((x0.length : Int) - 1)) then (spec_CompressTrend.l1 k x0 x1 x5 x6 (wrap64 (x6 + 1))) else (some x5)
def spec_CompressTrend.l1 : Nat → List (S84) → Int → List (S84) → Int → Int → Option ((List (S84)))
  | 0, _, _, _, _, _ => none
  | k + 1, x0, x1, x5, x6, x7 => if (wrap64 (x7 + 1)) < (x0.length : Int) then ((spec_l19Chord.f k x0 x6 (wrap64 (x7 + 1)) x1).bind fun t149 => (if t149 = true then (spec_CompressTrend.l1 k x0 x1 x5 x6 (wrap64 (x7 + 1))) else (if 0 ≤ x7 then (if x7 < (x0.length : Int) then (if x5.length < 8796093022208 then (spec_CompressTrend.l0 k x0 x1 (x5 ++ [(⟨(rd_T84 x0 x7).f0, (rd_T84 x0 x7).f1⟩ : S84)]) x7) else (none)) else (none)) else (none)))) else (if 0 ≤ x7 then (if x7 < (x0.length : Int) then (if x5.length < 8796093022208 then (spec_CompressTrend.l0 k x0 x1 (x5 ++ [(⟨(rd_T84 x0 x7).f0, (rd_T84 x0 x7).f1⟩ : S84)]) x7) else (none)) else (none)) else (none))
end
def spec_CompressTrend.f (k : Nat) (l0 : List (S84)) (a1 : Int) : Option ((List (S84))) := (some (([] : List (S84)) : List (S84))).bind fun y140 => ((spec_TrendValid.f k l0).bind fun t143 => (if t143 = true then ((spec_l1In.f a1 0 32767).bind fun t144 => (if t144 = true then (spec_CompressTrend.j0 k l0 a1 y140 ((l0.length : Int) == 0)) else (spec_CompressTrend.j0 k l0 a1 y140 true))) else (spec_CompressTrend.j0 k l0 a1 y140 true)))
theorem spec_CompressTrend.mono_l : ∀ k, (∀ y0 y1 y2 y3, LeO (spec_CompressTrend.j0 k y0 y1 y2 y3) (spec_CompressTrend.j0 (k + 1) y0 y1 y2 y3)) ∧ (∀ y0 y1 y2 y3, LeO (spec_CompressTrend.l0 k y0 y1 y2 y3) (spec_CompressTrend.l0 (k + 1) y0 y1 y2 y3)) ∧ (∀ y0 y1 y2 y3 y4, LeO (spec_CompressTrend.l1 k y0 y1 y2 y3 y4) (spec_CompressTrend.l1 (k + 1) y0 y1 y2 y3 y4))
  | 0 => ⟨fun _ _ _ _ r h => by simp [spec_CompressTrend.j0] at h, fun _ _ _ _ r h => by simp [spec_CompressTrend.l0] at h, fun _ _ _ _ _ r h => by simp [spec_CompressTrend.l1] at h⟩
  | k + 1 => by
    obtain ⟨ih0, ih1, ih2⟩ := spec_CompressTrend.mono_l k
    refine ⟨?_, ?_, ?_⟩
    · intro y0 y1 y2 y3
      unfold spec_CompressTrend.j0
      repeat' first
      | (with_reducible exact ih0 _ _ _ _)
      | (with_reducible exact ih1 _ _ _ _)
      | (with_reducible exact ih2 _ _ _ _ _)
      | (with_reducible exact spec_TrendValid.mono _ _)
      | (with_reducible exact spec_l19Chord.mono _ _ _ _ _)
      | (with_reducible exact LeO.refl _)
      | (with_reducible exact LeO.none _)
      | (with_reducible refine LeO.ite ?_ ?_)
      | (with_reducible refine LeO.bind ?_ (fun _ => ?_))
      | exact ih0 _ _ _ _
      | exact ih1 _ _ _ _
      | exact ih2 _ _ _ _ _
      | exact spec_TrendValid.mono _ _
      | exact spec_l19Chord.mono _ _ _ _ _
      | exact LeO.none _
      | refine LeO.ite ?_ ?_
      | refine LeO.bind ?_ (fun _ => ?_)
    · intro y0 y1 y2 y3
      unfold spec_CompressTrend.l0
      repeat' first
      | (with_reducible exact ih0 _ _ _ _)
      | (with_reducible exact ih1 _ _ _ _)
      | (with_reducible exact ih2 _ _ _ _ _)
      | (with_reducible exact spec_TrendValid.mono _ _)
      | (with_reducible exact spec_l19Chord.mono _ _ _ _ _)
      | (with_reducible exact LeO.refl _)
      | (with_reducible exact LeO.none _)
      | (with_reducible refine LeO.ite ?_ ?_)
      | (with_reducible refine LeO.bind ?_ (fun _ => ?_))
      | exact ih0 _ _ _ _
      | exact ih1 _ _ _ _
      | exact ih2 _ _ _ _ _
      | exact spec_TrendValid.mono _ _
      | exact spec_l19Chord.mono _ _ _ _ _
      | exact LeO.none _
      | refine LeO.ite ?_ ?_
      | refine LeO.bind ?_ (fun _ => ?_)
    · intro y0 y1 y2 y3 y4
      unfold spec_CompressTrend.l1
      repeat' first
      | (with_reducible exact ih0 _ _ _ _)
      | (with_reducible exact ih1 _ _ _ _)
      | (with_reducible exact ih2 _ _ _ _ _)
      | (with_reducible exact spec_TrendValid.mono _ _)
      | (with_reducible exact spec_l19Chord.mono _ _ _ _ _)
      | (with_reducible exact LeO.refl _)
      | (with_reducible exact LeO.none _)
      | (with_reducible refine LeO.ite ?_ ?_)
      | (with_reducible refine LeO.bind ?_ (fun _ => ?_))
      | exact ih0 _ _ _ _
      | exact ih1 _ _ _ _
      | exact ih2 _ _ _ _ _
      | exact spec_TrendValid.mono _ _
      | exact spec_l19Chord.mono _ _ _ _ _
      | exact LeO.none _
      | refine LeO.ite ?_ ?_
      | refine LeO.bind ?_ (fun _ => ?_)
theorem spec_CompressTrend.mono : ∀ a0 a1 k, LeO (spec_CompressTrend.f k a0 a1) (spec_CompressTrend.f (k + 1) a0 a1) := by
  intro a0 a1 k
  obtain ⟨ih0, ih1, ih2⟩ := spec_CompressTrend.mono_l k
  unfold spec_CompressTrend.f
  repeat' first
      | (with_reducible exact ih0 _ _ _ _)
      | (with_reducible exact ih1 _ _ _ _)
      | (with_reducible exact ih2 _ _ _ _ _)
      | (with_reducible exact spec_TrendValid.mono _ _)
      | (with_reducible exact spec_l19Chord.mono _ _ _ _ _)
      | (with_reducible exact LeO.refl _)
      | (with_reducible exact LeO.none _)
      | (with_reducible refine LeO.ite ?_ ?_)
      | (with_reducible refine LeO.bind ?_ (fun _ => ?_))
      | exact ih0 _ _ _ _
      | exact ih1 _ _ _ _
      | exact ih2 _ _ _ _ _
      | exact spec_TrendValid.mono _ _
      | exact spec_l19Chord.mono _ _ _ _ _
      | exact LeO.none _
      | refine LeO.ite ?_ ?_
      | refine LeO.bind ?_ (fun _ => ?_)
set_option maxHeartbeats 8000000 in
set_option maxRecDepth 100000 in
theorem spec_CompressTrend.calls (k : Nat) (A0 : Option Addr) (c0 : Nat) (l0 : List (S84)) (a1 : Int) (r : List (S84)) (w : World) (hr0 : Kd.C k84 w A0 l0.length l0) (hc0 : l0.length ≤ c0) (h : spec_CompressTrend.f k l0 a1 = some r) :
    Calls Try.prog 60 #[.slice A0 l0.length c0, .int .i64 a1] w fun e w' => ∃ v0_ : Value, e = .returned (v0_) ∧ Kd.R k84 84 w' w.heap.size (fun _ => True) v0_ r ∧ Below w.heap.size w w' := by
  have hu84 := Try.underlying84
  have HR0 := Aside0.mk hr0
  have HC0 := Aside0.mk hc0
  clear hr0 hc0
  have HB := Aside0.mk (Below.refl w.heap.size w)
  have H : ((some (([] : List (S84)) : List (S84))).bind fun y140 => ((spec_TrendValid.f k l0).bind fun t143 => (if t143 = true then ((spec_l1In.f a1 0 32767).bind fun t144 => (if t144 = true then (spec_CompressTrend.j0 k l0 a1 y140 ((l0.length : Int) == 0)) else (spec_CompressTrend.j0 k l0 a1 y140 true))) else (spec_CompressTrend.j0 k l0 a1 y140 true)))) = some r := h
  clear h
  obtain ⟨y140, hy140⟩ : ∃ y_ : List (S84), y_ = (([] : List (S84))) := ⟨_, rfl⟩
  replace H : ((spec_TrendValid.f k l0).bind fun t143 => (if t143 = true then ((spec_l1In.f a1 0 32767).bind fun t144 => (if t144 = true then (spec_CompressTrend.j0 k l0 a1 y140 ((l0.length : Int) == 0)) else (spec_CompressTrend.j0 k l0 a1 y140 true))) else (spec_CompressTrend.j0 k l0 a1 y140 true))) = some r := by first | (rw [hy140]; with_reducible exact H) | (have H2_ := (Option.bind_some _ _).symm.trans H; rw [hy140]; with_reducible exact H2_) | (have H2_ := (Option.bind_some _ _).symm.trans H; with_reducible exact H2_) | with_reducible exact H | (rw [hy140]; exact H) | exact H
  have Ny140 := Aside0.mk hy140
  clear hy140
  have HC3 := Aside0.mk H
  clear H
  go_enter Try.func60, Try.ntmps60
  go_upto_region 2 with (first | ((with_reducible refine gate_dst (N := 8) rfl ?_); (try (refine gate_guard (by rfl) ?_; dsimp only)); refine Kd.R_lit k84 _ 84 ?hg (N := 8) ?hd (xs := ([] : List (S84))) (inner := []) (ok := fun _ => True) (okp := fun _ => True) ?hr ?hp (fun _ hk => hk) trivial (Below.refl _ _) (Nat.le_refl _) (by simp) ?_; (case hd => rfl); (case hg => rfl); (case hr => first | (go_simp; done) | (go_simp; rfl)); (case hp => exact (Reps.none _ _)); intro v141 w4 ho5 hb hg_ hnew_; clear hg_ hnew_; (first | rw [← Ny140.out] at ho5 | (simp only [Int.reduceToNat] at ho5; rw [← Ny140.out] at ho5)); have n0_ := Aside0.mk (Kd.R_lower ho5 (below_size (by repeat (first | (with_reducible first | exact HB.out | apply below_alloc | apply pw_below_drewN | apply below_drew1) | exact HB.out)))); have n1_ := Aside0.mk (below_step (by repeat (first | (with_reducible first | exact HB.out | apply below_alloc | apply pw_below_drewN | apply below_drew1) | exact HB.out)) hb); clear HB; have HO142 := n0_; have HB := n1_; clear n0_ n1_; clear hb ho5))
  (try simp only [Act.put, List.setIfInBounds_toArray, List.set_cons_zero, List.set_cons_succ])
  go_cut [21] (fun v21 wc => ∃ (kq : Nat) (x21_2 : Bool), v21 = .bool x21_2 ∧ Aside0 (spec_CompressTrend.j0 kq l0 a1 y140 x21_2 = some r) ∧ Aside0 (kq ≤ k) ∧ Aside0 (Kd.R k84 84 wc w.heap.size (fun _ => True) v141 y140) ∧ Aside0 (Below w.heap.size w wc))
  case first =>
    have H := HC3.out
    clear HC3
    replace H := Option.bind_eq_some_iff.mp H
    obtain ⟨t143, A60, H⟩ := H
    replace H : (if t143 = true then ((spec_l1In.f a1 0 32767).bind fun t144 => (if t144 = true then (spec_CompressTrend.j0 k l0 a1 y140 ((l0.length : Int) == 0)) else (spec_CompressTrend.j0 k l0 a1 y140 true))) else (spec_CompressTrend.j0 k l0 a1 y140 true)) = some r := H
    have A6 := Aside0.mk A60
    clear A60
    by_cases c7 : t143 = true
    · subst c7
      have H1 : ((spec_l1In.f a1 0 32767).bind fun t144 => (if t144 = true then (spec_CompressTrend.j0 k l0 a1 y140 ((l0.length : Int) == 0)) else (spec_CompressTrend.j0 k l0 a1 y140 true))) = some r := by rw [if_pos rfl] at H; exact H
      clear H
      have H := H1
      clear H1
      replace H := Option.bind_eq_some_iff.mp H
      obtain ⟨t144, A80, H⟩ := H
      replace H : (if t144 = true then (spec_CompressTrend.j0 k l0 a1 y140 ((l0.length : Int) == 0)) else (spec_CompressTrend.j0 k l0 a1 y140 true)) = some r := H
      have A8 := Aside0.mk A80
      clear A80
      by_cases c9 : t144 = true
      · subst c9
        have H1 : (spec_CompressTrend.j0 k l0 a1 y140 ((l0.length : Int) == 0)) = some r := by rw [if_pos rfl] at H; exact H
        clear H
        have H := H1
        clear H1
        have H' := Aside0.mk H
        clear H
        go_wp2_with (first | ((with_reducible refine gate_callee (f := 18) rfl ?_); refine goesL_ (some 10) rfl rfl Try.func18 (by kernel_rfl) rfl #[.slice A0 l0.length c0] rfl (by (try simp only [List.map_toArray, List.map_cons, List.map_nil]); first | done | rfl | (simp only [List.length_drop, List.length_take]; rfl)) ?_; (with_reducible refine (spec_TrendValid.calls k _ _ l0 true _ ?side1 ?side2 A6.out).mono ?_); (case side1 => repeat (first | exact (Kd.C_below HR0.out HB.out) | (with_reducible refine Kd.C_alloc ?_ _) | (with_reducible refine Kd.C_drewN ?_ _) | (with_reducible refine Kd.C_drew ?_))); (case side2 => exact HC0.out); rintro e w10 ⟨rfl, hb⟩; refine ⟨_, rfl, ?_⟩; have n0_ := Aside0.mk (Kd.R_below (by (with_reducible repeat (first | apply Kd.R_alloc | apply Kd.R_drewN | apply Kd.R_drew)); exact HO142.out) hb); have n1_ := Aside0.mk (below_step (by repeat (first | (with_reducible first | exact HB.out | apply below_alloc | apply pw_below_drewN | apply below_drew1) | exact HB.out)) hb); clear HO142; clear HB; have HO142 := n0_; have HB := n1_; clear n0_ n1_; (try clear hb); (try clear hb2); (try clear hk); (try clear hi)) | (go_at_call 71; (with_reducible refine (spec_l1In.calls a1 0 32767 true _ A8.out).mono ?_); rintro e w' ⟨rfl, ⟨nd, rfl⟩⟩))
        go_meet
        case rel => exact ⟨_, (((l0.length : Int) == 0)), (by first | rfl | (simp; done) | (simp [*]; done)), H', ⟨by first | omega | exact Nat.le_refl _⟩, ⟨by (with_reducible repeat (first | apply Kd.R_alloc | apply Kd.R_drewN | apply Kd.R_drew)); exact HO142.out⟩, ⟨by repeat (first | (with_reducible first | exact HB.out | apply below_alloc | apply pw_below_drewN | apply below_drew1) | exact HB.out)⟩⟩
      · replace c9 := Bool.eq_false_iff.mpr c9
        subst c9
        have H1 : (spec_CompressTrend.j0 k l0 a1 y140 true) = some r := by rw [if_neg (show ¬ (false = true) by decide)] at H; exact H
        clear H
        have H := H1
        clear H1
        have H' := Aside0.mk H
        clear H
        go_wp2_with (first | ((with_reducible refine gate_callee (f := 18) rfl ?_); refine goesL_ (some 10) rfl rfl Try.func18 (by kernel_rfl) rfl #[.slice A0 l0.length c0] rfl (by (try simp only [List.map_toArray, List.map_cons, List.map_nil]); first | done | rfl | (simp only [List.length_drop, List.length_take]; rfl)) ?_; (with_reducible refine (spec_TrendValid.calls k _ _ l0 true _ ?side1 ?side2 A6.out).mono ?_); (case side1 => repeat (first | exact (Kd.C_below HR0.out HB.out) | (with_reducible refine Kd.C_alloc ?_ _) | (with_reducible refine Kd.C_drewN ?_ _) | (with_reducible refine Kd.C_drew ?_))); (case side2 => exact HC0.out); rintro e w11 ⟨rfl, hb⟩; refine ⟨_, rfl, ?_⟩; have n0_ := Aside0.mk (Kd.R_below (by (with_reducible repeat (first | apply Kd.R_alloc | apply Kd.R_drewN | apply Kd.R_drew)); exact HO142.out) hb); have n1_ := Aside0.mk (below_step (by repeat (first | (with_reducible first | exact HB.out | apply below_alloc | apply pw_below_drewN | apply below_drew1) | exact HB.out)) hb); clear HO142; clear HB; have HO142 := n0_; have HB := n1_; clear n0_ n1_; (try clear hb); (try clear hb2); (try clear hk); (try clear hi)) | (go_at_call 71; (with_reducible refine (spec_l1In.calls a1 0 32767 false _ A8.out).mono ?_); rintro e w' ⟨rfl, ⟨nd, rfl⟩⟩))
        go_meet
        case rel => exact ⟨_, (true), (by first | rfl | (simp; done) | (simp [*]; done)), H', ⟨by first | omega | exact Nat.le_refl _⟩, ⟨by (with_reducible repeat (first | apply Kd.R_alloc | apply Kd.R_drewN | apply Kd.R_drew)); exact HO142.out⟩, ⟨by repeat (first | (with_reducible first | exact HB.out | apply below_alloc | apply pw_below_drewN | apply below_drew1) | exact HB.out)⟩⟩
    · replace c7 := Bool.eq_false_iff.mpr c7
      subst c7
      have H1 : (spec_CompressTrend.j0 k l0 a1 y140 true) = some r := by rw [if_neg (show ¬ (false = true) by decide)] at H; exact H
      clear H
      have H := H1
      clear H1
      have H' := Aside0.mk H
      clear H
      go_wp2_with (first | ((with_reducible refine gate_callee (f := 18) rfl ?_); refine goesL_ (some 10) rfl rfl Try.func18 (by kernel_rfl) rfl #[.slice A0 l0.length c0] rfl (by (try simp only [List.map_toArray, List.map_cons, List.map_nil]); first | done | rfl | (simp only [List.length_drop, List.length_take]; rfl)) ?_; (with_reducible refine (spec_TrendValid.calls k _ _ l0 false _ ?side1 ?side2 A6.out).mono ?_); (case side1 => repeat (first | exact (Kd.C_below HR0.out HB.out) | (with_reducible refine Kd.C_alloc ?_ _) | (with_reducible refine Kd.C_drewN ?_ _) | (with_reducible refine Kd.C_drew ?_))); (case side2 => exact HC0.out); rintro e w12 ⟨rfl, hb⟩; refine ⟨_, rfl, ?_⟩; have n0_ := Aside0.mk (Kd.R_below (by (with_reducible repeat (first | apply Kd.R_alloc | apply Kd.R_drewN | apply Kd.R_drew)); exact HO142.out) hb); have n1_ := Aside0.mk (below_step (by repeat (first | (with_reducible first | exact HB.out | apply below_alloc | apply pw_below_drewN | apply below_drew1) | exact HB.out)) hb); clear HO142; clear HB; have HO142 := n0_; have HB := n1_; clear n0_ n1_; (try clear hb); (try clear hb2); (try clear hk); (try clear hi)))
      go_meet
      case rel => exact ⟨_, (true), (by first | rfl | (simp; done) | (simp [*]; done)), H', ⟨by first | omega | exact Nat.le_refl _⟩, ⟨by (with_reducible repeat (first | apply Kd.R_alloc | apply Kd.R_drewN | apply Kd.R_drew)); exact HO142.out⟩, ⟨by repeat (first | (with_reducible first | exact HB.out | apply below_alloc | apply pw_below_drewN | apply below_drew1) | exact HB.out)⟩⟩
  case rest =>
    clear HC3
    try clear c1
    try clear p2
    try clear c6
    try clear c7
    try clear c9
    obtain ⟨kq, x21_2, rfl, HA, HJ2, HO_5, HB⟩ := hcut
    cases kq with
    | zero => exact absurd HA.out (by simp [spec_CompressTrend.j0])
    | succ kj2 =>
      have H := HA.out
      clear HA
      simp only [spec_CompressTrend.j0] at H
      by_cases c13 : x21_2 = true
      · subst c13
        have H1 : (some y140) = some r := by rw [if_pos rfl] at H; exact H
        clear H
        have H := H1
        clear H1
        obtain rfl := Option.some.inj H
        go_wp2
        go_ret
        exact ⟨_, by first | rfl | (simp [errW_none, errW_some] <;> rfl) | (simp [*, errW_none, errW_some] <;> rfl), by (with_reducible repeat (first | apply Kd.R_alloc | apply Kd.R_drewN | apply Kd.R_drew)); exact HO_5.out, by repeat (first | (with_reducible first | exact HB.out | apply below_alloc | apply pw_below_drewN | apply below_drew1) | exact HB.out)⟩
      · replace c13 := Bool.eq_false_iff.mpr c13
        subst c13
        have H1 : (if 0 < (l0.length : Int) then (if y140.length < 8796093022208 then (spec_CompressTrend.l0 kj2 l0 a1 (y140 ++ [(⟨(rd_T84 l0 0).f0, (rd_T84 l0 0).f1⟩ : S84)]) 0) else (none)) else (none)) = some r := by rw [if_neg (show ¬ (false = true) by decide)] at H; exact H
        clear H
        have H := H1
        clear H1
        by_cases c14 : 0 < (l0.length : Int)
        · rw [if_pos c14] at H
          have c14b0 : decide (0 < (l0.length : Int)) = true := decide_eq_true c14
          have c14b1 : decide (0 < l0.length) = true := decide_eq_true (by omega)
          clear c14
          by_cases c15 : y140.length < 8796093022208
          · rw [if_pos c15] at H
            have LMc15 := Aside0.mk c15
            clear c15
            obtain ⟨y146, hy146⟩ : ∃ y_ : List (S84), y_ = (y140 ++ [(⟨(rd_T84 l0 0).f0, (rd_T84 l0 0).f1⟩ : S84)]) := ⟨_, rfl⟩
            replace H : (spec_CompressTrend.l0 kj2 l0 a1 y146 0) = some r := by first | (rw [hy146]; with_reducible exact H) | (have H2_ := (Option.bind_some _ _).symm.trans H; rw [hy146]; with_reducible exact H2_) | (have H2_ := (Option.bind_some _ _).symm.trans H; with_reducible exact H2_) | with_reducible exact H | (rw [hy146]; exact H) | exact H
            have Ny146 := Aside0.mk hy146
            clear hy146
            have H' := Aside0.mk H
            clear H
            have p145 : 0 ≤ (0 : Int) := (by omega)
            have q145 : 0 < (l0.length : Int) := of_decide_eq_true (by first | (with_reducible assumption) | assumption)
            obtain ⟨ad145, e145, hx145_0, hx145_1⟩ := at_T84 HR0.out 0 p145 q145
            cases e145
            have qi145 : (0 < l0.length) = True := eq_true (by omega)
            (try rw [show ((0 : Int)).toNat = 0 from rfl] at hx145_0)
            (try rw [show 0 * 2 = 0 from rfl] at hx145_0)
            (try rw [Addr.add_zero'] at hx145_0)
            (try rw [show ((0 : Int)).toNat = 0 from rfl] at hx145_1)
            (try rw [show 0 * 2 = 0 from rfl] at hx145_1)
            (try rw [Addr.add_zero'] at hx145_1)
            replace hx145_0 := (HB.out.cell (World.block_lt_of_cell? w _ hx145_0)).trans hx145_0
            replace hx145_1 := (HB.out.cell (World.block_lt_of_cell? w _ hx145_1)).trans hx145_1
            replace p145 := eq_true p145
            replace q145 := eq_true q145
            go_wp2_with (first | ((with_reducible refine gate_builtin (b := .append) (xs := #[.tmp 23, .tmp 27]) rfl ?_); (try (refine gate_guard (by rfl) ?_; dsimp only)); at_builtin; refine Kd.R_append k84 (w0 := w) w.heap.size rfl (.tmp 23) (.tmp 27) 25 84 (.agg #[(.int .i64 0), (.int .i64 0)]) 16 rfl Try.underlying25 info84 rfl (by decide) (by omega) v141 y140 (⟨(rd_T84 l0 0).f0, (rd_T84 l0 0).f1⟩ : S84) [.int .i64 ((rd_T84 l0 0).f0), .int .i64 ((rd_T84 l0 0).f1)] (fun _ => True) (fun _ => False) rfl rfl ?aP (fun _ hk => hk.elim) ?aF ?aO ?aB ?aS ?aL ?_; (case aP => exact k84_mkM _ _ _ (⟨(rd_T84 l0 0).f0, (rd_T84 l0 0).f1⟩ : S84)); (case aB => exact (by repeat (first | (with_reducible first | exact HB.out | apply below_alloc | apply pw_below_drewN | apply below_drew1) | exact HB.out))); (case aF => exact (fun _ _ => trivial)); (case aO => exact (by (with_reducible repeat (first | apply Kd.R_alloc | apply Kd.R_drewN | apply Kd.R_drew)); exact HO_5.out)); (case aS => exact (below_size (by repeat (first | (with_reducible first | exact HB.out | apply below_alloc | apply pw_below_drewN | apply below_drew1) | exact HB.out)))); (case aL => have := LMc15.out; omega); intro v147 w16 ho hb hg hat; rw [← Ny146.out] at ho; have n0_ := Aside0.mk (hb); have n1_ := Aside0.mk (ho); clear HB; clear HO_5; have HB := n0_; have HO148 := n1_; clear n0_ n1_; clear ho hb hg hat))
            go_loopg [5, 6] kj2 (fun kq v5 v6 w' => ∃ (x5_2 : List (S84)) (x6_2 : Int), v6 = .int .i64 x6_2 ∧ Aside0 (spec_CompressTrend.l0 kq l0 a1 x5_2 x6_2 = some r) ∧ Aside0 (kq ≤ kj2) ∧ Aside0 (Kd.R k84 84 w' w.heap.size (fun _ => True) v5 x5_2) ∧ Aside0 (Below w.heap.size w w'))
            case atStart => exact ⟨(y146), (0), (by first | rfl | (simp; done) | (simp [*]; done)), H', ⟨Nat.le_refl _⟩, ⟨by (with_reducible repeat (first | apply Kd.R_alloc | apply Kd.R_drewN | apply Kd.R_drew)); exact HO148.out⟩, ⟨by repeat (first | (with_reducible first | exact HB.out | apply below_alloc | apply pw_below_drewN | apply below_drew1) | exact HB.out)⟩⟩
            case round =>
              clear H'
              try clear c1
              try clear p1
              try clear q1
              try clear hx1
              try clear qi1
              try clear p2
              try clear c6
              try clear c7
              try clear c9
              try clear c13
              try clear c14
              try clear c14b0
              try clear c14b1
              try clear p14
              try clear q14
              try clear hx14
              try clear qi14
              try clear c15
              try clear hx145_0
              try clear hx145_1
              try clear p145
              try clear p2
              try clear q145
              obtain ⟨x5_2, x6_2, rfl, HA, HK2, HO_5, HB⟩ := hrel
              cases gk with
              | zero => exact absurd HA.out (by simp [spec_CompressTrend.l0])
              | succ k2 =>
                have H := HA.out
                clear HA
                simp only [spec_CompressTrend.l0] at H
                by_cases c17 : x6_2 < (wrap64 ((l0.length : Int) - 1))
                · rw [if_pos c17] at H
                  have c17b0 : decide (x6_2 < (wrap64 ((l0.length : Int) - 1))) = true := decide_eq_true c17
                  clear c17
                  have H' := Aside0.mk H
                  clear H
                  go_wp2
                  go_loopg [7] k2 (fun kq v7 w' => ∃ (x7_3 : Int), v7 = .int .i64 x7_3 ∧ Aside0 (spec_CompressTrend.l1 kq l0 a1 x5_2 x6_2 x7_3 = some r) ∧ Aside0 (kq ≤ k2) ∧ Aside0 (Kd.R k84 84 w' w.heap.size (fun _ => True) u5 x5_2) ∧ Aside0 (Below w.heap.size w w'))
                  case atStart => exact ⟨(wrap64 (x6_2 + 1)), (by first | rfl | (simp; done) | (simp [*]; done)), H', ⟨Nat.le_refl _⟩, ⟨by (with_reducible repeat (first | apply Kd.R_alloc | apply Kd.R_drewN | apply Kd.R_drew)); exact HO_5.out⟩, ⟨by repeat (first | (with_reducible first | exact HB.out | apply below_alloc | apply pw_below_drewN | apply below_drew1) | exact HB.out)⟩⟩
                  case round =>
                    clear H'
                    try clear c1
                    try clear p1
                    try clear q1
                    try clear hx1
                    try clear qi1
                    try clear p2
                    try clear c6
                    try clear p6
                    try clear c7
                    try clear c9
                    try clear c13
                    try clear c14
                    try clear c14b0
                    try clear c14b1
                    try clear p14
                    try clear q14
                    try clear hx14
                    try clear qi14
                    try clear c15
                    try clear c17
                    try clear c17b0
                    try clear hx145_0
                    try clear hx145_1
                    try clear p1
                    try clear p14
                    try clear p145
                    try clear p2
                    try clear q1
                    try clear q14
                    try clear q145
                    obtain ⟨x7_3, rfl, HA, HK3, HO_5, HB⟩ := hrel
                    cases gk with
                    | zero => exact absurd HA.out (by simp [spec_CompressTrend.l1])
                    | succ k3 =>
                      have H := HA.out
                      clear HA
                      simp only [spec_CompressTrend.l1] at H
                      by_cases c18 : (wrap64 (x7_3 + 1)) < (l0.length : Int)
                      · rw [if_pos c18] at H
                        have c18b0 : decide ((wrap64 (x7_3 + 1)) < (l0.length : Int)) = true := decide_eq_true c18
                        clear c18
                        replace H := Option.bind_eq_some_iff.mp H
                        obtain ⟨t149, A190, H⟩ := H
                        replace H : (if t149 = true then (spec_CompressTrend.l1 k3 l0 a1 x5_2 x6_2 (wrap64 (x7_3 + 1))) else (if 0 ≤ x7_3 then (if x7_3 < (l0.length : Int) then (if x5_2.length < 8796093022208 then (spec_CompressTrend.l0 k3 l0 a1 (x5_2 ++ [(⟨(rd_T84 l0 x7_3).f0, (rd_T84 l0 x7_3).f1⟩ : S84)]) x7_3) else (none)) else (none)) else (none))) = some r := H
                        have A19 := Aside0.mk A190
                        clear A190
                        by_cases c20 : t149 = true
                        · subst c20
                          have H1 : (spec_CompressTrend.l1 k3 l0 a1 x5_2 x6_2 (wrap64 (x7_3 + 1))) = some r := by rw [if_pos rfl] at H; exact H
                          clear H
                          have H := H1
                          clear H1
                          have H' := Aside0.mk H
                          clear H
                          go_wp2_with (first | (go_at_call 96; (with_reducible refine (spec_l19Chord.calls k3 _ _ l0 x6_2 (wrap64 (x7_3 + 1)) a1 true _ ?side1 ?side2 A19.out).mono ?_); (case side1 => repeat (first | exact (Kd.C_below HR0.out HB.out) | (with_reducible refine Kd.C_alloc ?_ _) | (with_reducible refine Kd.C_drewN ?_ _) | (with_reducible refine Kd.C_drew ?_))); (case side2 => exact HC0.out); rintro e w21 ⟨rfl, hb⟩; have n0_ := Aside0.mk (Kd.R_below (by (with_reducible repeat (first | apply Kd.R_alloc | apply Kd.R_drewN | apply Kd.R_drew)); exact HO_5.out) hb); have n1_ := Aside0.mk (below_step (by repeat (first | (with_reducible first | exact HB.out | apply below_alloc | apply pw_below_drewN | apply below_drew1) | exact HB.out)) hb); clear HO_5; clear HB; have HO_5 := n0_; have HB := n1_; clear n0_ n1_; (try clear hb); (try clear hb2); (try clear hk); (try clear hi)))
                          go_roundg k3
                          case measure => have := HJ2.out; have := HK2.out; have := HK3.out; omega
                          case rel => exact ⟨(wrap64 (x7_3 + 1)), (by first | rfl | (simp; done) | (simp [*]; done)), H', ⟨by have := HJ2.out; have := HK2.out; have := HK3.out; omega⟩, ⟨by (with_reducible repeat (first | apply Kd.R_alloc | apply Kd.R_drewN | apply Kd.R_drew)); exact HO_5.out⟩, ⟨by repeat (first | (with_reducible first | exact HB.out | apply below_alloc | apply pw_below_drewN | apply below_drew1) | exact HB.out)⟩⟩
                        · replace c20 := Bool.eq_false_iff.mpr c20
                          subst c20
                          have H1 : (if 0 ≤ x7_3 then (if x7_3 < (l0.length : Int) then (if x5_2.length < 8796093022208 then (spec_CompressTrend.l0 k3 l0 a1 (x5_2 ++ [(⟨(rd_T84 l0 x7_3).f0, (rd_T84 l0 x7_3).f1⟩ : S84)]) x7_3) else (none)) else (none)) else (none)) = some r := by rw [if_neg (show ¬ (false = true) by decide)] at H; exact H
                          clear H
                          have H := H1
                          clear H1
                          by_cases c22 : 0 ≤ x7_3
                          · rw [if_pos c22] at H
                            have c22b0 : decide (0 ≤ x7_3) = true := decide_eq_true c22
                            clear c22
                            by_cases c23 : x7_3 < (l0.length : Int)
                            · rw [if_pos c23] at H
                              have c23b0 : decide (x7_3 < (l0.length : Int)) = true := decide_eq_true c23
                              clear c23
                              by_cases c24 : x5_2.length < 8796093022208
                              · rw [if_pos c24] at H
                                have LMc24 := Aside0.mk c24
                                clear c24
                                obtain ⟨y151, hy151⟩ : ∃ y_ : List (S84), y_ = (x5_2 ++ [(⟨(rd_T84 l0 x7_3).f0, (rd_T84 l0 x7_3).f1⟩ : S84)]) := ⟨_, rfl⟩
                                replace H : (spec_CompressTrend.l0 k3 l0 a1 y151 x7_3) = some r := by first | (rw [hy151]; with_reducible exact H) | (have H2_ := (Option.bind_some _ _).symm.trans H; rw [hy151]; with_reducible exact H2_) | (have H2_ := (Option.bind_some _ _).symm.trans H; with_reducible exact H2_) | with_reducible exact H | (rw [hy151]; exact H) | exact H
                                have Ny151 := Aside0.mk hy151
                                clear hy151
                                have H' := Aside0.mk H
                                clear H
                                go_wp2_with (first | (go_at_call 96; (with_reducible refine (spec_l19Chord.calls k3 _ _ l0 x6_2 (wrap64 (x7_3 + 1)) a1 false _ ?side1 ?side2 A19.out).mono ?_); (case side1 => repeat (first | exact (Kd.C_below HR0.out HB.out) | (with_reducible refine Kd.C_alloc ?_ _) | (with_reducible refine Kd.C_drewN ?_ _) | (with_reducible refine Kd.C_drew ?_))); (case side2 => exact HC0.out); rintro e w25 ⟨rfl, hb⟩; have n0_ := Aside0.mk (Kd.R_below (by (with_reducible repeat (first | apply Kd.R_alloc | apply Kd.R_drewN | apply Kd.R_drew)); exact HO_5.out) hb); have n1_ := Aside0.mk (below_step (by repeat (first | (with_reducible first | exact HB.out | apply below_alloc | apply pw_below_drewN | apply below_drew1) | exact HB.out)) hb); clear HO_5; clear HB; have HO_5 := n0_; have HB := n1_; clear n0_ n1_; (try clear hb); (try clear hb2); (try clear hk); (try clear hi); have p150 : 0 ≤ (x7_3 : Int) := of_decide_eq_true (by first | (with_reducible assumption) | assumption); have q150 : x7_3 < (l0.length : Int) := of_decide_eq_true (by first | (with_reducible assumption) | assumption); obtain ⟨ad150, e150, hx150_0, hx150_1⟩ := at_T84 HR0.out x7_3 p150 q150; obtain rfl : ad145 = ad150 := (by injection e150); replace hx150_0 := (HB.out.cell (World.block_lt_of_cell? w _ hx150_0)).trans hx150_0; replace hx150_1 := (HB.out.cell (World.block_lt_of_cell? w _ hx150_1)).trans hx150_1; replace p150 := eq_true p150; replace q150 := eq_true q150) | ((with_reducible refine gate_builtin (b := .append) (xs := #[.tmp 51, .tmp 56]) rfl ?_); (try (refine gate_guard (by rfl) ?_; dsimp only)); at_builtin; refine Kd.R_append k84 (w0 := w) w.heap.size rfl (.tmp 51) (.tmp 56) 25 84 (.agg #[(.int .i64 0), (.int .i64 0)]) 16 rfl Try.underlying25 info84 rfl (by decide) (by omega) u5 x5_2 (⟨(rd_T84 l0 x7_3).f0, (rd_T84 l0 x7_3).f1⟩ : S84) [.int .i64 ((rd_T84 l0 x7_3).f0), .int .i64 ((rd_T84 l0 x7_3).f1)] (fun _ => True) (fun _ => False) rfl rfl ?aP (fun _ hk => hk.elim) ?aF ?aO ?aB ?aS ?aL ?_; (case aP => exact k84_mkM _ _ _ (⟨(rd_T84 l0 x7_3).f0, (rd_T84 l0 x7_3).f1⟩ : S84)); (case aB => exact (by repeat (first | (with_reducible first | exact HB.out | apply below_alloc | apply pw_below_drewN | apply below_drew1) | exact HB.out))); (case aF => exact (fun _ _ => trivial)); (case aO => exact (by (with_reducible repeat (first | apply Kd.R_alloc | apply Kd.R_drewN | apply Kd.R_drew)); exact HO_5.out)); (case aS => exact (below_size (by repeat (first | (with_reducible first | exact HB.out | apply below_alloc | apply pw_below_drewN | apply below_drew1) | exact HB.out)))); (case aL => have := LMc24.out; omega); intro v152 w26 ho hb hg hat; rw [← Ny151.out] at ho; have n0_ := Aside0.mk (hb); have n1_ := Aside0.mk (ho); clear HB; clear HO_5; have HB := n0_; have HO153 := n1_; clear n0_ n1_; clear ho hb hg hat))
                                go_roundg k3
                                case measure => have := HJ2.out; have := HK2.out; have := HK3.out; omega
                                case rel => exact ⟨(y151), (x7_3), (by first | rfl | (simp; done) | (simp [*]; done)), H', ⟨by have := HJ2.out; have := HK2.out; have := HK3.out; omega⟩, ⟨by (with_reducible repeat (first | apply Kd.R_alloc | apply Kd.R_drewN | apply Kd.R_drew)); exact HO153.out⟩, ⟨by repeat (first | (with_reducible first | exact HB.out | apply below_alloc | apply pw_below_drewN | apply below_drew1) | exact HB.out)⟩⟩
                              · rw [if_neg c24] at H
                                exact absurd H (by simp)
                            · rw [if_neg c23] at H
                              exact absurd H (by simp)
                          · rw [if_neg c22] at H
                            exact absurd H (by simp)
                      · rw [if_neg c18] at H
                        have c18b0 : decide ((wrap64 (x7_3 + 1)) < (l0.length : Int)) = false := decide_eq_false c18
                        clear c18
                        by_cases c27 : 0 ≤ x7_3
                        · rw [if_pos c27] at H
                          have c27b0 : decide (0 ≤ x7_3) = true := decide_eq_true c27
                          clear c27
                          by_cases c28 : x7_3 < (l0.length : Int)
                          · rw [if_pos c28] at H
                            have c28b0 : decide (x7_3 < (l0.length : Int)) = true := decide_eq_true c28
                            clear c28
                            by_cases c29 : x5_2.length < 8796093022208
                            · rw [if_pos c29] at H
                              have LMc29 := Aside0.mk c29
                              clear c29
                              obtain ⟨y155, hy155⟩ : ∃ y_ : List (S84), y_ = (x5_2 ++ [(⟨(rd_T84 l0 x7_3).f0, (rd_T84 l0 x7_3).f1⟩ : S84)]) := ⟨_, rfl⟩
                              replace H : (spec_CompressTrend.l0 k3 l0 a1 y155 x7_3) = some r := by first | (rw [hy155]; with_reducible exact H) | (have H2_ := (Option.bind_some _ _).symm.trans H; rw [hy155]; with_reducible exact H2_) | (have H2_ := (Option.bind_some _ _).symm.trans H; with_reducible exact H2_) | with_reducible exact H | (rw [hy155]; exact H) | exact H
                              have Ny155 := Aside0.mk hy155
                              clear hy155
                              have H' := Aside0.mk H
                              clear H
                              have p154 : 0 ≤ (x7_3 : Int) := of_decide_eq_true (by first | (with_reducible assumption) | assumption)
                              have q154 : x7_3 < (l0.length : Int) := of_decide_eq_true (by first | (with_reducible assumption) | assumption)
                              obtain ⟨ad154, e154, hx154_0, hx154_1⟩ := at_T84 HR0.out x7_3 p154 q154
                              obtain rfl : ad145 = ad154 := (by injection e154)
                              replace hx154_0 := (HB.out.cell (World.block_lt_of_cell? w _ hx154_0)).trans hx154_0
                              replace hx154_1 := (HB.out.cell (World.block_lt_of_cell? w _ hx154_1)).trans hx154_1
                              replace p154 := eq_true p154
                              replace q154 := eq_true q154
                              go_wp2_with (first | ((with_reducible refine gate_builtin (b := .append) (xs := #[.tmp 51, .tmp 56]) rfl ?_); (try (refine gate_guard (by rfl) ?_; dsimp only)); at_builtin; refine Kd.R_append k84 (w0 := w) w.heap.size rfl (.tmp 51) (.tmp 56) 25 84 (.agg #[(.int .i64 0), (.int .i64 0)]) 16 rfl Try.underlying25 info84 rfl (by decide) (by omega) u5 x5_2 (⟨(rd_T84 l0 x7_3).f0, (rd_T84 l0 x7_3).f1⟩ : S84) [.int .i64 ((rd_T84 l0 x7_3).f0), .int .i64 ((rd_T84 l0 x7_3).f1)] (fun _ => True) (fun _ => False) rfl rfl ?aP (fun _ hk => hk.elim) ?aF ?aO ?aB ?aS ?aL ?_; (case aP => exact k84_mkM _ _ _ (⟨(rd_T84 l0 x7_3).f0, (rd_T84 l0 x7_3).f1⟩ : S84)); (case aB => exact (by repeat (first | (with_reducible first | exact HB.out | apply below_alloc | apply pw_below_drewN | apply below_drew1) | exact HB.out))); (case aF => exact (fun _ _ => trivial)); (case aO => exact (by (with_reducible repeat (first | apply Kd.R_alloc | apply Kd.R_drewN | apply Kd.R_drew)); exact HO_5.out)); (case aS => exact (below_size (by repeat (first | (with_reducible first | exact HB.out | apply below_alloc | apply pw_below_drewN | apply below_drew1) | exact HB.out)))); (case aL => have := LMc29.out; omega); intro v156 w30 ho hb hg hat; rw [← Ny155.out] at ho; have n0_ := Aside0.mk (hb); have n1_ := Aside0.mk (ho); clear HB; clear HO_5; have HB := n0_; have HO157 := n1_; clear n0_ n1_; clear ho hb hg hat))
                              go_roundg k3
                              case measure => have := HJ2.out; have := HK2.out; have := HK3.out; omega
                              case rel => exact ⟨(y155), (x7_3), (by first | rfl | (simp; done) | (simp [*]; done)), H', ⟨by have := HJ2.out; have := HK2.out; have := HK3.out; omega⟩, ⟨by (with_reducible repeat (first | apply Kd.R_alloc | apply Kd.R_drewN | apply Kd.R_drew)); exact HO157.out⟩, ⟨by repeat (first | (with_reducible first | exact HB.out | apply below_alloc | apply pw_below_drewN | apply below_drew1) | exact HB.out)⟩⟩
                            · rw [if_neg c29] at H
                              exact absurd H (by simp)
                          · rw [if_neg c28] at H
                            exact absurd H (by simp)
                        · rw [if_neg c27] at H
                          exact absurd H (by simp)
                · rw [if_neg c17] at H
                  have c17b0 : decide (x6_2 < (wrap64 ((l0.length : Int) - 1))) = false := decide_eq_false c17
                  clear c17
                  obtain rfl := Option.some.inj H
                  go_wp2
                  go_ret
                  exact ⟨_, by first | rfl | (simp [errW_none, errW_some] <;> rfl) | (simp [*, errW_none, errW_some] <;> rfl), by (with_reducible repeat (first | apply Kd.R_alloc | apply Kd.R_drewN | apply Kd.R_drew)); exact HO_5.out, by repeat (first | (with_reducible first | exact HB.out | apply below_alloc | apply pw_below_drewN | apply below_drew1) | exact HB.out)⟩
          · rw [if_neg c15] at H
            exact absurd H (by simp)
        · rw [if_neg c14] at H
          exact absurd H (by simp)

end Go.Proofs.Ythbbhdadioiefaa.QFnCompressLine
