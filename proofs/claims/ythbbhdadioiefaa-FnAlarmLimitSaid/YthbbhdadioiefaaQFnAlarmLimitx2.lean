-- Written by wip/pr2.py: a program of this session's own, which runs the kit's print over contracts of its own.
import Derived.Test.YthbbhdadioiefaaQFnAlarmLimitx0
import Derived.Test.YthbbhdadioiefaaQFnAlarmLimitx1
namespace Go.Proofs.Ythbbhdadioiefaa.QFnAlarmLimit
open Go.RowKit Go.Proofs.YthbbhdadioiefaaW.PrintWords Go.Proofs.YthbbhdadioiefaaW.PrintLast Go.Proofs.YthbbhdadioiefaaW.PrintMore
attribute [local go_sem] max2_int min2_int max_two min_two max_three min_three max_four min_four   -- for this text's walks alone
set_option linter.unusedVariables false
set_option linter.unusedSimpArgs false

/-! ### spec_DrawMovingAverage: function 45 -/
def spec_DrawMovingAverage.f (k : Nat) (l0 : List Int) : Option (List Int × Int) := (spec_l20Open.f l0).bind fun bt152 => ((spec_l20Words.f k bt152.1 bt152.2 14 12).bind fun bt155 => ((some (([1, 2, 3, 7, 0, 51] : List Int) : List Int)).bind fun y159 => ((some (([0, 1, 2, 3, 1, 2, 3, 4, 5] : List Int) : List Int)).bind fun y162 => ((spec_l20Rd_pick.f k bt152.1 bt155.2 9).bind fun bt165 => (if 0 ≤ bt165.1 then (if bt165.1 < (y162.length : Int) then (if 0 ≤ (rd y162 bt165.1) then (if (rd y162 bt165.1) < (y159.length : Int) then (some (bt155.1, rd y159 (rd y162 bt165.1))) else (none)) else (none)) else (none)) else (none))))))
theorem spec_DrawMovingAverage.mono : ∀ a0 k, LeO (spec_DrawMovingAverage.f k a0) (spec_DrawMovingAverage.f (k + 1) a0) := by
  intro a0 k
  unfold spec_DrawMovingAverage.f
  repeat' first
      | (with_reducible exact spec_l20Rd_pick.mono _ _ _ _)
      | (with_reducible exact spec_l20Words.mono _ _ _ _ _)
      | (with_reducible exact LeO.refl _)
      | (with_reducible exact LeO.none _)
      | (with_reducible refine LeO.ite ?_ ?_)
      | (with_reducible refine LeO.bind ?_ (fun _ => ?_))
      | exact spec_l20Rd_pick.mono _ _ _ _
      | exact spec_l20Words.mono _ _ _ _ _
      | exact LeO.none _
      | refine LeO.ite ?_ ?_
      | refine LeO.bind ?_ (fun _ => ?_)
def spec_DrawMovingAverage.T3 : Bool × List (List Nat × List Nat) := (true, [([], []), ([], []), ([], []), ([], []), ([3], [3]), ([2, 4], [2, 4]), ([5], [5]), ([1, 6], [1, 6]), ([7], [7]), ([0, 4, 0], [0]), ([8, 9, 0, 1, 2, 3, 4, 5, 6, 7, 8, 9], [8])])
def spec_DrawMovingAverage.B3 : List Nat := [0, 0, 0, 0, 8, 28, 60, 126, 254, 25, 1023]
theorem spec_DrawMovingAverage.tab3 : rtab .any (opsOf Try.f45 3) = spec_DrawMovingAverage.T3 := by kernel_rfl
theorem spec_DrawMovingAverage.bits3 : waitsOk spec_DrawMovingAverage.T3.2 spec_DrawMovingAverage.B3 = true := by kernel_rfl
set_option maxHeartbeats 8000000 in
set_option maxRecDepth 100000 in
theorem spec_DrawMovingAverage.calls (k : Nat) (A0 : Option Addr) (c0 : Nat) (l0 : List Int) (r1 : List Int) (r2 : Int) (w : World) (hr0 : Kd.C (Kd.int .u8) w A0 l0.length l0) (hc0 : l0.length ≤ c0) (h : spec_DrawMovingAverage.f k l0 = some (r1, r2)) :
    Calls Try.prog 45 #[.slice A0 l0.length c0] w fun e w' => ∃ v0_ : Value, e = .returned (.tuple #[v0_, .int .i64 r2]) ∧ Kd.R (Kd.int .i64) 3 w' w.heap.size (fun _ => True) v0_ r1 ∧ Below w.heap.size w w' := by
  have HR0 := Aside0.mk hr0
  have HC0 := Aside0.mk hc0
  clear hr0 hc0
  have HB := Aside0.mk (Below.refl w.heap.size w)
  have H : ((spec_l20Open.f l0).bind fun bt152 => ((spec_l20Words.f k bt152.1 bt152.2 14 12).bind fun bt155 => ((some (([1, 2, 3, 7, 0, 51] : List Int) : List Int)).bind fun y159 => ((some (([0, 1, 2, 3, 1, 2, 3, 4, 5] : List Int) : List Int)).bind fun y162 => ((spec_l20Rd_pick.f k bt152.1 bt155.2 9).bind fun bt165 => (if 0 ≤ bt165.1 then (if bt165.1 < (y162.length : Int) then (if 0 ≤ (rd y162 bt165.1) then (if (rd y162 bt165.1) < (y159.length : Int) then (some (bt155.1, rd y159 (rd y162 bt165.1))) else (none)) else (none)) else (none)) else (none))))))) = some (r1, r2) := h
  clear h
  replace H := Option.bind_eq_some_iff.mp H
  obtain ⟨⟨t152, t153⟩, A20, H⟩ := H
  replace H : ((spec_l20Words.f k t152 t153 14 12).bind fun bt155 => ((some (([1, 2, 3, 7, 0, 51] : List Int) : List Int)).bind fun y159 => ((some (([0, 1, 2, 3, 1, 2, 3, 4, 5] : List Int) : List Int)).bind fun y162 => ((spec_l20Rd_pick.f k t152 bt155.2 9).bind fun bt165 => (if 0 ≤ bt165.1 then (if bt165.1 < (y162.length : Int) then (if 0 ≤ (rd y162 bt165.1) then (if (rd y162 bt165.1) < (y159.length : Int) then (some (bt155.1, rd y159 (rd y162 bt165.1))) else (none)) else (none)) else (none)) else (none)))))) = some (r1, r2) := H
  have A2 := Aside0.mk A20
  clear A20
  replace H := Option.bind_eq_some_iff.mp H
  obtain ⟨⟨t155, t158⟩, A30, H⟩ := H
  replace H : ((some (([1, 2, 3, 7, 0, 51] : List Int) : List Int)).bind fun y159 => ((some (([0, 1, 2, 3, 1, 2, 3, 4, 5] : List Int) : List Int)).bind fun y162 => ((spec_l20Rd_pick.f k t152 t158 9).bind fun bt165 => (if 0 ≤ bt165.1 then (if bt165.1 < (y162.length : Int) then (if 0 ≤ (rd y162 bt165.1) then (if (rd y162 bt165.1) < (y159.length : Int) then (some (t155, rd y159 (rd y162 bt165.1))) else (none)) else (none)) else (none)) else (none))))) = some (r1, r2) := H
  have A3 := Aside0.mk A30
  clear A30
  obtain ⟨y159, hy159⟩ : ∃ y_ : List Int, y_ = (([1, 2, 3, 7, 0, 51] : List Int)) := ⟨_, rfl⟩
  replace H : ((some (([0, 1, 2, 3, 1, 2, 3, 4, 5] : List Int) : List Int)).bind fun y162 => ((spec_l20Rd_pick.f k t152 t158 9).bind fun bt165 => (if 0 ≤ bt165.1 then (if bt165.1 < (y162.length : Int) then (if 0 ≤ (rd y162 bt165.1) then (if (rd y162 bt165.1) < (y159.length : Int) then (some (t155, rd y159 (rd y162 bt165.1))) else (none)) else (none)) else (none)) else (none)))) = some (r1, r2) := by first | (rw [hy159]; with_reducible exact H) | (have H2_ := (Option.bind_some _ _).symm.trans H; rw [hy159]; with_reducible exact H2_) | (have H2_ := (Option.bind_some _ _).symm.trans H; with_reducible exact H2_) | with_reducible exact H | (rw [hy159]; exact H) | exact H
  have Ny159 := Aside0.mk hy159
  clear hy159
  obtain ⟨y162, hy162⟩ : ∃ y_ : List Int, y_ = (([0, 1, 2, 3, 1, 2, 3, 4, 5] : List Int)) := ⟨_, rfl⟩
  replace H : ((spec_l20Rd_pick.f k t152 t158 9).bind fun bt165 => (if 0 ≤ bt165.1 then (if bt165.1 < (y162.length : Int) then (if 0 ≤ (rd y162 bt165.1) then (if (rd y162 bt165.1) < (y159.length : Int) then (some (t155, rd y159 (rd y162 bt165.1))) else (none)) else (none)) else (none)) else (none))) = some (r1, r2) := by first | (rw [hy162]; with_reducible exact H) | (have H2_ := (Option.bind_some _ _).symm.trans H; rw [hy162]; with_reducible exact H2_) | (have H2_ := (Option.bind_some _ _).symm.trans H; with_reducible exact H2_) | with_reducible exact H | (rw [hy162]; exact H) | exact H
  have Ny162 := Aside0.mk hy162
  clear hy162
  replace H := Option.bind_eq_some_iff.mp H
  obtain ⟨⟨t165, t166⟩, A40, H⟩ := H
  replace H : (if 0 ≤ t165 then (if t165 < (y162.length : Int) then (if 0 ≤ (rd y162 t165) then (if (rd y162 t165) < (y159.length : Int) then (some (t155, rd y159 (rd y162 t165))) else (none)) else (none)) else (none)) else (none)) = some (r1, r2) := H
  have A4 := Aside0.mk A40
  clear A40
  by_cases c5 : 0 ≤ t165
  · rw [if_pos c5] at H
    have c5b0 : decide (0 ≤ t165) = true := decide_eq_true c5
    clear c5
    by_cases c6 : t165 < (y162.length : Int)
    · rw [if_pos c6] at H
      have c6b0 : decide (t165 < (y162.length : Int)) = true := decide_eq_true c6
      clear c6
      by_cases c7 : 0 ≤ (rd y162 t165)
      · rw [if_pos c7] at H
        have c7b0 : decide (0 ≤ (rd y162 t165)) = true := decide_eq_true c7
        clear c7
        by_cases c8 : (rd y162 t165) < (y159.length : Int)
        · rw [if_pos c8] at H
          have c8b0 : decide ((rd y162 t165) < (y159.length : Int)) = true := decide_eq_true c8
          clear c8
          simp only [Option.some.injEq, Prod.mk.injEq] at H
          obtain ⟨rfl, rfl⟩ := H
          go_enter Try.func45, Try.ntmps45
          try go_wp2_with (first | ((with_reducible refine gate_callee (f := 89) rfl ?_); refine goesL_ (some 7) rfl rfl Try.func89 (by kernel_rfl) rfl #[.slice A0 l0.length c0] rfl (by (try simp only [List.map_toArray, List.map_cons, List.map_nil]); first | done | rfl | (simp only [List.length_drop, List.length_take]; rfl)) ?_; (with_reducible refine (spec_l20Open.calls _ _ l0 t152 t153 w _ ?side1 ?side2 ?side3 A2.out).mono ?_); (case side1 => repeat (first | (with_reducible first | exact HB.out | apply below_alloc | apply pw_below_drewN | apply below_drew1) | exact HB.out)); (case side2 => exact HR0.out); (case side3 => exact HC0.out); rintro e w9 ⟨g154, rfl, hi, hb, hb2⟩; refine ⟨_, rfl, ?_⟩; have n0_ := Aside0.mk (hb); have n1_ := Aside0.mk (hi); clear HB; have HB := n0_; have HI154 := n1_; clear n0_ n1_; (try clear hb); (try clear hb2); (try clear hk); (try clear hi)) | ((with_reducible refine gate_callee (f := 90) rfl ?_); refine goesL_ (some 9) rfl rfl Try.func90 (by kernel_rfl) rfl #[.pointer (some ⟨g154, 0, none⟩), .int .i64 14, .int .i64 12] rfl (by (try simp only [List.map_toArray, List.map_cons, List.map_nil]); first | done | rfl | (simp only [List.length_drop, List.length_take]; rfl)) ?_; (with_reducible refine (spec_l20Words.calls k g154 t152 t153 14 12 t155 t158 w _ ?side1 ?side2 A3.out).mono ?_); (case side1 => repeat (first | (with_reducible first | exact HI154.out | apply IsS125.alloc | apply IsS125.drewN | apply IsS125.drew | apply IsS125.set_1) | exact HI154.out)); (case side2 => repeat (first | (with_reducible first | exact HB.out | apply below_alloc | apply pw_below_drewN | apply below_drew1 | refine below_set ?_ (IsS125.ge HI154.out)) | exact HB.out)); rintro e w10 ⟨v156, rfl, ho0, hi, hb, hk⟩; refine ⟨_, rfl, ?_⟩; have n0_ := Aside0.mk (Kd.R_lower ho0 (below_size (by repeat (first | (with_reducible first | exact HB.out | apply below_alloc | apply pw_below_drewN | apply below_drew1 | refine below_set ?_ (IsS125.ge HI154.out)) | exact HB.out)))); have n1_ := Aside0.mk (hb); have n2_ := Aside0.mk (hi); clear HB; clear HI154; have HO157 := n0_; have HB := n1_; have HI154 := n2_; clear n0_ n1_ n2_; (try clear hb); (try clear hb2); (try clear hk); (try clear hi); (try clear ho0)))
          have pi167 : (0 ≤ (t165 : Int)) = True := eq_true (of_decide_eq_true (by first | (with_reducible assumption) | assumption))
          have qi167 : (t165 < (y162.length : Int)) = True := eq_true (of_decide_eq_true (by first | (with_reducible assumption) | assumption))
          have pi168 : (0 ≤ ((rd y162 t165) : Int)) = True := eq_true (of_decide_eq_true (by first | (with_reducible assumption) | assumption))
          have qi168 : ((rd y162 t165) < (y159.length : Int)) = True := eq_true (of_decide_eq_true (by first | (with_reducible assumption) | assumption))
          have n0_ := Aside0.mk (Kd.R_drew HO157.out)
          have n1_ := Aside0.mk (IsS125.drew HI154.out)
          have n2_ := Aside0.mk (below_drew1 HB.out)
          clear HO157
          clear HI154
          clear HB
          have HO157 := n0_
          have HI154 := n1_
          have HB := n2_
          clear n0_ n1_ n2_
          refine start_ (n := 11) (S := fun w' => True) (ds := []) #[false, false, false, false, false, false, false, false, false, false, false] (by kernel_rfl) rfl rfl trivial (fun hHeld => ?_); refine with_tabW spec_DrawMovingAverage.tab3 spec_DrawMovingAverage.bits3 (fun HT_ HW_ => ?_)
          generalize w10.drew = w11 at HO157 HI154 HB hHeld ⊢
          refine pure_ (i := 0) (N := some 10) (v := ?_) (a' := ?_) #[true, false, false, false, false, false, false, false, false, false, false] rfl rfl (any_of HT_.out (by kernel_rfl)) (fun _ _ _ h => h) (Or.inl ⟨by rfl, ?_⟩) ?_ ?_
          rotate_left
          · intro w'
            go_simp
            with_reducible rfl
          rotate_left
          · simp only [Act.put, List.setIfInBounds_toArray, List.set_cons_zero, List.set_cons_succ, i64_w, i32_w]
            rfl
          refine pure_ (i := 3) (N := some 13) (v := ?_) (a' := ?_) #[true, false, false, true, false, false, false, false, false, false, false] rfl rfl (any_of HT_.out (by kernel_rfl)) (fun _ _ _ h => h) (Or.inl ⟨by rfl, ?_⟩) ?_ ?_
          rotate_left
          · intro w'
            go_simp
            with_reducible rfl
          rotate_left
          · simp only [Act.put, List.setIfInBounds_toArray, List.set_cons_zero, List.set_cons_succ, i64_w, i32_w]
            rfl
          refine inv_at [1, 2, 4, 5, 6, 7, 8, 9, 10] (fun a0_ b a w' => ∃ (v160 : Value) (adz_v160 : Addr) (v163 : Value) (adz_v163 : Addr) (m5_ : Value) (m7_ : Value), a = putSel a0_ b [(1, 11, v160), (2, 12, v163), (4, 14, .int .i64 t165), (5, 15, m5_), (6, 16, .int .i64 (rd y162 t165)), (7, 17, m7_), (8, 18, .int .i64 (rd y159 (rd y162 t165))), (9, 2, v156), (10, 3, .int .i64 (rd y159 (rd y162 t165)))] ∧ (Kd.R (Kd.int .i64) 3 w' w.heap.size (fun _ => True) v156 t155) ∧ (b 4 = false → IsS125 w w' g154 t152 t158) ∧ (Below w.heap.size w w') ∧ (b 1 = true → Kd.R (Kd.int .i64) 3 w' w.heap.size (fun k_ => some k_ ≠ (v156 : Value).ownBlock) v160 y159) ∧ (b 1 = true → ∃ c_, (v160 : Value) = .slice (some adz_v160) y159.length c_) ∧ (b 2 = true → Kd.R (Kd.int .i64) 3 w' w.heap.size (fun k_ => some k_ ≠ (v156 : Value).ownBlock) v163 y162) ∧ (b 2 = true → ∃ c_, (v163 : Value) = .slice (some adz_v163) y162.length c_) ∧ (b 4 = true → IsS125 w w' g154 t152 t166) ∧ (b 5 = true → (m5_ : Value) = .pointer (some (adz_v163.add (t165).toNat))) ∧ (b 7 = true → (m7_ : Value) = .pointer (some (adz_v160.add ((rd y162 t165)).toNat)))) HT_.out HW_.out (by kernel_rfl) (by kernel_rfl) ?_ ?_ ?_
          · exact ⟨.bool false, ⟨0, 0, none⟩, .bool false, ⟨0, 0, none⟩, .bool false, .bool false, by simp only [putSel, Bool.false_eq_true, if_false], HO157.out, fun _ => HI154.out, HB.out, fun h_ => absurd h_ (by decide), fun h_ => absurd h_ (by decide), fun h_ => absurd h_ (by decide), fun h_ => absurd h_ (by decide), fun h_ => absurd h_ (by decide), fun h_ => absurd h_ (by decide), fun h_ => absurd h_ (by decide)⟩
          · skip
            clear HB HI154 HO157
            refine steps_cons ?_ ?_
            · rintro b a w' ⟨v160, adz_v160, v163, adz_v163, m5_, m7_, ha, Q_HO157, Q_HI154, Q_HB, Q_HO161, Q_HA_HO161, Q_HO164, Q_HA_HO164, Q_HI154_e4, Q_X5_, Q_X7_⟩ hb_ hon hoff
              refine ⟨_, rfl, fun K hK => ?_⟩
              replace ha := Aside0.mk ha
              have HO157 := Aside0.mk Q_HO157
              have HB := Aside0.mk Q_HB
              refine Kd.R_lit_step (Kd.int .i64) _ 3 ?hg (N := 11) ?hd (xs := ([1, 2, 3, 7, 0, 51] : List Int)) (inner := [.int .i64 1, .int .i64 2, .int .i64 3, .int .i64 7, .int .i64 0, .int .i64 51]) (ok := fun _ => True) (okp := fun _ => True) ?hr ?hp (fun _ hk => hk) trivial (Below.refl _ _) (Nat.le_refl _) (by simp) ?_; (case hd => rfl); (case hg => rfl); (case hr => first | (go_simp; done) | (go_simp; rfl)); (case hp => exact (Reps.one (show Kd.M (Kd.int .i64) _ _ _ 1 [.int .i64 1] from rfl) (Reps.one (show Kd.M (Kd.int .i64) _ _ _ 2 [.int .i64 2] from rfl) (Reps.one (show Kd.M (Kd.int .i64) _ _ _ 3 [.int .i64 3] from rfl) (Reps.one (show Kd.M (Kd.int .i64) _ _ _ 7 [.int .i64 7] from rfl) (Reps.one (show Kd.M (Kd.int .i64) _ _ _ 0 [.int .i64 0] from rfl) (Reps.one (show Kd.M (Kd.int .i64) _ _ _ 51 [.int .i64 51] from rfl) (Reps.none _ _))))))))
              intro v160 w12 ho13 hb hg_ hnew_
              clear hg_ hnew_
              (first | rw [← Ny159.out] at ho13 | (simp only [Int.reduceToNat] at ho13; rw [← Ny159.out] at ho13))
              have n0_ := Aside0.mk (Kd.R_elder' (by (with_reducible repeat (first | apply Kd.R_alloc | apply Kd.R_drewN | apply Kd.R_drew)); exact HO157.out) (Kd.R_base ho13) hb)
              have n1_ := Aside0.mk (Kd.R_lower (Kd.R_new' ho13 (Kd.R_lt (by (with_reducible repeat (first | apply Kd.R_alloc | apply Kd.R_drewN | apply Kd.R_drew)); exact HO157.out))) (below_size (by repeat (first | (with_reducible first | exact HB.out | apply below_alloc | apply pw_below_drewN | apply below_drew1) | exact HB.out))))
              have n3_ := Aside0.mk (below_step (by repeat (first | (with_reducible first | exact HB.out | apply below_alloc | apply pw_below_drewN | apply below_drew1) | exact HB.out)) hb)
              have z_HI154 := fun (h0_ : b 4 = false) => (show IsS125 w w12 g154 t152 t158 from by first | exact (IsS125.below (by repeat (first | (with_reducible first | exact (Q_HI154 h0_) | apply IsS125.alloc | apply IsS125.drewN | apply IsS125.drew | apply IsS125.set_1) | exact (Q_HI154 h0_))) hb))
              have z_HO164 := fun (h0_ : b 2 = true) => (show Kd.R (Kd.int .i64) 3 w12 w.heap.size (fun k_ => some k_ ≠ (v156 : Value).ownBlock) v163 y162 from by first | exact (Kd.R_elder' (by (with_reducible repeat (first | apply Kd.R_alloc | apply Kd.R_drewN | apply Kd.R_drew)); exact (Q_HO164 h0_)) (Kd.R_base ho13) hb) | exact Kd.R_mono (Kd.R_elder' (by (with_reducible repeat (first | apply Kd.R_alloc | apply Kd.R_drewN | apply Kd.R_drew)); exact (Q_HO164 h0_)) (Kd.R_base ho13) hb) (fun _ h_ => by first | trivial | exact h_ | exact h_.1))
              have z_HI154_e4 := fun (h0_ : b 4 = true) => (show IsS125 w w12 g154 t152 t166 from by first | exact (IsS125.below (by repeat (first | (with_reducible first | exact (Q_HI154_e4 h0_) | apply IsS125.alloc | apply IsS125.drewN | apply IsS125.drew | apply IsS125.set_1) | exact (Q_HI154_e4 h0_))) hb))
              clear HO157
              clear HB
              have HO157 := n0_
              have HO161 := n1_
              have HB := n3_
              clear n0_ n1_ n3_
              clear hb ho13
              obtain ⟨Ao14, co14, eo14⟩ := Kd.R_slice HO161.out
              subst eo14
              obtain ⟨ado14, fo14, _⟩ := Kd.at_int (Kd.R_reads' HO161.out).2.2 0 (by decide) (by rw [Ny159.out]; simp)
              cases fo14
              refine hK.out _ _ ⟨.slice (some ado14) y159.length co14, ado14, v163, adz_v163, m5_, m7_, (by rw [ha.out]; exact putSel_upk 0 hb_ rfl rfl rfl), (by (with_reducible repeat (first | apply Kd.R_alloc | apply Kd.R_drewN | apply Kd.R_drew)); exact Kd.R_mono HO157.out (fun _ hk => by first | exact hk.2 | exact trivial)), z_HI154, (by repeat (first | (with_reducible first | exact HB.out | apply below_alloc | apply pw_below_drewN | apply below_drew1) | exact HB.out)), fun _ => (by (with_reducible repeat (first | apply Kd.R_alloc | apply Kd.R_drewN | apply Kd.R_drew)); exact Kd.R_mono HO161.out (fun _ hk => by first | exact hk.2 | exact trivial)), fun _ => ⟨_, rfl⟩, z_HO164, Q_HA_HO164, z_HI154_e4, Q_X5_, fun h0_ => absurd ((hoff 7 (by kernel_rfl)).symm.trans h0_) (by decide)⟩
            refine steps_cons ?_ ?_
            · rintro b a w' ⟨v160, adz_v160, v163, adz_v163, m5_, m7_, ha, Q_HO157, Q_HI154, Q_HB, Q_HO161, Q_HA_HO161, Q_HO164, Q_HA_HO164, Q_HI154_e4, Q_X5_, Q_X7_⟩ hb_ hon hoff
              refine ⟨_, rfl, fun K hK => ?_⟩
              replace ha := Aside0.mk ha
              have HO157 := Aside0.mk Q_HO157
              have HB := Aside0.mk Q_HB
              refine Kd.R_lit_step (Kd.int .i64) _ 3 ?hg (N := 12) ?hd (xs := ([0, 1, 2, 3, 1, 2, 3, 4, 5] : List Int)) (inner := [.int .i64 0, .int .i64 1, .int .i64 2, .int .i64 3, .int .i64 1, .int .i64 2, .int .i64 3, .int .i64 4, .int .i64 5]) (ok := fun _ => True) (okp := fun _ => True) ?hr ?hp (fun _ hk => hk) trivial (Below.refl _ _) (Nat.le_refl _) (by simp) ?_; (case hd => rfl); (case hg => rfl); (case hr => first | (go_simp; done) | (go_simp; rfl)); (case hp => exact (Reps.one (show Kd.M (Kd.int .i64) _ _ _ 0 [.int .i64 0] from rfl) (Reps.one (show Kd.M (Kd.int .i64) _ _ _ 1 [.int .i64 1] from rfl) (Reps.one (show Kd.M (Kd.int .i64) _ _ _ 2 [.int .i64 2] from rfl) (Reps.one (show Kd.M (Kd.int .i64) _ _ _ 3 [.int .i64 3] from rfl) (Reps.one (show Kd.M (Kd.int .i64) _ _ _ 1 [.int .i64 1] from rfl) (Reps.one (show Kd.M (Kd.int .i64) _ _ _ 2 [.int .i64 2] from rfl) (Reps.one (show Kd.M (Kd.int .i64) _ _ _ 3 [.int .i64 3] from rfl) (Reps.one (show Kd.M (Kd.int .i64) _ _ _ 4 [.int .i64 4] from rfl) (Reps.one (show Kd.M (Kd.int .i64) _ _ _ 5 [.int .i64 5] from rfl) (Reps.none _ _)))))))))))
              intro v163 w12 ho13 hb hg_ hnew_
              clear hg_ hnew_
              (first | rw [← Ny162.out] at ho13 | (simp only [Int.reduceToNat] at ho13; rw [← Ny162.out] at ho13))
              have n0_ := Aside0.mk (Kd.R_elder' (by (with_reducible repeat (first | apply Kd.R_alloc | apply Kd.R_drewN | apply Kd.R_drew)); exact HO157.out) (Kd.R_base ho13) hb)
              have n1_ := Aside0.mk (Kd.R_lower (Kd.R_new' ho13 (Kd.R_lt (by (with_reducible repeat (first | apply Kd.R_alloc | apply Kd.R_drewN | apply Kd.R_drew)); exact HO157.out))) (below_size (by repeat (first | (with_reducible first | exact HB.out | apply below_alloc | apply pw_below_drewN | apply below_drew1) | exact HB.out))))
              have n3_ := Aside0.mk (below_step (by repeat (first | (with_reducible first | exact HB.out | apply below_alloc | apply pw_below_drewN | apply below_drew1) | exact HB.out)) hb)
              have z_HI154 := fun (h0_ : b 4 = false) => (show IsS125 w w12 g154 t152 t158 from by first | exact (IsS125.below (by repeat (first | (with_reducible first | exact (Q_HI154 h0_) | apply IsS125.alloc | apply IsS125.drewN | apply IsS125.drew | apply IsS125.set_1) | exact (Q_HI154 h0_))) hb))
              have z_HO161 := fun (h0_ : b 1 = true) => (show Kd.R (Kd.int .i64) 3 w12 w.heap.size (fun k_ => some k_ ≠ (v156 : Value).ownBlock) v160 y159 from by first | exact (Kd.R_elder' (by (with_reducible repeat (first | apply Kd.R_alloc | apply Kd.R_drewN | apply Kd.R_drew)); exact (Q_HO161 h0_)) (Kd.R_base ho13) hb) | exact Kd.R_mono (Kd.R_elder' (by (with_reducible repeat (first | apply Kd.R_alloc | apply Kd.R_drewN | apply Kd.R_drew)); exact (Q_HO161 h0_)) (Kd.R_base ho13) hb) (fun _ h_ => by first | trivial | exact h_ | exact h_.1))
              have z_HI154_e4 := fun (h0_ : b 4 = true) => (show IsS125 w w12 g154 t152 t166 from by first | exact (IsS125.below (by repeat (first | (with_reducible first | exact (Q_HI154_e4 h0_) | apply IsS125.alloc | apply IsS125.drewN | apply IsS125.drew | apply IsS125.set_1) | exact (Q_HI154_e4 h0_))) hb))
              clear HO157
              clear HB
              have HO157 := n0_
              have HO164 := n1_
              have HB := n3_
              clear n0_ n1_ n3_
              clear hb ho13
              obtain ⟨Ao14, co14, eo14⟩ := Kd.R_slice HO164.out
              subst eo14
              obtain ⟨ado14, fo14, _⟩ := Kd.at_int (Kd.R_reads' HO164.out).2.2 0 (by decide) (by rw [Ny162.out]; simp)
              cases fo14
              refine hK.out _ _ ⟨v160, adz_v160, .slice (some ado14) y162.length co14, ado14, m5_, m7_, (by rw [ha.out]; exact putSel_upk 1 hb_ rfl rfl rfl), (by (with_reducible repeat (first | apply Kd.R_alloc | apply Kd.R_drewN | apply Kd.R_drew)); exact Kd.R_mono HO157.out (fun _ hk => by first | exact hk.2 | exact trivial)), z_HI154, (by repeat (first | (with_reducible first | exact HB.out | apply below_alloc | apply pw_below_drewN | apply below_drew1) | exact HB.out)), z_HO161, Q_HA_HO161, fun _ => (by (with_reducible repeat (first | apply Kd.R_alloc | apply Kd.R_drewN | apply Kd.R_drew)); exact Kd.R_mono HO164.out (fun _ hk => by first | exact hk.2 | exact trivial)), fun _ => ⟨_, rfl⟩, z_HI154_e4, fun h0_ => absurd ((hoff 5 (by kernel_rfl)).symm.trans h0_) (by decide), fun h0_ => absurd ((hoff 7 (by kernel_rfl)).symm.trans h0_) (by decide)⟩
            refine steps_cons ?_ ?_
            · rintro b a w' ⟨v160, adz_v160, v163, adz_v163, m5_, m7_, ha, Q_HO157, Q_HI154, Q_HB, Q_HO161, Q_HA_HO161, Q_HO164, Q_HA_HO164, Q_HI154_e4, Q_X5_, Q_X7_⟩ hb_ hon hoff
              refine ⟨_, rfl, fun K hK => ?_⟩
              have e13 : a.tmps[13]? = some (.pointer (some ⟨g154, 0, none⟩)) := by rw [ha]; exact (putSel_off rfl).trans rfl
              replace ha := Aside0.mk ha
              have HO157 := Aside0.mk Q_HO157
              have HI154 := Aside0.mk (Q_HI154 hb_)
              have HB := Aside0.mk Q_HB
              refine goes_ Try.func91 (by kernel_rfl) rfl #[.pointer (some ⟨g154, 0, none⟩), .int .i64 9] (by rfl) rfl rfl (by first | (simp only [List.map_toArray, List.map_cons, List.map_nil, Act.eval, Array.getD_eq_getD_getElem?, Option.getD_some, e13]; done) | (simp only [List.map_toArray, List.map_cons, List.map_nil, Act.eval, Array.getD_eq_getD_getElem?, Option.getD_some, e13]; rfl)) ?_
              with_reducible refine (spec_l20Rd_pick.calls k g154 t152 t158 9 t165 t166 w _ ?side1 ?side2 A4.out).mono ?_
              (case side1 => repeat (first | (with_reducible first | exact HI154.out | apply IsS125.alloc | apply IsS125.drewN | apply IsS125.drew | apply IsS125.set_1) | exact HI154.out))
              (case side2 => repeat (first | (with_reducible first | exact HB.out | apply below_alloc | apply pw_below_drewN | apply below_drew1 | refine below_set ?_ (IsS125.ge HI154.out)) | exact HB.out))
              rintro e w12 ⟨rfl, hi, hb, hk⟩
              refine ⟨_, rfl, ?_⟩
              have n0_ := Aside0.mk (Kd.R_mono (Kd.R_keep (IsS125.apart (show IsS125 w _ g154 t152 t158 from by repeat (first | (with_reducible first | exact HI154.out | apply IsS125.alloc | apply IsS125.drewN | apply IsS125.drew | apply IsS125.set_1) | exact HI154.out)) (by (with_reducible repeat (first | apply Kd.R_alloc | apply Kd.R_drewN | apply Kd.R_drew)); exact HO157.out) (by decide)) hk (fun _ h => h.2)) (fun _ h => h.1))
              have n1_ := Aside0.mk (hb)
              have n2_ := Aside0.mk (hi)
              have z_HO161 := fun (h0_ : b 1 = true) => (show Kd.R (Kd.int .i64) 3 w12 w.heap.size (fun k_ => some k_ ≠ (v156 : Value).ownBlock) v160 y159 from by first | exact (Kd.R_mono (Kd.R_keep (IsS125.apart (show IsS125 w _ g154 t152 t158 from by repeat (first | (with_reducible first | exact HI154.out | apply IsS125.alloc | apply IsS125.drewN | apply IsS125.drew | apply IsS125.set_1) | exact HI154.out)) (by (with_reducible repeat (first | apply Kd.R_alloc | apply Kd.R_drewN | apply Kd.R_drew)); exact (Q_HO161 h0_)) (by decide)) hk (fun _ h => h.2)) (fun _ h => h.1)) | exact Kd.R_mono (Kd.R_mono (Kd.R_keep (IsS125.apart (show IsS125 w _ g154 t152 t158 from by repeat (first | (with_reducible first | exact HI154.out | apply IsS125.alloc | apply IsS125.drewN | apply IsS125.drew | apply IsS125.set_1) | exact HI154.out)) (by (with_reducible repeat (first | apply Kd.R_alloc | apply Kd.R_drewN | apply Kd.R_drew)); exact (Q_HO161 h0_)) (by decide)) hk (fun _ h => h.2)) (fun _ h => h.1)) (fun _ h_ => by first | trivial | exact h_ | exact h_.1))
              have z_HO164 := fun (h0_ : b 2 = true) => (show Kd.R (Kd.int .i64) 3 w12 w.heap.size (fun k_ => some k_ ≠ (v156 : Value).ownBlock) v163 y162 from by first | exact (Kd.R_mono (Kd.R_keep (IsS125.apart (show IsS125 w _ g154 t152 t158 from by repeat (first | (with_reducible first | exact HI154.out | apply IsS125.alloc | apply IsS125.drewN | apply IsS125.drew | apply IsS125.set_1) | exact HI154.out)) (by (with_reducible repeat (first | apply Kd.R_alloc | apply Kd.R_drewN | apply Kd.R_drew)); exact (Q_HO164 h0_)) (by decide)) hk (fun _ h => h.2)) (fun _ h => h.1)) | exact Kd.R_mono (Kd.R_mono (Kd.R_keep (IsS125.apart (show IsS125 w _ g154 t152 t158 from by repeat (first | (with_reducible first | exact HI154.out | apply IsS125.alloc | apply IsS125.drewN | apply IsS125.drew | apply IsS125.set_1) | exact HI154.out)) (by (with_reducible repeat (first | apply Kd.R_alloc | apply Kd.R_drewN | apply Kd.R_drew)); exact (Q_HO164 h0_)) (by decide)) hk (fun _ h => h.2)) (fun _ h => h.1)) (fun _ h_ => by first | trivial | exact h_ | exact h_.1))
              clear HO157
              clear HB
              clear HI154
              have HO157 := n0_
              have HB := n1_
              have HI154 := n2_
              clear n0_ n1_ n2_
              (try clear hb)
              (try clear hb2)
              (try clear hk)
              (try clear hi)
              refine hK.out _ _ ⟨v160, adz_v160, v163, adz_v163, m5_, m7_, (by rw [ha.out]; exact putSel_upk 2 hb_ rfl rfl rfl), (by (with_reducible repeat (first | apply Kd.R_alloc | apply Kd.R_drewN | apply Kd.R_drew)); exact HO157.out), fun h0_ => absurd ((up_self b 4).symm.trans h0_) (by decide), (by repeat (first | (with_reducible first | exact HB.out | apply below_alloc | apply pw_below_drewN | apply below_drew1 | refine below_set ?_ (IsS125.ge HI154.out)) | exact HB.out)), z_HO161, Q_HA_HO161, z_HO164, Q_HA_HO164, fun _ => (by repeat (first | (with_reducible first | exact HI154.out | apply IsS125.alloc | apply IsS125.drewN | apply IsS125.drew | apply IsS125.set_1) | exact HI154.out)), fun h0_ => absurd ((hoff 5 (by kernel_rfl)).symm.trans h0_) (by decide), fun h0_ => absurd ((hoff 7 (by kernel_rfl)).symm.trans h0_) (by decide)⟩
            refine steps_cons ?_ ?_
            · rintro b a w' ⟨v160, adz_v160, v163, adz_v163, m5_, m7_, ha, Q_HO157, Q_HI154, Q_HB, Q_HO161, Q_HA_HO161, Q_HO164, Q_HA_HO164, Q_HI154_e4, Q_X5_, Q_X7_⟩ hb_ hon hoff
              refine ⟨_, rfl, fun K hK => ?_⟩
              have e12 : a.tmps[12]? = some (v163) := by rw [ha]; exact putSel_on (e := (2, 12, v163)) 1 rfl rfl (hon 2 (by kernel_rfl)) rfl
              have e14 : a.tmps[14]? = some (.int .i64 t165) := by rw [ha]; exact putSel_on (e := (4, 14, .int .i64 t165)) 2 rfl rfl (hon 4 (by kernel_rfl)) rfl
              replace ha := Aside0.mk ha
              have HO157 := Aside0.mk Q_HO157
              have HB := Aside0.mk Q_HB
              have HO164 := Aside0.mk (Q_HO164 (hon 2 (by kernel_rfl)))
              have HA_HO164 := Aside0.mk (Q_HA_HO164 (hon 2 (by kernel_rfl)))
              have HI154 := Aside0.mk (Q_HI154_e4 (hon 4 (by kernel_rfl)))
              obtain ⟨c_, hv_⟩ := HA_HO164.out
              rw [hv_] at e12
              refine value_ (w1 := w') (v := .pointer (some (adz_v163.add (t165).toNat))) (by rfl) rfl ?_ ?_
              · go_simp
                (try simp only [i64_w])
                try rfl
              refine hK.out _ _ ⟨v160, adz_v160, v163, adz_v163, (.pointer (some (adz_v163.add (t165).toNat))), m7_, (by rw [ha.out]; exact putSel_upk 3 hb_ rfl rfl rfl), Q_HO157, fun h0_ => absurd ((hon 4 (by kernel_rfl)).symm.trans h0_) (by decide), Q_HB, Q_HO161, Q_HA_HO161, Q_HO164, Q_HA_HO164, Q_HI154_e4, fun _ => rfl, fun h0_ => absurd ((hoff 7 (by kernel_rfl)).symm.trans h0_) (by decide)⟩
            refine steps_cons ?_ ?_
            · rintro b a w' ⟨v160, adz_v160, v163, adz_v163, m5_, m7_, ha, Q_HO157, Q_HI154, Q_HB, Q_HO161, Q_HA_HO161, Q_HO164, Q_HA_HO164, Q_HI154_e4, Q_X5_, Q_X7_⟩ hb_ hon hoff
              refine ⟨_, rfl, fun K hK => ?_⟩
              have e15 : a.tmps[15]? = some (m5_) := by rw [ha]; exact putSel_on (e := (5, 15, m5_)) 3 rfl rfl (hon 5 (by kernel_rfl)) rfl
              rw [Q_X5_ (hon 5 (by kernel_rfl))] at e15
              replace ha := Aside0.mk ha
              have HO157 := Aside0.mk Q_HO157
              have HB := Aside0.mk Q_HB
              have HO164 := Aside0.mk (Q_HO164 (hon 2 (by kernel_rfl)))
              have HA_HO164 := Aside0.mk (Q_HA_HO164 (hon 2 (by kernel_rfl)))
              have HI154 := Aside0.mk (Q_HI154_e4 (hon 4 (by kernel_rfl)))
              obtain ⟨c_, hv_⟩ := HA_HO164.out
              have hF_ := HO164.out
              rw [hv_] at hF_
              obtain ⟨ad_, ea_, hx_⟩ := Kd.at_int (Kd.R_reads' hF_).2.2 t165 (of_eq_true pi167) (of_eq_true qi167)
              cases ea_
              refine value_ (w1 := w') (v := .int .i64 (rd y162 t165)) (by rfl) rfl ?_ ?_
              · go_simp
                (try simp only [i64_w])
                try rfl
              refine hK.out _ _ ⟨v160, adz_v160, v163, adz_v163, m5_, m7_, (by rw [ha.out]; exact putSel_upk 4 hb_ rfl rfl rfl), Q_HO157, fun h0_ => absurd ((hon 4 (by kernel_rfl)).symm.trans h0_) (by decide), Q_HB, Q_HO161, Q_HA_HO161, Q_HO164, Q_HA_HO164, Q_HI154_e4, Q_X5_, fun h0_ => absurd ((hoff 7 (by kernel_rfl)).symm.trans h0_) (by decide)⟩
            refine steps_cons ?_ ?_
            · rintro b a w' ⟨v160, adz_v160, v163, adz_v163, m5_, m7_, ha, Q_HO157, Q_HI154, Q_HB, Q_HO161, Q_HA_HO161, Q_HO164, Q_HA_HO164, Q_HI154_e4, Q_X5_, Q_X7_⟩ hb_ hon hoff
              refine ⟨_, rfl, fun K hK => ?_⟩
              have e11 : a.tmps[11]? = some (v160) := by rw [ha]; exact putSel_on (e := (1, 11, v160)) 0 rfl rfl (hon 1 (by kernel_rfl)) rfl
              have e16 : a.tmps[16]? = some (.int .i64 (rd y162 t165)) := by rw [ha]; exact putSel_on (e := (6, 16, .int .i64 (rd y162 t165))) 4 rfl rfl (hon 6 (by kernel_rfl)) rfl
              replace ha := Aside0.mk ha
              have HO157 := Aside0.mk Q_HO157
              have HB := Aside0.mk Q_HB
              have HO161 := Aside0.mk (Q_HO161 (hon 1 (by kernel_rfl)))
              have HA_HO161 := Aside0.mk (Q_HA_HO161 (hon 1 (by kernel_rfl)))
              have HO164 := Aside0.mk (Q_HO164 (hon 2 (by kernel_rfl)))
              have HA_HO164 := Aside0.mk (Q_HA_HO164 (hon 2 (by kernel_rfl)))
              have HI154 := Aside0.mk (Q_HI154_e4 (hon 4 (by kernel_rfl)))
              obtain ⟨c_, hv_⟩ := HA_HO161.out
              rw [hv_] at e11
              refine value_ (w1 := w') (v := .pointer (some (adz_v160.add ((rd y162 t165)).toNat))) (by rfl) rfl ?_ ?_
              · go_simp
                (try simp only [i64_w])
                try rfl
              refine hK.out _ _ ⟨v160, adz_v160, v163, adz_v163, m5_, (.pointer (some (adz_v160.add ((rd y162 t165)).toNat))), (by rw [ha.out]; exact putSel_upk 5 hb_ rfl rfl rfl), Q_HO157, fun h0_ => absurd ((hon 4 (by kernel_rfl)).symm.trans h0_) (by decide), Q_HB, Q_HO161, Q_HA_HO161, Q_HO164, Q_HA_HO164, Q_HI154_e4, Q_X5_, fun _ => rfl⟩
            refine steps_cons ?_ ?_
            · rintro b a w' ⟨v160, adz_v160, v163, adz_v163, m5_, m7_, ha, Q_HO157, Q_HI154, Q_HB, Q_HO161, Q_HA_HO161, Q_HO164, Q_HA_HO164, Q_HI154_e4, Q_X5_, Q_X7_⟩ hb_ hon hoff
              refine ⟨_, rfl, fun K hK => ?_⟩
              have e17 : a.tmps[17]? = some (m7_) := by rw [ha]; exact putSel_on (e := (7, 17, m7_)) 5 rfl rfl (hon 7 (by kernel_rfl)) rfl
              rw [Q_X7_ (hon 7 (by kernel_rfl))] at e17
              replace ha := Aside0.mk ha
              have HO157 := Aside0.mk Q_HO157
              have HB := Aside0.mk Q_HB
              have HO161 := Aside0.mk (Q_HO161 (hon 1 (by kernel_rfl)))
              have HA_HO161 := Aside0.mk (Q_HA_HO161 (hon 1 (by kernel_rfl)))
              have HO164 := Aside0.mk (Q_HO164 (hon 2 (by kernel_rfl)))
              have HA_HO164 := Aside0.mk (Q_HA_HO164 (hon 2 (by kernel_rfl)))
              have HI154 := Aside0.mk (Q_HI154_e4 (hon 4 (by kernel_rfl)))
              obtain ⟨c_, hv_⟩ := HA_HO161.out
              have hF_ := HO161.out
              rw [hv_] at hF_
              obtain ⟨ad_, ea_, hx_⟩ := Kd.at_int (Kd.R_reads' hF_).2.2 (rd y162 t165) (of_eq_true pi168) (of_eq_true qi168)
              cases ea_
              refine value_ (w1 := w') (v := .int .i64 (rd y159 (rd y162 t165))) (by rfl) rfl ?_ ?_
              · go_simp
                (try simp only [i64_w])
                try rfl
              refine hK.out _ _ ⟨v160, adz_v160, v163, adz_v163, m5_, m7_, (by rw [ha.out]; exact putSel_upk 6 hb_ rfl rfl rfl), Q_HO157, fun h0_ => absurd ((hon 4 (by kernel_rfl)).symm.trans h0_) (by decide), Q_HB, Q_HO161, Q_HA_HO161, Q_HO164, Q_HA_HO164, Q_HI154_e4, Q_X5_, Q_X7_⟩
            refine steps_cons ?_ ?_
            · rintro b a w' ⟨v160, adz_v160, v163, adz_v163, m5_, m7_, ha, Q_HO157, Q_HI154, Q_HB, Q_HO161, Q_HA_HO161, Q_HO164, Q_HA_HO164, Q_HI154_e4, Q_X5_, Q_X7_⟩ hb_ hon hoff
              refine ⟨_, rfl, fun K hK => ?_⟩
              have e10 : a.tmps[10]? = some (v156) := by rw [ha]; exact (putSel_off rfl).trans rfl
              replace ha := Aside0.mk ha
              have HO157 := Aside0.mk Q_HO157
              have HB := Aside0.mk Q_HB
              have HI154 := Aside0.mk (Q_HI154_e4 (hon 4 (by kernel_rfl)))
              refine value_ (w1 := w') (v := v156) (by rfl) rfl ?_ ?_
              · go_simp
                (try simp only [i64_w])
                try rfl
              refine hK.out _ _ ⟨v160, adz_v160, v163, adz_v163, m5_, m7_, (by rw [ha.out]; exact putSel_upk 7 hb_ rfl rfl rfl), Q_HO157, fun h0_ => absurd ((hon 4 (by kernel_rfl)).symm.trans h0_) (by decide), Q_HB, Q_HO161, Q_HA_HO161, Q_HO164, Q_HA_HO164, Q_HI154_e4, Q_X5_, Q_X7_⟩
            refine steps_cons ?_ ?_
            · rintro b a w' ⟨v160, adz_v160, v163, adz_v163, m5_, m7_, ha, Q_HO157, Q_HI154, Q_HB, Q_HO161, Q_HA_HO161, Q_HO164, Q_HA_HO164, Q_HI154_e4, Q_X5_, Q_X7_⟩ hb_ hon hoff
              refine ⟨_, rfl, fun K hK => ?_⟩
              have e18 : a.tmps[18]? = some (.int .i64 (rd y159 (rd y162 t165))) := by rw [ha]; exact putSel_on (e := (8, 18, .int .i64 (rd y159 (rd y162 t165)))) 6 rfl rfl (hon 8 (by kernel_rfl)) rfl
              replace ha := Aside0.mk ha
              have HO157 := Aside0.mk Q_HO157
              have HB := Aside0.mk Q_HB
              have HO161 := Aside0.mk (Q_HO161 (hon 1 (by kernel_rfl)))
              have HA_HO161 := Aside0.mk (Q_HA_HO161 (hon 1 (by kernel_rfl)))
              have HO164 := Aside0.mk (Q_HO164 (hon 2 (by kernel_rfl)))
              have HA_HO164 := Aside0.mk (Q_HA_HO164 (hon 2 (by kernel_rfl)))
              have HI154 := Aside0.mk (Q_HI154_e4 (hon 4 (by kernel_rfl)))
              refine value_ (w1 := w') (v := .int .i64 (rd y159 (rd y162 t165))) (by rfl) rfl ?_ ?_
              · go_simp
                (try simp only [i64_w])
                try rfl
              refine hK.out _ _ ⟨v160, adz_v160, v163, adz_v163, m5_, m7_, (by rw [ha.out]; exact putSel_upk 8 hb_ rfl rfl rfl), Q_HO157, fun h0_ => absurd ((hon 4 (by kernel_rfl)).symm.trans h0_) (by decide), Q_HB, Q_HO161, Q_HA_HO161, Q_HO164, Q_HA_HO164, Q_HI154_e4, Q_X5_, Q_X7_⟩
            exact steps_nil
          rintro b a w19 hall ⟨v160, adz_v160, v163, adz_v163, m5_, m7_, ha, Q_HO157, Q_HI154, Q_HB, Q_HO161, Q_HA_HO161, Q_HO164, Q_HA_HO164, Q_HI154_e4, Q_X5_, Q_X7_⟩
          clear HB HI154 HO157
          have hb1_ := hall 1 (by kernel_rfl)
          have hb2_ := hall 2 (by kernel_rfl)
          have hb4_ := hall 4 (by kernel_rfl)
          have hb5_ := hall 5 (by kernel_rfl)
          have hb6_ := hall 6 (by kernel_rfl)
          have hb7_ := hall 7 (by kernel_rfl)
          have hb8_ := hall 8 (by kernel_rfl)
          have hb9_ := hall 9 (by kernel_rfl)
          have hb10_ := hall 10 (by kernel_rfl)
          subst ha
          obtain rfl := Q_X5_ hb5_
          obtain rfl := Q_X7_ hb7_
          simp only [putSel, hb1_, hb2_, hb4_, hb5_, hb6_, hb7_, hb8_, hb9_, hb10_, if_true, Act.put, List.setIfInBounds_toArray, List.set_cons_zero, List.set_cons_succ]
          have HO157 := Aside0.mk Q_HO157
          clear Q_HO157
          clear Q_HI154
          have HB := Aside0.mk Q_HB
          clear Q_HB
          have HO161 := Aside0.mk (Q_HO161 hb1_)
          clear Q_HO161
          have HA_HO161 := Aside0.mk (Q_HA_HO161 hb1_)
          clear Q_HA_HO161
          have HO164 := Aside0.mk (Q_HO164 hb2_)
          clear Q_HO164
          have HA_HO164 := Aside0.mk (Q_HA_HO164 hb2_)
          clear Q_HA_HO164
          have HI154 := Aside0.mk (Q_HI154_e4 hb4_)
          clear Q_HI154_e4
          clear hall hb1_ hb2_ hb4_ hb5_ hb6_ hb7_ hb8_ hb9_ hb10_
          obtain ⟨co20, eo20⟩ := HA_HO161.out
          clear HA_HO161
          subst eo20
          obtain ⟨co21, eo21⟩ := HA_HO164.out
          clear HA_HO164
          subst eo21
          try go_wp2
          go_ret2
          exact ⟨_, by first | rfl | (simp [errW_none, errW_some] <;> rfl) | (simp [*, errW_none, errW_some] <;> rfl), by (with_reducible repeat (first | apply Kd.R_alloc | apply Kd.R_drewN | apply Kd.R_drew)); exact Kd.R_mono HO157.out (fun _ hk => trivial), by repeat (first | (with_reducible first | exact HB.out | apply below_alloc | apply pw_below_drewN | apply below_drew1 | refine below_set ?_ (IsS125.ge HI154.out)) | exact HB.out)⟩
        · rw [if_neg c8] at H
          exact absurd H (by simp)
      · rw [if_neg c7] at H
        exact absurd H (by simp)
    · rw [if_neg c6] at H
      exact absurd H (by simp)
  · rw [if_neg c5] at H
    exact absurd H (by simp)

/-! ### impl_in: function 74 -/
def impl_in.f (a0 : Int) (a1 : Int) (a2 : Int) : Option (Bool) := if a0 ≥ a1 then (some (decide (a0 ≤ a2))) else (some false)
set_option maxHeartbeats 8000000 in
set_option maxRecDepth 100000 in
theorem impl_in.calls (a0 : Int) (a1 : Int) (a2 : Int) (r : Bool) (w : World) (h : impl_in.f a0 a1 a2 = some r) :
    Calls Try.prog 74 #[.int .i64 a0, .int .i64 a1, .int .i64 a2] w fun e w' => e = .returned (.bool r) ∧ Drawn0 w w' := by
  have H : (if a0 ≥ a1 then (some (decide (a0 ≤ a2))) else (some false)) = some r := h
  clear h
  by_cases c4 : a0 ≥ a1
  · rw [if_pos c4] at H
    have c4b0 : decide (a1 ≤ a0) = true := decide_eq_true c4
    clear c4
    obtain rfl := Option.some.inj H
    go_enter Try.func74, Try.ntmps74
    go_wp2
    go_ret
    exact ⟨by first | rfl | (simp; done) | (simp [*]; done), by repeat (first | exact Drawn0.refl _ | apply Drawn0.step)⟩
  · rw [if_neg c4] at H
    have c4b0 : decide (a1 ≤ a0) = false := decide_eq_false c4
    clear c4
    obtain rfl := Option.some.inj H
    go_enter Try.func74, Try.ntmps74
    go_wp2
    go_ret
    exact ⟨by first | rfl | (simp; done) | (simp [*]; done), by repeat (first | exact Drawn0.refl _ | apply Drawn0.step)⟩

-- NOT PRINTED: function 109 (slices_IndexFunc_int_int)

-- NOT PRINTED: function 104 (slices_ContainsFunc_int_int)

/-! ### impl_areWords: function 92 (own) -/
/-! #### small words -/
def IdxPost {α : Type} (p : α → Bool) (l : List α) (e : Ending) : Prop := ∃ r : Int, e = .returned (.int .i64 r) ∧ (0 ≤ r ↔ l.any p = true)
theorem x_drawn_drew {w : World} {q q' : Nat} : (w.drewN q).drewN q' = w.drewN (q + q') := World.drewN_drewN ..
theorem C_int_cell {k : IntKind} {w : World} {A : Option Addr} {n : Nat} {l : List Int} (h : Kd.C (Kd.int k) w A n l) (i : Nat) (hi : i < n) : ∃ ad, A = some ad ∧ w.cell? (ad.add i) = some (.int k (l.getD i 0)) := by
  obtain ⟨ad, c, e, hl, hK, hc⟩ := Kd.C_get h (0 : Int) (i : Int) (by omega) (by omega)
  have hK' : c = [.int k (l.getD (i : Int).toNat 0)] := hK
  subst hK'
  have := hc 0 _ rfl
  rw [show (i : Int).toNat * (Kd.int k).sz + 0 = i from by show (i : Int).toNat * 1 + 0 = i; omega] at this
  exact ⟨ad, e, this⟩
theorem x_none {α : Type} (p : α → Bool) (l : List α) (d : α) (h : ∀ j, j < l.length → p (l.getD j d) = false) : l.any p = false := by
  rw [List.any_eq_false]
  intro x hx
  obtain ⟨j, hj, rfl⟩ := List.getElem_of_mem hx
  have := h j hj
  rw [List.getD_eq_getElem?_getD, List.getElem?_eq_getElem hj] at this
  simpa using this
theorem x_some {α : Type} (p : α → Bool) (l : List α) (d : α) (j : Nat) (hj : j < l.length) (h : p (l.getD j d) = true) : l.any p = true := by
  rw [List.any_eq_true]
  refine ⟨_, List.getElem_mem hj, ?_⟩
  rw [List.getD_eq_getElem?_getD, List.getElem?_eq_getElem hj] at h
  simpa using h

set_option maxHeartbeats 2000000 in
theorem IndexFunc_int (p : Int → Bool) (g : Nat) (lb : Array Value) (eg : ∀ args w, (callFunc g args).run Try.prog w = .ok (.enter g args) w) (A : Option Addr) (c : Nat) (l : List Int) (w : World)
    (hp : ∀ (x : Int) (q : Nat), Calls Try.prog g (#[.int .i64 x] ++ lb) (w.drewN q) fun e w' => e = .returned (.bool (p x)) ∧ ∃ q', w' = (w.drewN q).drewN q')
    (hr : Kd.C (Kd.int .i64) w A l.length l) (hc : l.length ≤ c) :
    Calls Try.prog 109 #[.slice A l.length c, .func (.func g) #[] lb] w fun e w' => IdxPost p l e ∧ Drawn0 w w' := by
  have HR := Aside0.mk hr
  have hmax := hr.2.1
  clear hr
  go_enter Try.func109, Try.ntmps109
  go_wp2
  go_loopg [5, 8] l.length (fun gg _ s8 wr => ∃ kk q : Nat, kk ≤ l.length ∧ l.length - kk ≤ gg ∧ s8 = .int .i64 kk ∧ wr = w.drewN q ∧ Aside (∀ j, j < kk → p (l.getD j 0) = false))
  case atStart => exact ⟨0, 0, Nat.zero_le _, by omega, rfl, rfl, fun j hj => absurd hj (Nat.not_lt_zero _)⟩
  case round =>
    obtain ⟨kk, q, hkk, hg, rfl, rfl, HA⟩ := hrel
    by_cases hlt : kk < l.length
    · have hltz : (kk : Int) < (l.length : Int) := by omega
      obtain ⟨ad, rfl, hcell⟩ := C_int_cell HR.out kk hlt
      generalize hy : l.getD kk 0 = y at hcell
      have B : Aside (l.getD kk 0 = y) := hy
      clear hy HR
      have hcall := hp y
      clear hp
      cases hq : p y with
      | true =>
        rw [hq] at hcall
        have Q := Aside0.mk hq
        clear hq
        go_wp2_with fail
        refine (hcall _).mono ?_
        rintro e w' ⟨rfl, q', rfl⟩
        go_wp2
        go_ret
        exact ⟨⟨kk, rfl, by simp [x_some p l 0 kk hlt (by rw [B.out]; exact Q.out)]⟩, ⟨⟨q + q', by first | rfl | rw [x_drawn_drew]⟩⟩⟩
      | false =>
        rw [hq] at hcall
        have Q := Aside0.mk hq
        clear hq
        go_wp2_with fail
        refine (hcall _).mono ?_
        rintro e w' ⟨rfl, q', rfl⟩
        go_wp2
        go_roundg (l.length - (kk + 1))
        case measure => omega
        case rel =>
          refine ⟨kk + 1, q + q', by omega, by omega, by go_num, by first | rfl | rw [x_drawn_drew], (show Aside _ from fun j hj => ?_)⟩
          by_cases e : j = kk
          · subst e
            rw [B.out]; exact Q.out
          · exact HA.out j (by omega)
    · have hltz : ¬ (kk : Int) < (l.length : Int) := by omega
      have : kk = l.length := by omega
      subst this
      go_wp2
      go_ret
      exact ⟨⟨-1, rfl, by simp [x_none p l 0 HA.out]⟩, ⟨⟨q, rfl⟩⟩⟩

/-- slices.ContainsFunc at []int. -/
theorem ContainsFunc_int (p : Int → Bool) (g : Nat) (lb : Array Value) (eg : ∀ args w, (callFunc g args).run Try.prog w = .ok (.enter g args) w) (A : Option Addr) (c : Nat) (l : List Int) (w : World)
    (hp : ∀ (x : Int) (q : Nat), Calls Try.prog g (#[.int .i64 x] ++ lb) (w.drewN q) fun e w' => e = .returned (.bool (p x)) ∧ ∃ q', w' = (w.drewN q).drewN q')
    (hr : Kd.C (Kd.int .i64) w A l.length l) (hc : l.length ≤ c) :
    Calls Try.prog 104 #[.slice A l.length c, .func (.func g) #[] lb] w fun e w' => e = .returned (.bool (l.any p)) ∧ Drawn0 w w' := by
  have H := IndexFunc_int p g lb eg A c l w hp hr hc
  clear hp hr hc eg
  go_enter Try.func104, Try.ntmps104
  go_wp2_with fail
  refine H.mono ?_
  rintro e w' ⟨⟨r, rfl, hq⟩, ⟨nd, rfl⟩⟩
  have Q := Aside0.mk hq
  clear hq
  go_wp2
  go_ret
  refine ⟨?_, ⟨⟨nd, rfl⟩⟩⟩
  have e : l.any p = decide (0 ≤ r) := by
    rw [Bool.eq_iff_iff, decide_eq_true_eq]
    exact Q.out.symm
  rw [e]
  rfl

theorem areWords_lit (x : Int) (w : World) : Calls Try.prog 105 (#[.int .i64 x] ++ #[]) w fun e w' => e = .returned (.bool (!decide (-32768 ≤ x ∧ x ≤ 32767))) ∧ ∃ q', w' = w.drewN q' := by
  have h88 : Calls Try.prog 75 #[.int .i64 x] w fun e w' => e = .returned (.bool (decide (-32768 ≤ x ∧ x ≤ 32767))) ∧ Drawn0 w w' := by
    have h59 : Calls Try.prog 74 #[.int .i64 x, .int .i64 (-32768), .int .i64 32767] w fun e w' => e = .returned (.bool (decide (-32768 ≤ x ∧ x ≤ 32767))) ∧ Drawn0 w w' := by
      by_cases c : -32768 ≤ x
      · have c1 : decide (-32768 ≤ x) = true := decide_eq_true c
        go_enter Try.func74, Try.ntmps74
        go_wp2
        go_ret
        exact ⟨by simp [c], Drawn0.refl _⟩
      · have c1 : decide (-32768 ≤ x) = false := decide_eq_false c
        go_enter Try.func74, Try.ntmps74
        go_wp2
        go_ret
        exact ⟨by simp [c], Drawn0.refl _⟩
    generalize decide (-32768 ≤ x ∧ x ≤ 32767) = b at h59 ⊢
    go_enter Try.func75, Try.ntmps75
    go_wp2_with fail
    refine h59.mono ?_
    rintro e w' ⟨rfl, ⟨nd, rfl⟩⟩
    go_wp2
    go_ret
    exact ⟨rfl, ⟨⟨nd, rfl⟩⟩⟩
  generalize decide (-32768 ≤ x ∧ x ≤ 32767) = b at h88 ⊢
  go_enter Try.func105, Try.ntmps105
  go_wp2_with fail
  refine h88.mono ?_
  rintro e w' ⟨rfl, ⟨nd, rfl⟩⟩
  go_wp2
  go_ret
  exact ⟨by first | rfl | (simp; done), nd, rfl⟩
def impl_areWords.f (l0 : List Int) : Option Bool := some (!(l0.any fun x => !decide (-32768 ≤ x ∧ x ≤ 32767)))
theorem impl_areWords.calls (A0 : Option Addr) (c0 : Nat) (l0 : List Int) (r : Bool) (w : World) (hr0 : Kd.C (Kd.int .i64) w A0 l0.length l0) (hc0 : l0.length ≤ c0) (h : impl_areWords.f l0 = some r) :
    Calls Try.prog 92 #[.slice A0 l0.length c0] w fun e w' => e = .returned (.bool r) ∧ Drawn0 w w' := by
  have H := ContainsFunc_int (fun x => !decide (-32768 ≤ x ∧ x ≤ 32767)) 105 #[] (Go.Proofs.enters_of Try.func105 (by kernel_rfl) rfl) A0 c0 l0 w (fun x q => areWords_lit x _) hr0 hc0
  obtain rfl := Option.some.inj h
  clear hr0 hc0
  generalize (l0.any fun x => !decide (-32768 ≤ x ∧ x ≤ 32767)) = b at H ⊢
  go_enter Try.func92, Try.ntmps92
  go_wp2_with fail
  refine H.mono ?_
  rintro e w' ⟨rfl, ⟨nd, rfl⟩⟩
  go_wp2
  go_ret
  exact ⟨by first | rfl | (simp; done), ⟨⟨nd, rfl⟩⟩⟩


/-! ### impl_LimitState: function 46 -/
mutual
def impl_LimitState.j0 : Nat → Int → Int → Int → Int → Int → Bool → Option (Int)
  | 0, _, _, _, _, _, _ => none
  | k + 1, x0, x1, x2, x3, x4, x11 => if x11 = true then (some 0) else (if x1 > x3 then (impl_LimitState.j1 k x0 x1 x2 x4 true) else (if x0 = 1 then (impl_LimitState.j1 k x0 x1 x2 x4 (decide (x1 > (wrap64 (x3 - x4))))) else (impl_LimitState.j1 k x0 x1 x2 x4 false)))
def impl_LimitState.j1 : Nat → Int → Int → Int → Int → Bool → Option (Int)
  | 0, _, _, _, _, _ => none
  | k + 1, x0, x1, x2, x4, x33 => if x33 = true then (some 1) else (if x1 < x2 then (some (-1)) else (if x0 = (-1) then (if x1 < (wrap64 (x2 + x4)) then (some (-1)) else (some 0)) else (some 0)))
end
def impl_LimitState.f (k : Nat) (a0 : Int) (a1 : Int) (a2 : Int) (a3 : Int) (a4 : Int) : Option (Int) := (impl_areWords.f (([a1, a2, a3] : List Int))).bind fun t172 => (if t172 = true then (if a2 > a3 then (impl_LimitState.j0 k a0 a1 a2 a3 a4 true) else ((impl_in.f a4 0 32767).bind fun t173 => (if t173 = true then ((impl_in.f a0 (-1) 1).bind fun t174 => (impl_LimitState.j0 k a0 a1 a2 a3 a4 (!t174))) else (impl_LimitState.j0 k a0 a1 a2 a3 a4 true)))) else (impl_LimitState.j0 k a0 a1 a2 a3 a4 true))
theorem impl_LimitState.mono_l : ∀ k, (∀ y0 y1 y2 y3 y4 y5, LeO (impl_LimitState.j0 k y0 y1 y2 y3 y4 y5) (impl_LimitState.j0 (k + 1) y0 y1 y2 y3 y4 y5)) ∧ (∀ y0 y1 y2 y3 y4, LeO (impl_LimitState.j1 k y0 y1 y2 y3 y4) (impl_LimitState.j1 (k + 1) y0 y1 y2 y3 y4))
  | 0 => ⟨fun _ _ _ _ _ _ r h => by simp [impl_LimitState.j0] at h, fun _ _ _ _ _ r h => by simp [impl_LimitState.j1] at h⟩
  | k + 1 => by
    obtain ⟨ih0, ih1⟩ := impl_LimitState.mono_l k
    refine ⟨?_, ?_⟩
    · intro y0 y1 y2 y3 y4 y5
      unfold impl_LimitState.j0
      repeat' first
      | (with_reducible exact ih0 _ _ _ _ _ _)
      | (with_reducible exact ih1 _ _ _ _ _)
      | (with_reducible exact LeO.refl _)
      | (with_reducible exact LeO.none _)
      | (with_reducible refine LeO.ite ?_ ?_)
      | (with_reducible refine LeO.bind ?_ (fun _ => ?_))
      | exact ih0 _ _ _ _ _ _
      | exact ih1 _ _ _ _ _
      | exact LeO.none _
      | refine LeO.ite ?_ ?_
      | refine LeO.bind ?_ (fun _ => ?_)
    · intro y0 y1 y2 y3 y4
      unfold impl_LimitState.j1
      repeat' first
      | (with_reducible exact ih0 _ _ _ _ _ _)
      | (with_reducible exact ih1 _ _ _ _ _)
      | (with_reducible exact LeO.refl _)
      | (with_reducible exact LeO.none _)
      | (with_reducible refine LeO.ite ?_ ?_)
      | (with_reducible refine LeO.bind ?_ (fun _ => ?_))
      | exact ih0 _ _ _ _ _ _
      | exact ih1 _ _ _ _ _
      | exact LeO.none _
      | refine LeO.ite ?_ ?_
      | refine LeO.bind ?_ (fun _ => ?_)
theorem impl_LimitState.mono : ∀ a0 a1 a2 a3 a4 k, LeO (impl_LimitState.f k a0 a1 a2 a3 a4) (impl_LimitState.f (k + 1) a0 a1 a2 a3 a4) := by
  intro a0 a1 a2 a3 a4 k
  obtain ⟨ih0, ih1⟩ := impl_LimitState.mono_l k
  unfold impl_LimitState.f
  repeat' first
      | (with_reducible exact ih0 _ _ _ _ _ _)
      | (with_reducible exact ih1 _ _ _ _ _)
      | (with_reducible exact LeO.refl _)
      | (with_reducible exact LeO.none _)
      | (with_reducible refine LeO.ite ?_ ?_)
      | (with_reducible refine LeO.bind ?_ (fun _ => ?_))
      | exact ih0 _ _ _ _ _ _
      | exact ih1 _ _ _ _ _
      | exact LeO.none _
      | refine LeO.ite ?_ ?_
      | refine LeO.bind ?_ (fun _ => ?_)
set_option maxHeartbeats 8000000 in
set_option maxRecDepth 100000 in
theorem impl_LimitState.calls (k : Nat) (a0 : Int) (a1 : Int) (a2 : Int) (a3 : Int) (a4 : Int) (r : Int) (w : World) (h : impl_LimitState.f k a0 a1 a2 a3 a4 = some r) :
    Calls Try.prog 46 #[.int .i64 a0, .int .i64 a1, .int .i64 a2, .int .i64 a3, .int .i64 a4] w fun e w' => e = .returned (.int .i64 r) ∧ Below w.heap.size w w' := by
  have HB := Aside0.mk (Below.refl w.heap.size w)
  have H : ((impl_areWords.f (([a1, a2, a3] : List Int))).bind fun t172 => (if t172 = true then (if a2 > a3 then (impl_LimitState.j0 k a0 a1 a2 a3 a4 true) else ((impl_in.f a4 0 32767).bind fun t173 => (if t173 = true then ((impl_in.f a0 (-1) 1).bind fun t174 => (impl_LimitState.j0 k a0 a1 a2 a3 a4 (!t174))) else (impl_LimitState.j0 k a0 a1 a2 a3 a4 true)))) else (impl_LimitState.j0 k a0 a1 a2 a3 a4 true))) = some r := h
  clear h
  have HC6 := Aside0.mk H
  clear H
  go_enter Try.func46, Try.ntmps46
  go_upto_region 1 with (fail)
  go_cut [11] (fun v11 wc => ∃ (kq : Nat) (x11_5 : Bool), v11 = .bool x11_5 ∧ Aside0 (impl_LimitState.j0 kq a0 a1 a2 a3 a4 x11_5 = some r) ∧ Aside0 (kq ≤ k) ∧ Aside0 (Below w.heap.size w wc))
  case first =>
    have H := HC6.out
    clear HC6
    obtain ⟨y169, hy169⟩ : ∃ y_ : List Int, y_ = (([a1, a2, a3] : List Int)) := ⟨_, rfl⟩
    replace H : ((impl_areWords.f y169).bind fun t172 => (if t172 = true then (if a2 > a3 then (impl_LimitState.j0 k a0 a1 a2 a3 a4 true) else ((impl_in.f a4 0 32767).bind fun t173 => (if t173 = true then ((impl_in.f a0 (-1) 1).bind fun t174 => (impl_LimitState.j0 k a0 a1 a2 a3 a4 (!t174))) else (impl_LimitState.j0 k a0 a1 a2 a3 a4 true)))) else (impl_LimitState.j0 k a0 a1 a2 a3 a4 true))) = some r := by first | (rw [hy169]; with_reducible exact H) | (have H2_ := (Option.bind_some _ _).symm.trans H; rw [hy169]; with_reducible exact H2_) | (have H2_ := (Option.bind_some _ _).symm.trans H; with_reducible exact H2_) | with_reducible exact H | (rw [hy169]; exact H) | exact H
    have Ny169 := Aside0.mk hy169
    clear hy169
    replace H := Option.bind_eq_some_iff.mp H
    obtain ⟨t172, A70, H⟩ := H
    replace H : (if t172 = true then (if a2 > a3 then (impl_LimitState.j0 k a0 a1 a2 a3 a4 true) else ((impl_in.f a4 0 32767).bind fun t173 => (if t173 = true then ((impl_in.f a0 (-1) 1).bind fun t174 => (impl_LimitState.j0 k a0 a1 a2 a3 a4 (!t174))) else (impl_LimitState.j0 k a0 a1 a2 a3 a4 true)))) else (impl_LimitState.j0 k a0 a1 a2 a3 a4 true)) = some r := H
    have A7 := Aside0.mk A70
    clear A70
    by_cases c8 : t172 = true
    · subst c8
      have H1 : (if a2 > a3 then (impl_LimitState.j0 k a0 a1 a2 a3 a4 true) else ((impl_in.f a4 0 32767).bind fun t173 => (if t173 = true then ((impl_in.f a0 (-1) 1).bind fun t174 => (impl_LimitState.j0 k a0 a1 a2 a3 a4 (!t174))) else (impl_LimitState.j0 k a0 a1 a2 a3 a4 true)))) = some r := by rw [if_pos rfl] at H; exact H
      clear H
      have H := H1
      clear H1
      by_cases c9 : a2 > a3
      · rw [if_pos c9] at H
        have c9b0 : decide (a3 < a2) = true := decide_eq_true c9
        clear c9
        (first | rw [c9b0] | (simp only [i64_w, i32_w]; rw [c9b0]) | skip)
        have H' := Aside0.mk H
        clear H
        go_wp2_with (first | ((with_reducible refine gate_dst (N := 15) rfl ?_); refine Kd.R_lit (Kd.int .i64) _ 3 ?hg (N := 15) ?hd (xs := ([a1, a2, a3] : List Int)) (inner := [.int .i64 a1, .int .i64 a2, .int .i64 a3]) (ok := fun _ => True) (okp := fun _ => True) ?hr ?hp (fun _ hk => hk) trivial (Below.refl _ _) (Nat.le_refl _) (by simp) ?_; (case hd => rfl); (case hg => rfl); (case hr => first | (go_simp; done) | (go_simp; rfl)); (case hp => exact (Reps.one (show Kd.M (Kd.int .i64) _ _ _ a1 [.int .i64 a1] from rfl) (Reps.one (show Kd.M (Kd.int .i64) _ _ _ a2 [.int .i64 a2] from rfl) (Reps.one (show Kd.M (Kd.int .i64) _ _ _ a3 [.int .i64 a3] from rfl) (Reps.none _ _))))); intro v170 w10 ho11 hb hg_ hnew_; clear hg_ hnew_; (first | rw [← Ny169.out] at ho11 | (simp only [Int.reduceToNat] at ho11; rw [← Ny169.out] at ho11)); have n0_ := Aside0.mk (Kd.R_lower ho11 (below_size (by repeat (first | (with_reducible first | exact HB.out | apply below_alloc | apply pw_below_drewN | apply below_drew1) | exact HB.out)))); have n1_ := Aside0.mk (below_step (by repeat (first | (with_reducible first | exact HB.out | apply below_alloc | apply pw_below_drewN | apply below_drew1) | exact HB.out)) hb); clear HB; have HO171 := n0_; have HB := n1_; clear n0_ n1_; clear hb ho11; obtain ⟨Ao12, co12, eo12⟩ := Kd.R_slice HO171.out; subst eo12) | ((with_reducible refine gate_callee (f := 92) rfl ?_); refine goesL_ (some 16) rfl rfl Try.func92 (by kernel_rfl) rfl #[.slice Ao12 y169.length co12] rfl (by (try simp only [List.map_toArray, List.map_cons, List.map_nil]); first | done | rfl | (simp only [List.length_drop, List.length_take]; rfl)) ?_; (with_reducible refine (impl_areWords.calls _ _ y169 true _ ?side1 ?side2 A7.out).mono ?_); (case side1 => repeat (first | exact (Kd.R_reads' HO171.out).2.2 | (with_reducible refine Kd.C_alloc ?_ _) | (with_reducible refine Kd.C_drewN ?_ _) | (with_reducible refine Kd.C_drew ?_))); (case side2 => exact (Kd.R_reads' HO171.out).2.1); rintro e w' ⟨rfl, ⟨nd, rfl⟩⟩; refine ⟨_, rfl, ?_⟩))
        go_meet
        case rel => exact ⟨_, (true), (by first | rfl | (simp; done) | (simp [*]; done)), H', ⟨by first | omega | exact Nat.le_refl _⟩, ⟨by repeat (first | (with_reducible first | exact HB.out | apply below_alloc | apply pw_below_drewN | apply below_drew1) | exact HB.out)⟩⟩
      · rw [if_neg c9] at H
        have c9b0 : decide (a3 < a2) = false := decide_eq_false c9
        clear c9
        (first | rw [c9b0] | (simp only [i64_w, i32_w]; rw [c9b0]) | skip)
        replace H := Option.bind_eq_some_iff.mp H
        obtain ⟨t173, A130, H⟩ := H
        replace H : (if t173 = true then ((impl_in.f a0 (-1) 1).bind fun t174 => (impl_LimitState.j0 k a0 a1 a2 a3 a4 (!t174))) else (impl_LimitState.j0 k a0 a1 a2 a3 a4 true)) = some r := H
        have A13 := Aside0.mk A130
        clear A130
        by_cases c14 : t173 = true
        · subst c14
          have H1 : ((impl_in.f a0 (-1) 1).bind fun t174 => (impl_LimitState.j0 k a0 a1 a2 a3 a4 (!t174))) = some r := by rw [if_pos rfl] at H; exact H
          clear H
          have H := H1
          clear H1
          replace H := Option.bind_eq_some_iff.mp H
          obtain ⟨t174, A150, H⟩ := H
          replace H : (impl_LimitState.j0 k a0 a1 a2 a3 a4 (!t174)) = some r := H
          have A15 := Aside0.mk A150
          clear A150
          have H' := Aside0.mk H
          clear H
          go_wp2_with (first | ((with_reducible refine gate_dst (N := 15) rfl ?_); refine Kd.R_lit (Kd.int .i64) _ 3 ?hg (N := 15) ?hd (xs := ([a1, a2, a3] : List Int)) (inner := [.int .i64 a1, .int .i64 a2, .int .i64 a3]) (ok := fun _ => True) (okp := fun _ => True) ?hr ?hp (fun _ hk => hk) trivial (Below.refl _ _) (Nat.le_refl _) (by simp) ?_; (case hd => rfl); (case hg => rfl); (case hr => first | (go_simp; done) | (go_simp; rfl)); (case hp => exact (Reps.one (show Kd.M (Kd.int .i64) _ _ _ a1 [.int .i64 a1] from rfl) (Reps.one (show Kd.M (Kd.int .i64) _ _ _ a2 [.int .i64 a2] from rfl) (Reps.one (show Kd.M (Kd.int .i64) _ _ _ a3 [.int .i64 a3] from rfl) (Reps.none _ _))))); intro v170 w16 ho17 hb hg_ hnew_; clear hg_ hnew_; (first | rw [← Ny169.out] at ho17 | (simp only [Int.reduceToNat] at ho17; rw [← Ny169.out] at ho17)); have n0_ := Aside0.mk (Kd.R_lower ho17 (below_size (by repeat (first | (with_reducible first | exact HB.out | apply below_alloc | apply pw_below_drewN | apply below_drew1) | exact HB.out)))); have n1_ := Aside0.mk (below_step (by repeat (first | (with_reducible first | exact HB.out | apply below_alloc | apply pw_below_drewN | apply below_drew1) | exact HB.out)) hb); clear HB; have HO171 := n0_; have HB := n1_; clear n0_ n1_; clear hb ho17; obtain ⟨Ao18, co18, eo18⟩ := Kd.R_slice HO171.out; subst eo18) | ((with_reducible refine gate_callee (f := 92) rfl ?_); refine goesL_ (some 16) rfl rfl Try.func92 (by kernel_rfl) rfl #[.slice Ao18 y169.length co18] rfl (by (try simp only [List.map_toArray, List.map_cons, List.map_nil]); first | done | rfl | (simp only [List.length_drop, List.length_take]; rfl)) ?_; (with_reducible refine (impl_areWords.calls _ _ y169 true _ ?side1 ?side2 A7.out).mono ?_); (case side1 => repeat (first | exact (Kd.R_reads' HO171.out).2.2 | (with_reducible refine Kd.C_alloc ?_ _) | (with_reducible refine Kd.C_drewN ?_ _) | (with_reducible refine Kd.C_drew ?_))); (case side2 => exact (Kd.R_reads' HO171.out).2.1); rintro e w' ⟨rfl, ⟨nd, rfl⟩⟩; refine ⟨_, rfl, ?_⟩) | (go_at_call 74; (with_reducible refine (impl_in.calls a4 0 32767 true _ A13.out).mono ?_); rintro e w' ⟨rfl, ⟨nd, rfl⟩⟩) | (go_at_call 74; (with_reducible refine (impl_in.calls a0 (-1) 1 t174 _ A15.out).mono ?_); rintro e w' ⟨rfl, ⟨nd, rfl⟩⟩))
          go_meet
          case rel => exact ⟨_, (!t174), (by first | rfl | (simp; done) | (simp [*]; done)), H', ⟨by first | omega | exact Nat.le_refl _⟩, ⟨by repeat (first | (with_reducible first | exact HB.out | apply below_alloc | apply pw_below_drewN | apply below_drew1) | exact HB.out)⟩⟩
        · replace c14 := Bool.eq_false_iff.mpr c14
          subst c14
          have H1 : (impl_LimitState.j0 k a0 a1 a2 a3 a4 true) = some r := by rw [if_neg (show ¬ (false = true) by decide)] at H; exact H
          clear H
          have H := H1
          clear H1
          have H' := Aside0.mk H
          clear H
          go_wp2_with (first | ((with_reducible refine gate_dst (N := 15) rfl ?_); refine Kd.R_lit (Kd.int .i64) _ 3 ?hg (N := 15) ?hd (xs := ([a1, a2, a3] : List Int)) (inner := [.int .i64 a1, .int .i64 a2, .int .i64 a3]) (ok := fun _ => True) (okp := fun _ => True) ?hr ?hp (fun _ hk => hk) trivial (Below.refl _ _) (Nat.le_refl _) (by simp) ?_; (case hd => rfl); (case hg => rfl); (case hr => first | (go_simp; done) | (go_simp; rfl)); (case hp => exact (Reps.one (show Kd.M (Kd.int .i64) _ _ _ a1 [.int .i64 a1] from rfl) (Reps.one (show Kd.M (Kd.int .i64) _ _ _ a2 [.int .i64 a2] from rfl) (Reps.one (show Kd.M (Kd.int .i64) _ _ _ a3 [.int .i64 a3] from rfl) (Reps.none _ _))))); intro v170 w19 ho20 hb hg_ hnew_; clear hg_ hnew_; (first | rw [← Ny169.out] at ho20 | (simp only [Int.reduceToNat] at ho20; rw [← Ny169.out] at ho20)); have n0_ := Aside0.mk (Kd.R_lower ho20 (below_size (by repeat (first | (with_reducible first | exact HB.out | apply below_alloc | apply pw_below_drewN | apply below_drew1) | exact HB.out)))); have n1_ := Aside0.mk (below_step (by repeat (first | (with_reducible first | exact HB.out | apply below_alloc | apply pw_below_drewN | apply below_drew1) | exact HB.out)) hb); clear HB; have HO171 := n0_; have HB := n1_; clear n0_ n1_; clear hb ho20; obtain ⟨Ao21, co21, eo21⟩ := Kd.R_slice HO171.out; subst eo21) | ((with_reducible refine gate_callee (f := 92) rfl ?_); refine goesL_ (some 16) rfl rfl Try.func92 (by kernel_rfl) rfl #[.slice Ao21 y169.length co21] rfl (by (try simp only [List.map_toArray, List.map_cons, List.map_nil]); first | done | rfl | (simp only [List.length_drop, List.length_take]; rfl)) ?_; (with_reducible refine (impl_areWords.calls _ _ y169 true _ ?side1 ?side2 A7.out).mono ?_); (case side1 => repeat (first | exact (Kd.R_reads' HO171.out).2.2 | (with_reducible refine Kd.C_alloc ?_ _) | (with_reducible refine Kd.C_drewN ?_ _) | (with_reducible refine Kd.C_drew ?_))); (case side2 => exact (Kd.R_reads' HO171.out).2.1); rintro e w' ⟨rfl, ⟨nd, rfl⟩⟩; refine ⟨_, rfl, ?_⟩) | (go_at_call 74; (with_reducible refine (impl_in.calls a4 0 32767 false _ A13.out).mono ?_); rintro e w' ⟨rfl, ⟨nd, rfl⟩⟩))
          go_meet
          case rel => exact ⟨_, (true), (by first | rfl | (simp; done) | (simp [*]; done)), H', ⟨by first | omega | exact Nat.le_refl _⟩, ⟨by repeat (first | (with_reducible first | exact HB.out | apply below_alloc | apply pw_below_drewN | apply below_drew1) | exact HB.out)⟩⟩
    · replace c8 := Bool.eq_false_iff.mpr c8
      subst c8
      have H1 : (impl_LimitState.j0 k a0 a1 a2 a3 a4 true) = some r := by rw [if_neg (show ¬ (false = true) by decide)] at H; exact H
      clear H
      have H := H1
      clear H1
      have H' := Aside0.mk H
      clear H
      go_wp2_with (first | ((with_reducible refine gate_dst (N := 15) rfl ?_); refine Kd.R_lit (Kd.int .i64) _ 3 ?hg (N := 15) ?hd (xs := ([a1, a2, a3] : List Int)) (inner := [.int .i64 a1, .int .i64 a2, .int .i64 a3]) (ok := fun _ => True) (okp := fun _ => True) ?hr ?hp (fun _ hk => hk) trivial (Below.refl _ _) (Nat.le_refl _) (by simp) ?_; (case hd => rfl); (case hg => rfl); (case hr => first | (go_simp; done) | (go_simp; rfl)); (case hp => exact (Reps.one (show Kd.M (Kd.int .i64) _ _ _ a1 [.int .i64 a1] from rfl) (Reps.one (show Kd.M (Kd.int .i64) _ _ _ a2 [.int .i64 a2] from rfl) (Reps.one (show Kd.M (Kd.int .i64) _ _ _ a3 [.int .i64 a3] from rfl) (Reps.none _ _))))); intro v170 w22 ho23 hb hg_ hnew_; clear hg_ hnew_; (first | rw [← Ny169.out] at ho23 | (simp only [Int.reduceToNat] at ho23; rw [← Ny169.out] at ho23)); have n0_ := Aside0.mk (Kd.R_lower ho23 (below_size (by repeat (first | (with_reducible first | exact HB.out | apply below_alloc | apply pw_below_drewN | apply below_drew1) | exact HB.out)))); have n1_ := Aside0.mk (below_step (by repeat (first | (with_reducible first | exact HB.out | apply below_alloc | apply pw_below_drewN | apply below_drew1) | exact HB.out)) hb); clear HB; have HO171 := n0_; have HB := n1_; clear n0_ n1_; clear hb ho23; obtain ⟨Ao24, co24, eo24⟩ := Kd.R_slice HO171.out; subst eo24) | ((with_reducible refine gate_callee (f := 92) rfl ?_); refine goesL_ (some 16) rfl rfl Try.func92 (by kernel_rfl) rfl #[.slice Ao24 y169.length co24] rfl (by (try simp only [List.map_toArray, List.map_cons, List.map_nil]); first | done | rfl | (simp only [List.length_drop, List.length_take]; rfl)) ?_; (with_reducible refine (impl_areWords.calls _ _ y169 false _ ?side1 ?side2 A7.out).mono ?_); (case side1 => repeat (first | exact (Kd.R_reads' HO171.out).2.2 | (with_reducible refine Kd.C_alloc ?_ _) | (with_reducible refine Kd.C_drewN ?_ _) | (with_reducible refine Kd.C_drew ?_))); (case side2 => exact (Kd.R_reads' HO171.out).2.1); rintro e w' ⟨rfl, ⟨nd, rfl⟩⟩; refine ⟨_, rfl, ?_⟩))
      go_meet
      case rel => exact ⟨_, (true), (by first | rfl | (simp; done) | (simp [*]; done)), H', ⟨by first | omega | exact Nat.le_refl _⟩, ⟨by repeat (first | (with_reducible first | exact HB.out | apply below_alloc | apply pw_below_drewN | apply below_drew1) | exact HB.out)⟩⟩
  case rest =>
    clear HC6
    try clear c1
    try clear p2
    try clear c4
    try clear c8
    try clear c9
    try clear c9b0
    try clear c14
    obtain ⟨kq, x11_5, rfl, HA, HJ5, HB⟩ := hcut
    cases kq with
    | zero => exact absurd HA.out (by simp [impl_LimitState.j0])
    | succ kj5 =>
      have H := HA.out
      clear HA
      simp only [impl_LimitState.j0] at H
      by_cases c25 : x11_5 = true
      · subst c25
        have H1 : (some 0) = some r := by rw [if_pos rfl] at H; exact H
        clear H
        have H := H1
        clear H1
        obtain rfl := Option.some.inj H
        go_wp2
        go_ret
        exact ⟨by first | rfl | (simp [errW_none, errW_some] <;> rfl) | (simp [*, errW_none, errW_some] <;> rfl), by repeat (first | (with_reducible first | exact HB.out | apply below_alloc | apply pw_below_drewN | apply below_drew1) | exact HB.out)⟩
      · replace c25 := Bool.eq_false_iff.mpr c25
        subst c25
        have H1 : (if a1 > a3 then (impl_LimitState.j1 kj5 a0 a1 a2 a4 true) else (if a0 = 1 then (impl_LimitState.j1 kj5 a0 a1 a2 a4 (decide (a1 > (wrap64 (a3 - a4))))) else (impl_LimitState.j1 kj5 a0 a1 a2 a4 false))) = some r := by rw [if_neg (show ¬ (false = true) by decide)] at H; exact H
        clear H
        have H := H1
        clear H1
        have HC26 := Aside0.mk H
        clear H
        go_upto_region 3 with (fail)
        go_cut [33] (fun v33 wc => ∃ (kq : Nat) (x33_25 : Bool), v33 = .bool x33_25 ∧ Aside0 (impl_LimitState.j1 kq a0 a1 a2 a4 x33_25 = some r) ∧ Aside0 (kq ≤ kj5) ∧ Aside0 (Below w.heap.size w wc))
        case first =>
          have H := HC26.out
          clear HC26
          by_cases c27 : a1 > a3
          · rw [if_pos c27] at H
            have c27b0 : decide (a3 < a1) = true := decide_eq_true c27
            clear c27
            (first | rw [c27b0] | (simp only [i64_w, i32_w]; rw [c27b0]) | skip)
            have H' := Aside0.mk H
            clear H
            go_wp2
            go_meet
            case rel => exact ⟨_, (true), (by first | rfl | (simp; done) | (simp [*]; done)), H', ⟨by have := HJ5.out; first | omega | exact Nat.le_refl _⟩, ⟨by repeat (first | (with_reducible first | exact HB.out | apply below_alloc | apply pw_below_drewN | apply below_drew1) | exact HB.out)⟩⟩
          · rw [if_neg c27] at H
            have c27b0 : decide (a3 < a1) = false := decide_eq_false c27
            clear c27
            (first | rw [c27b0] | (simp only [i64_w, i32_w]; rw [c27b0]) | skip)
            by_cases c28 : a0 = 1
            · rw [if_pos c28] at H
              have c28b0 : (a0 == 1) = true := beq_iff_eq.mpr c28
              have c28b1 : (a0 != 1) = false := bne_eq_false_iff_eq.mpr c28
              clear c28
              have H' := Aside0.mk H
              clear H
              go_wp2
              go_meet
              case rel => exact ⟨_, (decide (a1 > (wrap64 (a3 - a4)))), (by first | rfl | (simp; done) | (simp [*]; done)), H', ⟨by have := HJ5.out; first | omega | exact Nat.le_refl _⟩, ⟨by repeat (first | (with_reducible first | exact HB.out | apply below_alloc | apply pw_below_drewN | apply below_drew1) | exact HB.out)⟩⟩
            · rw [if_neg c28] at H
              have c28b0 : (a0 == 1) = false := beq_eq_false_iff_ne.mpr c28
              have c28b1 : (a0 != 1) = true := bne_iff_ne.mpr c28
              have H' := Aside0.mk H
              clear H
              go_wp2
              go_meet
              case rel => exact ⟨_, (false), (by first | rfl | (simp; done) | (simp [*]; done)), H', ⟨by have := HJ5.out; first | omega | exact Nat.le_refl _⟩, ⟨by repeat (first | (with_reducible first | exact HB.out | apply below_alloc | apply pw_below_drewN | apply below_drew1) | exact HB.out)⟩⟩
        case rest =>
          clear HC26
          try clear c1
          try clear c2
          try clear p2
          try clear c4
          try clear p6
          try clear c8
          try clear c9
          try clear c9b0
          try clear c14
          try clear c25
          try clear c27
          try clear c27b0
          try clear c28
          try clear c28b0
          try clear c28b1
          try clear p2
          obtain ⟨kq, x33_25, rfl, HA, HJ25, HB⟩ := hcut
          cases kq with
          | zero => exact absurd HA.out (by simp [impl_LimitState.j1])
          | succ kj25 =>
            have H := HA.out
            clear HA
            simp only [impl_LimitState.j1] at H
            by_cases c29 : x33_25 = true
            · subst c29
              have H1 : (some 1) = some r := by rw [if_pos rfl] at H; exact H
              clear H
              have H := H1
              clear H1
              obtain rfl := Option.some.inj H
              go_wp2
              go_ret
              exact ⟨by first | rfl | (simp [errW_none, errW_some] <;> rfl) | (simp [*, errW_none, errW_some] <;> rfl), by repeat (first | (with_reducible first | exact HB.out | apply below_alloc | apply pw_below_drewN | apply below_drew1) | exact HB.out)⟩
            · replace c29 := Bool.eq_false_iff.mpr c29
              subst c29
              have H1 : (if a1 < a2 then (some (-1)) else (if a0 = (-1) then (if a1 < (wrap64 (a2 + a4)) then (some (-1)) else (some 0)) else (some 0))) = some r := by rw [if_neg (show ¬ (false = true) by decide)] at H; exact H
              clear H
              have H := H1
              clear H1
              by_cases c30 : a1 < a2
              · rw [if_pos c30] at H
                have c30b0 : decide (a1 < a2) = true := decide_eq_true c30
                clear c30
                obtain rfl := Option.some.inj H
                go_wp2
                go_ret
                exact ⟨by first | rfl | (simp [errW_none, errW_some] <;> rfl) | (simp [*, errW_none, errW_some] <;> rfl), by repeat (first | (with_reducible first | exact HB.out | apply below_alloc | apply pw_below_drewN | apply below_drew1) | exact HB.out)⟩
              · rw [if_neg c30] at H
                have c30b0 : decide (a1 < a2) = false := decide_eq_false c30
                clear c30
                by_cases c31 : a0 = (-1)
                · rw [if_pos c31] at H
                  have c31b0 : (a0 == (-1)) = true := beq_iff_eq.mpr c31
                  have c31b1 : (a0 != (-1)) = false := bne_eq_false_iff_eq.mpr c31
                  clear c31
                  by_cases c32 : a1 < (wrap64 (a2 + a4))
                  · rw [if_pos c32] at H
                    have c32b0 : decide (a1 < (wrap64 (a2 + a4))) = true := decide_eq_true c32
                    clear c32
                    obtain rfl := Option.some.inj H
                    go_wp2
                    go_ret
                    exact ⟨by first | rfl | (simp [errW_none, errW_some] <;> rfl) | (simp [*, errW_none, errW_some] <;> rfl), by repeat (first | (with_reducible first | exact HB.out | apply below_alloc | apply pw_below_drewN | apply below_drew1) | exact HB.out)⟩
                  · rw [if_neg c32] at H
                    have c32b0 : decide (a1 < (wrap64 (a2 + a4))) = false := decide_eq_false c32
                    clear c32
                    obtain rfl := Option.some.inj H
                    go_wp2
                    go_ret
                    exact ⟨by first | rfl | (simp [errW_none, errW_some] <;> rfl) | (simp [*, errW_none, errW_some] <;> rfl), by repeat (first | (with_reducible first | exact HB.out | apply below_alloc | apply pw_below_drewN | apply below_drew1) | exact HB.out)⟩
                · rw [if_neg c31] at H
                  have c31b0 : (a0 == (-1)) = false := beq_eq_false_iff_ne.mpr c31
                  have c31b1 : (a0 != (-1)) = true := bne_iff_ne.mpr c31
                  obtain rfl := Option.some.inj H
                  go_wp2
                  go_ret
                  exact ⟨by first | rfl | (simp [errW_none, errW_some] <;> rfl) | (simp [*, errW_none, errW_some] <;> rfl), by repeat (first | (with_reducible first | exact HB.out | apply below_alloc | apply pw_below_drewN | apply below_drew1) | exact HB.out)⟩

/-! ### laws_clip: function 47 -/
def laws_clip.f (a0 : Int) : Option (Int) := some (mx (-32768) (mn 32767 a0))
set_option maxHeartbeats 8000000 in
set_option maxRecDepth 100000 in
theorem laws_clip.calls (a0 : Int) (r : Int) (w : World) (h : laws_clip.f a0 = some r) :
    Calls Try.prog 47 #[.int .i64 a0] w fun e w' => e = .returned (.int .i64 r) ∧ Below w.heap.size w w' := by
  have HB := Aside0.mk (Below.refl w.heap.size w)
  have H : (some (mx (-32768) (mn 32767 a0))) = some r := h
  clear h
  obtain ⟨ji2, hji2⟩ : ∃ j_ : Int, (mn 32767 a0) = j_ := ⟨_, rfl⟩
  replace H : (some (mx (-32768) (ji2))) = some r := by first | (rw [hji2] at H; exact H) | (simp only [hji2] at H ⊢; exact H)
  (try (have hji2h : ji2 ≤ 32767 := by (rw [← hji2]; unfold mn; (repeat' split) <;> omega)))
  (try (have hji2g : ji2 ≤ 64 := by omega))
  have hji2_ : (if a0 < 32767 then a0 else 32767) = ji2 := hji2
  obtain ⟨ji3, hji3⟩ : ∃ j_ : Int, (mx (-32768) (ji2)) = j_ := ⟨_, rfl⟩
  replace H : (some ji3) = some r := by first | (rw [hji3] at H; exact H) | (simp only [hji3] at H ⊢; exact H)
  have hji3_ : (if (-32768) < (ji2) then (ji2) else (-32768)) = ji3 := hji3
  obtain rfl := Option.some.inj H
  go_enter Try.func47, Try.ntmps47
  go_wp2
  go_ret
  exact ⟨by first | rfl | (simp [errW_none, errW_some] <;> rfl) | (simp only [← hji2, ← hji3]; first | rfl | (simp [errW_none, errW_some] <;> rfl)) | (simp [*, errW_none, errW_some] <;> rfl), by repeat (first | (with_reducible first | exact HB.out | apply below_alloc | apply pw_below_drewN | apply below_drew1) | exact HB.out)⟩

end Go.Proofs.Ythbbhdadioiefaa.QFnAlarmLimit
