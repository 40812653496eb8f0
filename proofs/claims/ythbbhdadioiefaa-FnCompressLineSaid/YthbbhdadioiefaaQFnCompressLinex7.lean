-- Written by wip/pr2.py: a program of this session's own, which runs the kit's print over contracts of its own.
import Derived.Test.YthbbhdadioiefaaQFnCompressLinex0
import Derived.Test.YthbbhdadioiefaaQFnCompressLinex6
namespace Go.Proofs.Ythbbhdadioiefaa.QFnCompressLine
open Go.RowKit Go.Proofs.YthbbhdadioiefaaW.PrintWords Go.Proofs.YthbbhdadioiefaaW.PrintLast Go.Proofs.YthbbhdadioiefaaW.PrintMore
attribute [local go_sem] max2_int min2_int max_two min_two max_three min_three max_four min_four   -- for this text's walks alone
set_option linter.unusedVariables false
set_option linter.unusedSimpArgs false

/-! ### spec_l20Word: function 102 -/
def spec_l20Word.f (k : Nat) (s0_0 : List Int) (s0_1 : Int) (a1 : Int) : Option (Int × Int) := (spec_l20Rd_odd.f k s0_0 s0_1 a1).bind fun bt194 => (if bt194.1 = true then ((some (([32768, (-32769)] : List Int) : List Int)).bind fun y196 => ((spec_l20Rd_pick.f k s0_0 bt194.2 2).bind fun bt199 => (if 0 ≤ bt199.1 then (if bt199.1 < (y196.length : Int) then (some (rd y196 bt199.1, bt199.2)) else (none)) else (none)))) else ((spec_l20Rd_pick.f k s0_0 bt194.2 21).bind fun bt202 => ((spec_l20Rd_pick.f k s0_0 bt202.2 256).bind fun bt204 => ((spec_l20Rd_pick.f k s0_0 bt204.2 256).bind fun bt206 => ((spec_l20Rd_pick.f k s0_0 bt206.2 400).bind fun bt208 => ((some (([wrap64 (bt202.1 - 10), wrap64 ((wrap64 ((wrap64 (bt204.1 * 256)) + bt206.1)) - 32768), 32767, (-32768), wrap64 (bt208.1 - 200)] : List Int) : List Int)).bind fun y210 => ((some (([0, 0, 1, 2, 3, 4, 4] : List Int) : List Int)).bind fun y213 => ((spec_l20Rd_pick.f k s0_0 bt208.2 7).bind fun bt216 => (if 0 ≤ bt216.1 then (if bt216.1 < (y213.length : Int) then (if 0 ≤ (rd y213 bt216.1) then (if (rd y213 bt216.1) < (y210.length : Int) then (some (rd y210 (rd y213 bt216.1), bt216.2)) else (none)) else (none)) else (none)) else (none))))))))))
theorem spec_l20Word.mono : ∀ a0 a1 a2 k, LeO (spec_l20Word.f k a0 a1 a2) (spec_l20Word.f (k + 1) a0 a1 a2) := by
  intro a0 a1 a2 k
  unfold spec_l20Word.f
  repeat' first
      | (with_reducible exact spec_l20Rd_odd.mono _ _ _ _)
      | (with_reducible exact spec_l20Rd_pick.mono _ _ _ _)
      | (with_reducible exact LeO.refl _)
      | (with_reducible exact LeO.none _)
      | (with_reducible refine LeO.ite ?_ ?_)
      | (with_reducible refine LeO.bind ?_ (fun _ => ?_))
      | exact spec_l20Rd_odd.mono _ _ _ _
      | exact spec_l20Rd_pick.mono _ _ _ _
      | exact LeO.none _
      | refine LeO.ite ?_ ?_
      | refine LeO.bind ?_ (fun _ => ?_)
set_option maxHeartbeats 8000000 in
set_option maxRecDepth 100000 in
theorem spec_l20Word.calls (k : Nat) (g : Nat) (s0_0 : List Int) (s0_1 : Int) (a1 : Int) (r1 : Int) (r2 : Int) (w0 w : World) (hI : IsS125 w0 w g s0_0 s0_1) (hB : Below w0.heap.size w0 w) (h : spec_l20Word.f k s0_0 s0_1 a1 = some (r1, r2)) :
    Calls Try.prog 102 #[.pointer (some ⟨g, 0, none⟩), .int .i64 a1] w fun e w' => e = .returned (.int .i64 r1) ∧ IsS125 w0 w' g s0_0 r2 ∧ Below w0.heap.size w0 w' ∧ KeepBut w w' g none := by
  have HI0 := Aside0.mk hI
  have HK := Aside0.mk (KeepBut.refl w g none)
  have HL := Aside0.mk hB.size
  clear hI
  have HW0 := Aside0.mk hB.size
  have HB := Aside0.mk hB
  clear hB
  have H : ((spec_l20Rd_odd.f k s0_0 s0_1 a1).bind fun bt194 => (if bt194.1 = true then ((some (([32768, (-32769)] : List Int) : List Int)).bind fun y196 => ((spec_l20Rd_pick.f k s0_0 bt194.2 2).bind fun bt199 => (if 0 ≤ bt199.1 then (if bt199.1 < (y196.length : Int) then (some (rd y196 bt199.1, bt199.2)) else (none)) else (none)))) else ((spec_l20Rd_pick.f k s0_0 bt194.2 21).bind fun bt202 => ((spec_l20Rd_pick.f k s0_0 bt202.2 256).bind fun bt204 => ((spec_l20Rd_pick.f k s0_0 bt204.2 256).bind fun bt206 => ((spec_l20Rd_pick.f k s0_0 bt206.2 400).bind fun bt208 => ((some (([wrap64 (bt202.1 - 10), wrap64 ((wrap64 ((wrap64 (bt204.1 * 256)) + bt206.1)) - 32768), 32767, (-32768), wrap64 (bt208.1 - 200)] : List Int) : List Int)).bind fun y210 => ((some (([0, 0, 1, 2, 3, 4, 4] : List Int) : List Int)).bind fun y213 => ((spec_l20Rd_pick.f k s0_0 bt208.2 7).bind fun bt216 => (if 0 ≤ bt216.1 then (if bt216.1 < (y213.length : Int) then (if 0 ≤ (rd y213 bt216.1) then (if (rd y213 bt216.1) < (y210.length : Int) then (some (rd y210 (rd y213 bt216.1), bt216.2)) else (none)) else (none)) else (none)) else (none))))))))))) = some (r1, r2) := h
  clear h
  replace H := Option.bind_eq_some_iff.mp H
  obtain ⟨⟨t194, t195⟩, A30, H⟩ := H
  replace H : (if t194 = true then ((some (([32768, (-32769)] : List Int) : List Int)).bind fun y196 => ((spec_l20Rd_pick.f k s0_0 t195 2).bind fun bt199 => (if 0 ≤ bt199.1 then (if bt199.1 < (y196.length : Int) then (some (rd y196 bt199.1, bt199.2)) else (none)) else (none)))) else ((spec_l20Rd_pick.f k s0_0 t195 21).bind fun bt202 => ((spec_l20Rd_pick.f k s0_0 bt202.2 256).bind fun bt204 => ((spec_l20Rd_pick.f k s0_0 bt204.2 256).bind fun bt206 => ((spec_l20Rd_pick.f k s0_0 bt206.2 400).bind fun bt208 => ((some (([wrap64 (bt202.1 - 10), wrap64 ((wrap64 ((wrap64 (bt204.1 * 256)) + bt206.1)) - 32768), 32767, (-32768), wrap64 (bt208.1 - 200)] : List Int) : List Int)).bind fun y210 => ((some (([0, 0, 1, 2, 3, 4, 4] : List Int) : List Int)).bind fun y213 => ((spec_l20Rd_pick.f k s0_0 bt208.2 7).bind fun bt216 => (if 0 ≤ bt216.1 then (if bt216.1 < (y213.length : Int) then (if 0 ≤ (rd y213 bt216.1) then (if (rd y213 bt216.1) < (y210.length : Int) then (some (rd y210 (rd y213 bt216.1), bt216.2)) else (none)) else (none)) else (none)) else (none)))))))))) = some (r1, r2) := H
  have A3 := Aside0.mk A30
  clear A30
  by_cases c4 : t194 = true
  · subst c4
    have H1 : ((some (([32768, (-32769)] : List Int) : List Int)).bind fun y196 => ((spec_l20Rd_pick.f k s0_0 t195 2).bind fun bt199 => (if 0 ≤ bt199.1 then (if bt199.1 < (y196.length : Int) then (some (rd y196 bt199.1, bt199.2)) else (none)) else (none)))) = some (r1, r2) := by rw [if_pos rfl] at H; exact H
    clear H
    have H := H1
    clear H1
    obtain ⟨y196, hy196⟩ : ∃ y_ : List Int, y_ = (([32768, (-32769)] : List Int)) := ⟨_, rfl⟩
    replace H : ((spec_l20Rd_pick.f k s0_0 t195 2).bind fun bt199 => (if 0 ≤ bt199.1 then (if bt199.1 < (y196.length : Int) then (some (rd y196 bt199.1, bt199.2)) else (none)) else (none))) = some (r1, r2) := by first | (rw [hy196]; with_reducible exact H) | (have H2_ := (Option.bind_some _ _).symm.trans H; rw [hy196]; with_reducible exact H2_) | (have H2_ := (Option.bind_some _ _).symm.trans H; with_reducible exact H2_) | with_reducible exact H | (rw [hy196]; exact H) | exact H
    have Ny196 := Aside0.mk hy196
    clear hy196
    replace H := Option.bind_eq_some_iff.mp H
    obtain ⟨⟨t199, t200⟩, A50, H⟩ := H
    replace H : (if 0 ≤ t199 then (if t199 < (y196.length : Int) then (some (rd y196 t199, t200)) else (none)) else (none)) = some (r1, r2) := H
    have A5 := Aside0.mk A50
    clear A50
    by_cases c6 : 0 ≤ t199
    · rw [if_pos c6] at H
      have c6b0 : decide (0 ≤ t199) = true := decide_eq_true c6
      clear c6
      by_cases c7 : t199 < (y196.length : Int)
      · rw [if_pos c7] at H
        have c7b0 : decide (t199 < (y196.length : Int)) = true := decide_eq_true c7
        clear c7
        simp only [Option.some.injEq, Prod.mk.injEq] at H
        obtain ⟨rfl, rfl⟩ := H
        go_enter Try.func102, Try.ntmps102
        go_wp2_with (first | ((with_reducible refine gate_callee (f := 103) rfl ?_); refine goesL_ (some 7) rfl rfl Try.func103 (by kernel_rfl) rfl #[.pointer (some ⟨g, 0, none⟩), .int .i64 a1] rfl (by (try simp only [List.map_toArray, List.map_cons, List.map_nil]); first | done | rfl | (simp only [List.length_drop, List.length_take]; rfl)) ?_; (with_reducible refine (spec_l20Rd_odd.calls k g s0_0 s0_1 a1 true t195 w0 _ ?side1 ?side2 A3.out).mono ?_); (case side1 => repeat (first | (with_reducible first | exact HI0.out | apply IsS125.alloc | apply IsS125.drewN | apply IsS125.drew | apply IsS125.set_1) | exact HI0.out)); (case side2 => repeat (first | (with_reducible first | exact HB.out | apply below_alloc | apply pw_below_drewN | apply below_drew1 | refine below_set ?_ (IsS125.ge HI0.out)) | exact HB.out)); rintro e w8 ⟨rfl, hi, hb, hk⟩; refine ⟨_, rfl, ?_⟩; have n0_ := Aside0.mk (KeepBut.trans (by repeat (first | (with_reducible first | exact HK.out | apply KeepBut.set_ | apply keep_drewN | apply keep_drew | apply keep_alloc) | exact HK.out)) hk (.inl rfl)); have n1_ := Aside0.mk (hb); have n2_ := Aside0.mk (hi); clear HK; clear HB; clear HI0; have HK := n0_; have HB := n1_; have HI0 := n2_; clear n0_ n1_ n2_; (try clear hb); (try clear hb2); (try clear hk); (try clear hi)) | ((with_reducible refine gate_dst (N := 8) rfl ?_); refine Kd.R_lit (Kd.int .i64) _ 3 ?hg (N := 8) ?hd (xs := ([32768, (-32769)] : List Int)) (inner := [.int .i64 32768, .int .i64 (-32769)]) (ok := fun _ => True) (okp := fun _ => True) ?hr ?hp (fun _ hk => hk) trivial (Below.refl _ _) (Nat.le_refl _) (by simp) ?_; (case hd => rfl); (case hg => rfl); (case hr => first | (go_simp; done) | (go_simp; rfl)); (case hp => exact (Reps.one (show Kd.M (Kd.int .i64) _ _ _ 32768 [.int .i64 32768] from rfl) (Reps.one (show Kd.M (Kd.int .i64) _ _ _ (-32769) [.int .i64 (-32769)] from rfl) (Reps.none _ _)))); intro v197 w9 ho10 hb hg_ hnew_; clear hg_ hnew_; (first | rw [← Ny196.out] at ho10 | (simp only [Int.reduceToNat] at ho10; rw [← Ny196.out] at ho10)); have n0_ := Aside0.mk (Kd.R_lower ho10 (keep_size (w := w) (g := g) (row := none) (by repeat (first | (with_reducible first | exact HK.out | apply KeepBut.set_ | apply keep_drewN | apply keep_drew | apply keep_alloc) | exact HK.out)))); have n1_ := Aside0.mk (IsS125.below (by repeat (first | (with_reducible first | exact HI0.out | apply IsS125.alloc | apply IsS125.drewN | apply IsS125.drew | apply IsS125.set_1) | exact HI0.out)) hb); have n2_ := Aside0.mk (KeepBut.trans (by repeat (first | (with_reducible first | exact HK.out | apply KeepBut.set_ | apply keep_drewN | apply keep_drew | apply keep_alloc) | exact HK.out)) (KeepBut.of_below hb g none) (.inl rfl)); have n3_ := Aside0.mk (below_step (by repeat (first | (with_reducible first | exact HB.out | apply below_alloc | apply pw_below_drewN | apply below_drew1 | refine below_set ?_ (IsS125.ge HI0.out)) | exact HB.out)) hb); clear HI0; clear HK; clear HB; have HO198 := n0_; have HI0 := n1_; have HK := n2_; have HB := n3_; clear n0_ n1_ n2_ n3_; clear hb ho10) | ((with_reducible refine gate_callee (f := 91) rfl ?_); refine goesL_ (some 10) rfl rfl Try.func91 (by kernel_rfl) rfl #[.pointer (some ⟨g, 0, none⟩), .int .i64 2] rfl (by (try simp only [List.map_toArray, List.map_cons, List.map_nil]); first | done | rfl | (simp only [List.length_drop, List.length_take]; rfl)) ?_; (with_reducible refine (spec_l20Rd_pick.calls k g s0_0 t195 2 t199 t200 w0 _ ?side1 ?side2 A5.out).mono ?_); (case side1 => repeat (first | (with_reducible first | exact HI0.out | apply IsS125.alloc | apply IsS125.drewN | apply IsS125.drew | apply IsS125.set_1) | exact HI0.out)); (case side2 => repeat (first | (with_reducible first | exact HB.out | apply below_alloc | apply pw_below_drewN | apply below_drew1 | refine below_set ?_ (IsS125.ge HI0.out)) | exact HB.out)); rintro e w11 ⟨rfl, hi, hb, hk⟩; refine ⟨_, rfl, ?_⟩; have n0_ := Aside0.mk (Kd.R_mono (Kd.R_keep (IsS125.apart (show IsS125 w0 _ g s0_0 t195 from by repeat (first | (with_reducible first | exact HI0.out | apply IsS125.alloc | apply IsS125.drewN | apply IsS125.drew | apply IsS125.set_1) | exact HI0.out)) (by (with_reducible repeat (first | apply Kd.R_alloc | apply Kd.R_drewN | apply Kd.R_drew)); exact HO198.out) (by decide)) hk (fun _ h => h.2)) (fun _ h => h.1)); have n1_ := Aside0.mk (KeepBut.trans (by repeat (first | (with_reducible first | exact HK.out | apply KeepBut.set_ | apply keep_drewN | apply keep_drew | apply keep_alloc) | exact HK.out)) hk (.inl rfl)); have n2_ := Aside0.mk (hb); have n3_ := Aside0.mk (hi); clear HO198; clear HK; clear HB; clear HI0; have HO198 := n0_; have HK := n1_; have HB := n2_; have HI0 := n3_; clear n0_ n1_ n2_ n3_; (try clear hb); (try clear hb2); (try clear hk); (try clear hi); obtain ⟨Ao12, co12, eo12⟩ := Kd.R_slice HO198.out; subst eo12; have p201 : 0 ≤ (t199 : Int) := of_decide_eq_true (by first | (with_reducible assumption) | assumption); have q201 : t199 < (y196.length : Int) := of_decide_eq_true (by first | (with_reducible assumption) | assumption); obtain ⟨ad201, e201, hx201_0⟩ := Kd.at_int (Kd.R_reads' HO198.out).2.2 t199 p201 q201; cases e201; replace p201 := eq_true p201; replace q201 := eq_true q201))
        go_ret
        exact ⟨by first | rfl | (simp [errW_none, errW_some] <;> rfl) | (simp [*, errW_none, errW_some] <;> rfl), by repeat (first | (with_reducible first | exact HI0.out | apply IsS125.alloc | apply IsS125.drewN | apply IsS125.drew | apply IsS125.set_1) | exact HI0.out), by repeat (first | (with_reducible first | exact HB.out | apply below_alloc | apply pw_below_drewN | apply below_drew1 | refine below_set ?_ (IsS125.ge HI0.out)) | exact HB.out), by repeat (first | (with_reducible first | exact HK.out | apply KeepBut.set_ | apply keep_drewN | apply keep_drew | apply keep_alloc) | exact HK.out)⟩
      · rw [if_neg c7] at H
        exact absurd H (by simp)
    · rw [if_neg c6] at H
      exact absurd H (by simp)
  · replace c4 := Bool.eq_false_iff.mpr c4
    subst c4
    have H1 : ((spec_l20Rd_pick.f k s0_0 t195 21).bind fun bt202 => ((spec_l20Rd_pick.f k s0_0 bt202.2 256).bind fun bt204 => ((spec_l20Rd_pick.f k s0_0 bt204.2 256).bind fun bt206 => ((spec_l20Rd_pick.f k s0_0 bt206.2 400).bind fun bt208 => ((some (([wrap64 (bt202.1 - 10), wrap64 ((wrap64 ((wrap64 (bt204.1 * 256)) + bt206.1)) - 32768), 32767, (-32768), wrap64 (bt208.1 - 200)] : List Int) : List Int)).bind fun y210 => ((some (([0, 0, 1, 2, 3, 4, 4] : List Int) : List Int)).bind fun y213 => ((spec_l20Rd_pick.f k s0_0 bt208.2 7).bind fun bt216 => (if 0 ≤ bt216.1 then (if bt216.1 < (y213.length : Int) then (if 0 ≤ (rd y213 bt216.1) then (if (rd y213 bt216.1) < (y210.length : Int) then (some (rd y210 (rd y213 bt216.1), bt216.2)) else (none)) else (none)) else (none)) else (none))))))))) = some (r1, r2) := by rw [if_neg (show ¬ (false = true) by decide)] at H; exact H
    clear H
    have H := H1
    clear H1
    replace H := Option.bind_eq_some_iff.mp H
    obtain ⟨⟨t202, t203⟩, A130, H⟩ := H
    replace H : ((spec_l20Rd_pick.f k s0_0 t203 256).bind fun bt204 => ((spec_l20Rd_pick.f k s0_0 bt204.2 256).bind fun bt206 => ((spec_l20Rd_pick.f k s0_0 bt206.2 400).bind fun bt208 => ((some (([wrap64 (t202 - 10), wrap64 ((wrap64 ((wrap64 (bt204.1 * 256)) + bt206.1)) - 32768), 32767, (-32768), wrap64 (bt208.1 - 200)] : List Int) : List Int)).bind fun y210 => ((some (([0, 0, 1, 2, 3, 4, 4] : List Int) : List Int)).bind fun y213 => ((spec_l20Rd_pick.f k s0_0 bt208.2 7).bind fun bt216 => (if 0 ≤ bt216.1 then (if bt216.1 < (y213.length : Int) then (if 0 ≤ (rd y213 bt216.1) then (if (rd y213 bt216.1) < (y210.length : Int) then (some (rd y210 (rd y213 bt216.1), bt216.2)) else (none)) else (none)) else (none)) else (none)))))))) = some (r1, r2) := H
    have A13 := Aside0.mk A130
    clear A130
    replace H := Option.bind_eq_some_iff.mp H
    obtain ⟨⟨t204, t205⟩, A140, H⟩ := H
    replace H : ((spec_l20Rd_pick.f k s0_0 t205 256).bind fun bt206 => ((spec_l20Rd_pick.f k s0_0 bt206.2 400).bind fun bt208 => ((some (([wrap64 (t202 - 10), wrap64 ((wrap64 ((wrap64 (t204 * 256)) + bt206.1)) - 32768), 32767, (-32768), wrap64 (bt208.1 - 200)] : List Int) : List Int)).bind fun y210 => ((some (([0, 0, 1, 2, 3, 4, 4] : List Int) : List Int)).bind fun y213 => ((spec_l20Rd_pick.f k s0_0 bt208.2 7).bind fun bt216 => (if 0 ≤ bt216.1 then (if bt216.1 < (y213.length : Int) then (if 0 ≤ (rd y213 bt216.1) then (if (rd y213 bt216.1) < (y210.length : Int) then (some (rd y210 (rd y213 bt216.1), bt216.2)) else (none)) else (none)) else (none)) else (none))))))) = some (r1, r2) := H
    have A14 := Aside0.mk A140
    clear A140
    replace H := Option.bind_eq_some_iff.mp H
    obtain ⟨⟨t206, t207⟩, A150, H⟩ := H
    replace H : ((spec_l20Rd_pick.f k s0_0 t207 400).bind fun bt208 => ((some (([wrap64 (t202 - 10), wrap64 ((wrap64 ((wrap64 (t204 * 256)) + t206)) - 32768), 32767, (-32768), wrap64 (bt208.1 - 200)] : List Int) : List Int)).bind fun y210 => ((some (([0, 0, 1, 2, 3, 4, 4] : List Int) : List Int)).bind fun y213 => ((spec_l20Rd_pick.f k s0_0 bt208.2 7).bind fun bt216 => (if 0 ≤ bt216.1 then (if bt216.1 < (y213.length : Int) then (if 0 ≤ (rd y213 bt216.1) then (if (rd y213 bt216.1) < (y210.length : Int) then (some (rd y210 (rd y213 bt216.1), bt216.2)) else (none)) else (none)) else (none)) else (none)))))) = some (r1, r2) := H
    have A15 := Aside0.mk A150
    clear A150
    replace H := Option.bind_eq_some_iff.mp H
    obtain ⟨⟨t208, t209⟩, A160, H⟩ := H
    replace H : ((some (([wrap64 (t202 - 10), wrap64 ((wrap64 ((wrap64 (t204 * 256)) + t206)) - 32768), 32767, (-32768), wrap64 (t208 - 200)] : List Int) : List Int)).bind fun y210 => ((some (([0, 0, 1, 2, 3, 4, 4] : List Int) : List Int)).bind fun y213 => ((spec_l20Rd_pick.f k s0_0 t209 7).bind fun bt216 => (if 0 ≤ bt216.1 then (if bt216.1 < (y213.length : Int) then (if 0 ≤ (rd y213 bt216.1) then (if (rd y213 bt216.1) < (y210.length : Int) then (some (rd y210 (rd y213 bt216.1), bt216.2)) else (none)) else (none)) else (none)) else (none))))) = some (r1, r2) := H
    have A16 := Aside0.mk A160
    clear A160
    obtain ⟨y210, hy210⟩ : ∃ y_ : List Int, y_ = (([wrap64 (t202 - 10), wrap64 ((wrap64 ((wrap64 (t204 * 256)) + t206)) - 32768), 32767, (-32768), wrap64 (t208 - 200)] : List Int)) := ⟨_, rfl⟩
    replace H : ((some (([0, 0, 1, 2, 3, 4, 4] : List Int) : List Int)).bind fun y213 => ((spec_l20Rd_pick.f k s0_0 t209 7).bind fun bt216 => (if 0 ≤ bt216.1 then (if bt216.1 < (y213.length : Int) then (if 0 ≤ (rd y213 bt216.1) then (if (rd y213 bt216.1) < (y210.length : Int) then (some (rd y210 (rd y213 bt216.1), bt216.2)) else (none)) else (none)) else (none)) else (none)))) = some (r1, r2) := by first | (rw [hy210]; with_reducible exact H) | (have H2_ := (Option.bind_some _ _).symm.trans H; rw [hy210]; with_reducible exact H2_) | (have H2_ := (Option.bind_some _ _).symm.trans H; with_reducible exact H2_) | with_reducible exact H | (rw [hy210]; exact H) | exact H
    have Ny210 := Aside0.mk hy210
    clear hy210
    obtain ⟨y213, hy213⟩ : ∃ y_ : List Int, y_ = (([0, 0, 1, 2, 3, 4, 4] : List Int)) := ⟨_, rfl⟩
    replace H : ((spec_l20Rd_pick.f k s0_0 t209 7).bind fun bt216 => (if 0 ≤ bt216.1 then (if bt216.1 < (y213.length : Int) then (if 0 ≤ (rd y213 bt216.1) then (if (rd y213 bt216.1) < (y210.length : Int) then (some (rd y210 (rd y213 bt216.1), bt216.2)) else (none)) else (none)) else (none)) else (none))) = some (r1, r2) := by first | (rw [hy213]; with_reducible exact H) | (have H2_ := (Option.bind_some _ _).symm.trans H; rw [hy213]; with_reducible exact H2_) | (have H2_ := (Option.bind_some _ _).symm.trans H; with_reducible exact H2_) | with_reducible exact H | (rw [hy213]; exact H) | exact H
    have Ny213 := Aside0.mk hy213
    clear hy213
    replace H := Option.bind_eq_some_iff.mp H
    obtain ⟨⟨t216, t217⟩, A170, H⟩ := H
    replace H : (if 0 ≤ t216 then (if t216 < (y213.length : Int) then (if 0 ≤ (rd y213 t216) then (if (rd y213 t216) < (y210.length : Int) then (some (rd y210 (rd y213 t216), t217)) else (none)) else (none)) else (none)) else (none)) = some (r1, r2) := H
    have A17 := Aside0.mk A170
    clear A170
    by_cases c18 : 0 ≤ t216
    · rw [if_pos c18] at H
      have c18b0 : decide (0 ≤ t216) = true := decide_eq_true c18
      clear c18
      by_cases c19 : t216 < (y213.length : Int)
      · rw [if_pos c19] at H
        have c19b0 : decide (t216 < (y213.length : Int)) = true := decide_eq_true c19
        clear c19
        by_cases c20 : 0 ≤ (rd y213 t216)
        · rw [if_pos c20] at H
          have c20b0 : decide (0 ≤ (rd y213 t216)) = true := decide_eq_true c20
          clear c20
          by_cases c21 : (rd y213 t216) < (y210.length : Int)
          · rw [if_pos c21] at H
            have c21b0 : decide ((rd y213 t216) < (y210.length : Int)) = true := decide_eq_true c21
            clear c21
            simp only [Option.some.injEq, Prod.mk.injEq] at H
            obtain ⟨rfl, rfl⟩ := H
            go_enter Try.func102, Try.ntmps102
            go_wp2_with (first | ((with_reducible refine gate_callee (f := 103) rfl ?_); refine goesL_ (some 7) rfl rfl Try.func103 (by kernel_rfl) rfl #[.pointer (some ⟨g, 0, none⟩), .int .i64 a1] rfl (by (try simp only [List.map_toArray, List.map_cons, List.map_nil]); first | done | rfl | (simp only [List.length_drop, List.length_take]; rfl)) ?_; (with_reducible refine (spec_l20Rd_odd.calls k g s0_0 s0_1 a1 false t195 w0 _ ?side1 ?side2 A3.out).mono ?_); (case side1 => repeat (first | (with_reducible first | exact HI0.out | apply IsS125.alloc | apply IsS125.drewN | apply IsS125.drew | apply IsS125.set_1) | exact HI0.out)); (case side2 => repeat (first | (with_reducible first | exact HB.out | apply below_alloc | apply pw_below_drewN | apply below_drew1 | refine below_set ?_ (IsS125.ge HI0.out)) | exact HB.out)); rintro e w22 ⟨rfl, hi, hb, hk⟩; refine ⟨_, rfl, ?_⟩; have n0_ := Aside0.mk (KeepBut.trans (by repeat (first | (with_reducible first | exact HK.out | apply KeepBut.set_ | apply keep_drewN | apply keep_drew | apply keep_alloc) | exact HK.out)) hk (.inl rfl)); have n1_ := Aside0.mk (hb); have n2_ := Aside0.mk (hi); clear HK; clear HB; clear HI0; have HK := n0_; have HB := n1_; have HI0 := n2_; clear n0_ n1_ n2_; (try clear hb); (try clear hb2); (try clear hk); (try clear hi)) | ((with_reducible refine gate_callee (f := 91) rfl ?_); refine goesL_ (some 14) rfl rfl Try.func91 (by kernel_rfl) rfl #[.pointer (some ⟨g, 0, none⟩), .int .i64 21] rfl (by (try simp only [List.map_toArray, List.map_cons, List.map_nil]); first | done | rfl | (simp only [List.length_drop, List.length_take]; rfl)) ?_; (with_reducible refine (spec_l20Rd_pick.calls k g s0_0 t195 21 t202 t203 w0 _ ?side1 ?side2 A13.out).mono ?_); (case side1 => repeat (first | (with_reducible first | exact HI0.out | apply IsS125.alloc | apply IsS125.drewN | apply IsS125.drew | apply IsS125.set_1) | exact HI0.out)); (case side2 => repeat (first | (with_reducible first | exact HB.out | apply below_alloc | apply pw_below_drewN | apply below_drew1 | refine below_set ?_ (IsS125.ge HI0.out)) | exact HB.out)); rintro e w23 ⟨rfl, hi, hb, hk⟩; refine ⟨_, rfl, ?_⟩; have n0_ := Aside0.mk (KeepBut.trans (by repeat (first | (with_reducible first | exact HK.out | apply KeepBut.set_ | apply keep_drewN | apply keep_drew | apply keep_alloc) | exact HK.out)) hk (.inl rfl)); have n1_ := Aside0.mk (hb); have n2_ := Aside0.mk (hi); clear HK; clear HB; clear HI0; have HK := n0_; have HB := n1_; have HI0 := n2_; clear n0_ n1_ n2_; (try clear hb); (try clear hb2); (try clear hk); (try clear hi)) | ((with_reducible refine gate_callee (f := 91) rfl ?_); refine goesL_ (some 17) rfl rfl Try.func91 (by kernel_rfl) rfl #[.pointer (some ⟨g, 0, none⟩), .int .i64 256] rfl (by (try simp only [List.map_toArray, List.map_cons, List.map_nil]); first | done | rfl | (simp only [List.length_drop, List.length_take]; rfl)) ?_; (with_reducible refine (spec_l20Rd_pick.calls k g s0_0 t203 256 t204 t205 w0 _ ?side1 ?side2 A14.out).mono ?_); (case side1 => repeat (first | (with_reducible first | exact HI0.out | apply IsS125.alloc | apply IsS125.drewN | apply IsS125.drew | apply IsS125.set_1) | exact HI0.out)); (case side2 => repeat (first | (with_reducible first | exact HB.out | apply below_alloc | apply pw_below_drewN | apply below_drew1 | refine below_set ?_ (IsS125.ge HI0.out)) | exact HB.out)); rintro e w24 ⟨rfl, hi, hb, hk⟩; refine ⟨_, rfl, ?_⟩; have n0_ := Aside0.mk (KeepBut.trans (by repeat (first | (with_reducible first | exact HK.out | apply KeepBut.set_ | apply keep_drewN | apply keep_drew | apply keep_alloc) | exact HK.out)) hk (.inl rfl)); have n1_ := Aside0.mk (hb); have n2_ := Aside0.mk (hi); clear HK; clear HB; clear HI0; have HK := n0_; have HB := n1_; have HI0 := n2_; clear n0_ n1_ n2_; (try clear hb); (try clear hb2); (try clear hk); (try clear hi)) | ((with_reducible refine gate_callee (f := 91) rfl ?_); refine goesL_ (some 20) rfl rfl Try.func91 (by kernel_rfl) rfl #[.pointer (some ⟨g, 0, none⟩), .int .i64 256] rfl (by (try simp only [List.map_toArray, List.map_cons, List.map_nil]); first | done | rfl | (simp only [List.length_drop, List.length_take]; rfl)) ?_; (with_reducible refine (spec_l20Rd_pick.calls k g s0_0 t205 256 t206 t207 w0 _ ?side1 ?side2 A15.out).mono ?_); (case side1 => repeat (first | (with_reducible first | exact HI0.out | apply IsS125.alloc | apply IsS125.drewN | apply IsS125.drew | apply IsS125.set_1) | exact HI0.out)); (case side2 => repeat (first | (with_reducible first | exact HB.out | apply below_alloc | apply pw_below_drewN | apply below_drew1 | refine below_set ?_ (IsS125.ge HI0.out)) | exact HB.out)); rintro e w25 ⟨rfl, hi, hb, hk⟩; refine ⟨_, rfl, ?_⟩; have n0_ := Aside0.mk (KeepBut.trans (by repeat (first | (with_reducible first | exact HK.out | apply KeepBut.set_ | apply keep_drewN | apply keep_drew | apply keep_alloc) | exact HK.out)) hk (.inl rfl)); have n1_ := Aside0.mk (hb); have n2_ := Aside0.mk (hi); clear HK; clear HB; clear HI0; have HK := n0_; have HB := n1_; have HI0 := n2_; clear n0_ n1_ n2_; (try clear hb); (try clear hb2); (try clear hk); (try clear hi)) | ((with_reducible refine gate_callee (f := 91) rfl ?_); refine goesL_ (some 24) rfl rfl Try.func91 (by kernel_rfl) rfl #[.pointer (some ⟨g, 0, none⟩), .int .i64 400] rfl (by (try simp only [List.map_toArray, List.map_cons, List.map_nil]); first | done | rfl | (simp only [List.length_drop, List.length_take]; rfl)) ?_; (with_reducible refine (spec_l20Rd_pick.calls k g s0_0 t207 400 t208 t209 w0 _ ?side1 ?side2 A16.out).mono ?_); (case side1 => repeat (first | (with_reducible first | exact HI0.out | apply IsS125.alloc | apply IsS125.drewN | apply IsS125.drew | apply IsS125.set_1) | exact HI0.out)); (case side2 => repeat (first | (with_reducible first | exact HB.out | apply below_alloc | apply pw_below_drewN | apply below_drew1 | refine below_set ?_ (IsS125.ge HI0.out)) | exact HB.out)); rintro e w26 ⟨rfl, hi, hb, hk⟩; refine ⟨_, rfl, ?_⟩; have n0_ := Aside0.mk (KeepBut.trans (by repeat (first | (with_reducible first | exact HK.out | apply KeepBut.set_ | apply keep_drewN | apply keep_drew | apply keep_alloc) | exact HK.out)) hk (.inl rfl)); have n1_ := Aside0.mk (hb); have n2_ := Aside0.mk (hi); clear HK; clear HB; clear HI0; have HK := n0_; have HB := n1_; have HI0 := n2_; clear n0_ n1_ n2_; (try clear hb); (try clear hb2); (try clear hk); (try clear hi)) | ((with_reducible refine gate_dst (N := 26) rfl ?_); refine Kd.R_lit (Kd.int .i64) _ 3 ?hg (N := 26) ?hd (xs := ([wrap64 (t202 - 10), wrap64 ((wrap64 ((wrap64 (t204 * 256)) + t206)) - 32768), 32767, (-32768), wrap64 (t208 - 200)] : List Int)) (inner := [.int .i64 (wrap64 (t202 - 10)), .int .i64 (wrap64 ((wrap64 ((wrap64 (t204 * 256)) + t206)) - 32768)), .int .i64 32767, .int .i64 (-32768), .int .i64 (wrap64 (t208 - 200))]) (ok := fun _ => True) (okp := fun _ => True) ?hr ?hp (fun _ hk => hk) trivial (Below.refl _ _) (Nat.le_refl _) (by simp) ?_; (case hd => rfl); (case hg => rfl); (case hr => first | (go_simp; done) | (go_simp; rfl)); (case hp => exact (Reps.one (show Kd.M (Kd.int .i64) _ _ _ (wrap64 (t202 - 10)) [.int .i64 (wrap64 (t202 - 10))] from rfl) (Reps.one (show Kd.M (Kd.int .i64) _ _ _ (wrap64 ((wrap64 ((wrap64 (t204 * 256)) + t206)) - 32768)) [.int .i64 (wrap64 ((wrap64 ((wrap64 (t204 * 256)) + t206)) - 32768))] from rfl) (Reps.one (show Kd.M (Kd.int .i64) _ _ _ 32767 [.int .i64 32767] from rfl) (Reps.one (show Kd.M (Kd.int .i64) _ _ _ (-32768) [.int .i64 (-32768)] from rfl) (Reps.one (show Kd.M (Kd.int .i64) _ _ _ (wrap64 (t208 - 200)) [.int .i64 (wrap64 (t208 - 200))] from rfl) (Reps.none _ _))))))); intro v211 w27 ho28 hb hg_ hnew_; clear hg_ hnew_; (first | rw [← Ny210.out] at ho28 | (simp only [Int.reduceToNat] at ho28; rw [← Ny210.out] at ho28)); have n0_ := Aside0.mk (Kd.R_lower ho28 (keep_size (w := w) (g := g) (row := none) (by repeat (first | (with_reducible first | exact HK.out | apply KeepBut.set_ | apply keep_drewN | apply keep_drew | apply keep_alloc) | exact HK.out)))); have n1_ := Aside0.mk (IsS125.below (by repeat (first | (with_reducible first | exact HI0.out | apply IsS125.alloc | apply IsS125.drewN | apply IsS125.drew | apply IsS125.set_1) | exact HI0.out)) hb); have n2_ := Aside0.mk (KeepBut.trans (by repeat (first | (with_reducible first | exact HK.out | apply KeepBut.set_ | apply keep_drewN | apply keep_drew | apply keep_alloc) | exact HK.out)) (KeepBut.of_below hb g none) (.inl rfl)); have n3_ := Aside0.mk (below_step (by repeat (first | (with_reducible first | exact HB.out | apply below_alloc | apply pw_below_drewN | apply below_drew1 | refine below_set ?_ (IsS125.ge HI0.out)) | exact HB.out)) hb); clear HI0; clear HK; clear HB; have HO212 := n0_; have HI0 := n1_; have HK := n2_; have HB := n3_; clear n0_ n1_ n2_ n3_; clear hb ho28) | ((with_reducible refine gate_dst (N := 27) rfl ?_); refine Kd.R_lit (Kd.int .i64) _ 3 ?hg (N := 27) ?hd (xs := ([0, 0, 1, 2, 3, 4, 4] : List Int)) (inner := [.int .i64 0, .int .i64 0, .int .i64 1, .int .i64 2, .int .i64 3, .int .i64 4, .int .i64 4]) (ok := fun _ => True) (okp := fun _ => True) ?hr ?hp (fun _ hk => hk) trivial (Below.refl _ _) (Nat.le_refl _) (by simp) ?_; (case hd => rfl); (case hg => rfl); (case hr => first | (go_simp; done) | (go_simp; rfl)); (case hp => exact (Reps.one (show Kd.M (Kd.int .i64) _ _ _ 0 [.int .i64 0] from rfl) (Reps.one (show Kd.M (Kd.int .i64) _ _ _ 0 [.int .i64 0] from rfl) (Reps.one (show Kd.M (Kd.int .i64) _ _ _ 1 [.int .i64 1] from rfl) (Reps.one (show Kd.M (Kd.int .i64) _ _ _ 2 [.int .i64 2] from rfl) (Reps.one (show Kd.M (Kd.int .i64) _ _ _ 3 [.int .i64 3] from rfl) (Reps.one (show Kd.M (Kd.int .i64) _ _ _ 4 [.int .i64 4] from rfl) (Reps.one (show Kd.M (Kd.int .i64) _ _ _ 4 [.int .i64 4] from rfl) (Reps.none _ _))))))))); intro v214 w29 ho30 hb hg_ hnew_; clear hg_ hnew_; (first | rw [← Ny213.out] at ho30 | (simp only [Int.reduceToNat] at ho30; rw [← Ny213.out] at ho30)); have n0_ := Aside0.mk (Kd.R_elder' (by (with_reducible repeat (first | apply Kd.R_alloc | apply Kd.R_drewN | apply Kd.R_drew)); exact HO212.out) (Kd.R_base ho30) hb); have n1_ := Aside0.mk (Kd.R_lower (Kd.R_new' ho30 (Kd.R_lt (by (with_reducible repeat (first | apply Kd.R_alloc | apply Kd.R_drewN | apply Kd.R_drew)); exact HO212.out))) (keep_size (w := w) (g := g) (row := none) (by repeat (first | (with_reducible first | exact HK.out | apply KeepBut.set_ | apply keep_drewN | apply keep_drew | apply keep_alloc) | exact HK.out)))); have n2_ := Aside0.mk (IsS125.below (by repeat (first | (with_reducible first | exact HI0.out | apply IsS125.alloc | apply IsS125.drewN | apply IsS125.drew | apply IsS125.set_1) | exact HI0.out)) hb); have n3_ := Aside0.mk (KeepBut.trans (by repeat (first | (with_reducible first | exact HK.out | apply KeepBut.set_ | apply keep_drewN | apply keep_drew | apply keep_alloc) | exact HK.out)) (KeepBut.of_below hb g none) (.inl rfl)); have n4_ := Aside0.mk (below_step (by repeat (first | (with_reducible first | exact HB.out | apply below_alloc | apply pw_below_drewN | apply below_drew1 | refine below_set ?_ (IsS125.ge HI0.out)) | exact HB.out)) hb); clear HO212; clear HI0; clear HK; clear HB; have HO212 := n0_; have HO215 := n1_; have HI0 := n2_; have HK := n3_; have HB := n4_; clear n0_ n1_ n2_ n3_ n4_; clear hb ho30) | ((with_reducible refine gate_callee (f := 91) rfl ?_); refine goesL_ (some 29) rfl rfl Try.func91 (by kernel_rfl) rfl #[.pointer (some ⟨g, 0, none⟩), .int .i64 7] rfl (by (try simp only [List.map_toArray, List.map_cons, List.map_nil]); first | done | rfl | (simp only [List.length_drop, List.length_take]; rfl)) ?_; (with_reducible refine (spec_l20Rd_pick.calls k g s0_0 t209 7 t216 t217 w0 _ ?side1 ?side2 A17.out).mono ?_); (case side1 => repeat (first | (with_reducible first | exact HI0.out | apply IsS125.alloc | apply IsS125.drewN | apply IsS125.drew | apply IsS125.set_1) | exact HI0.out)); (case side2 => repeat (first | (with_reducible first | exact HB.out | apply below_alloc | apply pw_below_drewN | apply below_drew1 | refine below_set ?_ (IsS125.ge HI0.out)) | exact HB.out)); rintro e w31 ⟨rfl, hi, hb, hk⟩; refine ⟨_, rfl, ?_⟩; have n0_ := Aside0.mk (Kd.R_mono (Kd.R_keep (IsS125.apart (show IsS125 w0 _ g s0_0 t209 from by repeat (first | (with_reducible first | exact HI0.out | apply IsS125.alloc | apply IsS125.drewN | apply IsS125.drew | apply IsS125.set_1) | exact HI0.out)) (by (with_reducible repeat (first | apply Kd.R_alloc | apply Kd.R_drewN | apply Kd.R_drew)); exact HO212.out) (by decide)) hk (fun _ h => h.2)) (fun _ h => h.1)); have n1_ := Aside0.mk (Kd.R_mono (Kd.R_keep (IsS125.apart (show IsS125 w0 _ g s0_0 t209 from by repeat (first | (with_reducible first | exact HI0.out | apply IsS125.alloc | apply IsS125.drewN | apply IsS125.drew | apply IsS125.set_1) | exact HI0.out)) (by (with_reducible repeat (first | apply Kd.R_alloc | apply Kd.R_drewN | apply Kd.R_drew)); exact HO215.out) (by decide)) hk (fun _ h => h.2)) (fun _ h => h.1)); have n2_ := Aside0.mk (KeepBut.trans (by repeat (first | (with_reducible first | exact HK.out | apply KeepBut.set_ | apply keep_drewN | apply keep_drew | apply keep_alloc) | exact HK.out)) hk (.inl rfl)); have n3_ := Aside0.mk (hb); have n4_ := Aside0.mk (hi); clear HO212; clear HO215; clear HK; clear HB; clear HI0; have HO212 := n0_; have HO215 := n1_; have HK := n2_; have HB := n3_; have HI0 := n4_; clear n0_ n1_ n2_ n3_ n4_; (try clear hb); (try clear hb2); (try clear hk); (try clear hi); obtain ⟨Ao32, co32, eo32⟩ := Kd.R_slice HO215.out; subst eo32; have p218 : 0 ≤ (t216 : Int) := of_decide_eq_true (by first | (with_reducible assumption) | assumption); have q218 : t216 < (y213.length : Int) := of_decide_eq_true (by first | (with_reducible assumption) | assumption); obtain ⟨ad218, e218, hx218_0⟩ := Kd.at_int (Kd.R_reads' HO215.out).2.2 t216 p218 q218; cases e218; replace p218 := eq_true p218; replace q218 := eq_true q218; obtain ⟨Ao33, co33, eo33⟩ := Kd.R_slice HO212.out; subst eo33; have p219 : 0 ≤ ((rd y213 t216) : Int) := of_decide_eq_true (by first | (with_reducible assumption) | assumption); have q219 : (rd y213 t216) < (y210.length : Int) := of_decide_eq_true (by first | (with_reducible assumption) | assumption); obtain ⟨ad219, e219, hx219_0⟩ := Kd.at_int (Kd.R_reads' HO212.out).2.2 (rd y213 t216) p219 q219; cases e219; replace p219 := eq_true p219; replace q219 := eq_true q219))
            go_ret
            exact ⟨by first | rfl | (simp [errW_none, errW_some] <;> rfl) | (simp [*, errW_none, errW_some] <;> rfl), by repeat (first | (with_reducible first | exact HI0.out | apply IsS125.alloc | apply IsS125.drewN | apply IsS125.drew | apply IsS125.set_1) | exact HI0.out), by repeat (first | (with_reducible first | exact HB.out | apply below_alloc | apply pw_below_drewN | apply below_drew1 | refine below_set ?_ (IsS125.ge HI0.out)) | exact HB.out), by repeat (first | (with_reducible first | exact HK.out | apply KeepBut.set_ | apply keep_drewN | apply keep_drew | apply keep_alloc) | exact HK.out)⟩
          · rw [if_neg c21] at H
            exact absurd H (by simp)
        · rw [if_neg c20] at H
          exact absurd H (by simp)
      · rw [if_neg c19] at H
        exact absurd H (by simp)
    · rw [if_neg c18] at H
      exact absurd H (by simp)

/-! ### spec_l20Trend: function 99 -/
mutual
def spec_l20Trend.l0 : Nat → Int → List (S84) → Int → Int → Int → Int → Int → List Int → Int → Option ((List (S84)) × Int)
  | 0, _, _, _, _, _, _, _, _, _ => none
  | k + 1, x1, x5, x6, x7, x8, x9, x10, x1000, x1001 => if x10 > 0 then ((spec_l20Rd_pick.f k x1000 x1001 x9).bind fun bt233 => (if x5.length < 8796093022208 then ((some (x5 ++ [(⟨x6, wrap64 (x7 + bt233.1)⟩ : S84)] : List (S84))).bind fun y235 => ((spec_l20Rd_pick.f k x1000 bt233.2 6).bind fun bt238 => ((spec_l20Rd_odd.f k x1000 bt238.2 5).bind fun bt240 => (if bt240.1 = true then ((spec_l20Rd_pick.f k x1000 bt240.2 41).bind fun bt242 => (spec_l20Trend.l0 k x1 y235 (wrap64 (x6 + (wrap64 (1 + bt238.1)))) (wrap64 (x7 + (wrap64 (x8 * (wrap64 (1 + bt238.1)))))) (wrap64 (bt242.1 - 20)) x9 (wrap64 (x10 - 1)) x1000 bt242.2)) else (spec_l20Trend.l0 k x1 y235 (wrap64 (x6 + (wrap64 (1 + bt238.1)))) (wrap64 (x7 + (wrap64 (x8 * (wrap64 (1 + bt238.1)))))) x8 x9 (wrap64 (x10 - 1)) x1000 bt240.2))))) else (none))) else (if (x5.length : Int) > 0 then ((spec_l20Rd_odd.f k x1000 x1001 x1).bind fun bt244 => (spec_l20Trend.j1 k x5 bt244.1 x1000 bt244.2)) else (spec_l20Trend.j1 k x5 false x1000 x1001))
def spec_l20Trend.j1 : Nat → List (S84) → Bool → List Int → Int → Option ((List (S84)) × Int)
  | 0, _, _, _, _ => none
  | k + 1, x5, x64, x1000, x1001 => if x64 = true then ((spec_l20Rd_pick.f k x1000 x1001 (x5.length : Int)).bind fun bt246 => ((spec_l20Rd_pick.f k x1000 bt246.2 3).bind fun bt248 => (if bt248.1 = 0 then ((some (([(-1), 10001, 3] : List Int) : List Int)).bind fun y250 => ((spec_l20Rd_pick.f k x1000 bt248.2 3).bind fun bt253 => (if 0 ≤ bt253.1 then (if bt253.1 < (y250.length : Int) then (if 0 ≤ bt246.1 then (if bt246.1 < (x5.length : Int) then (some ((x5.set (bt246.1 : Int).toNat (⟨rd y250 bt253.1, (rd_T84 x5 bt246.1).f1⟩ : S84)), bt253.2)) else (none)) else (none)) else (none)) else (none)))) else (if bt248.1 = 1 then ((spec_l20Word.f k x1000 bt248.2 1).bind fun bt257 => (if 0 ≤ bt246.1 then (if bt246.1 < (x5.length : Int) then (some ((x5.set (bt246.1 : Int).toNat (⟨(rd_T84 x5 bt246.1).f0, bt257.1⟩ : S84)), bt257.2)) else (none)) else (none))) else (if 0 < (x5.length : Int) then (if x5.length < 8796093022208 then (some ((x5 ++ [(⟨(rd_T84 x5 0).f0, (rd_T84 x5 0).f1⟩ : S84)]), bt248.2)) else (none)) else (none)))))) else (some (x5, x1001))
end
def spec_l20Trend.f (k : Nat) (s0_0 : List Int) (s0_1 : Int) (a1 : Int) : Option ((List (S84)) × Int) := (spec_l20Rd_pick.f k s0_0 s0_1 5).bind fun bt223 => ((spec_l20Rd_pick.f k s0_0 bt223.2 200).bind fun bt225 => ((spec_l20Rd_pick.f k s0_0 bt225.2 9).bind fun bt227 => ((spec_l20Rd_pick.f k s0_0 bt227.2 6).bind fun bt229 => ((spec_l20Rd_pick.f k s0_0 bt229.2 14).bind fun bt231 => (spec_l20Trend.l0 k a1 (([] : List (S84))) bt223.1 (wrap64 (bt225.1 - 100)) (wrap64 (bt227.1 - 4)) (wrap64 (1 + bt229.1)) bt231.1 s0_0 bt231.2)))))
theorem spec_l20Trend.mono_l : ∀ k, (∀ y0 y1 y2 y3 y4 y5 y6 y7 y8, LeO (spec_l20Trend.l0 k y0 y1 y2 y3 y4 y5 y6 y7 y8) (spec_l20Trend.l0 (k + 1) y0 y1 y2 y3 y4 y5 y6 y7 y8)) ∧ (∀ y0 y1 y2 y3, LeO (spec_l20Trend.j1 k y0 y1 y2 y3) (spec_l20Trend.j1 (k + 1) y0 y1 y2 y3))
  | 0 => ⟨fun _ _ _ _ _ _ _ _ _ r h => by simp [spec_l20Trend.l0] at h, fun _ _ _ _ r h => by simp [spec_l20Trend.j1] at h⟩
  | k + 1 => by
    obtain ⟨ih0, ih1⟩ := spec_l20Trend.mono_l k
    refine ⟨?_, ?_⟩
    · intro y0 y1 y2 y3 y4 y5 y6 y7 y8
      unfold spec_l20Trend.l0
      repeat' first
      | (with_reducible exact ih0 _ _ _ _ _ _ _ _ _)
      | (with_reducible exact ih1 _ _ _ _)
      | (with_reducible exact spec_l20Rd_odd.mono _ _ _ _)
      | (with_reducible exact spec_l20Rd_pick.mono _ _ _ _)
      | (with_reducible exact spec_l20Word.mono _ _ _ _)
      | (with_reducible exact LeO.refl _)
      | (with_reducible exact LeO.none _)
      | (with_reducible refine LeO.ite ?_ ?_)
      | (with_reducible refine LeO.bind ?_ (fun _ => ?_))
      | exact ih0 _ _ _ _ _ _ _ _ _
      | exact ih1 _ _ _ _
      | exact spec_l20Rd_odd.mono _ _ _ _
      | exact spec_l20Rd_pick.mono _ _ _ _
      | exact spec_l20Word.mono _ _ _ _
      | exact LeO.none _
      | refine LeO.ite ?_ ?_
      | refine LeO.bind ?_ (fun _ => ?_)
    · intro y0 y1 y2 y3
      unfold spec_l20Trend.j1
      repeat' first
      | (with_reducible exact ih0 _ _ _ _ _ _ _ _ _)
      | (with_reducible exact ih1 _ _ _ _)
      | (with_reducible exact spec_l20Rd_odd.mono _ _ _ _)
      | (with_reducible exact spec_l20Rd_pick.mono _ _ _ _)
      | (with_reducible exact spec_l20Word.mono _ _ _ _)
      | (with_reducible exact LeO.refl _)
      | (with_reducible exact LeO.none _)
      | (with_reducible refine LeO.ite ?_ ?_)
      | (with_reducible refine LeO.bind ?_ (fun _ => ?_))
      | exact ih0 _ _ _ _ _ _ _ _ _
      | exact ih1 _ _ _ _
      | exact spec_l20Rd_odd.mono _ _ _ _
      | exact spec_l20Rd_pick.mono _ _ _ _
      | exact spec_l20Word.mono _ _ _ _
      | exact LeO.none _
      | refine LeO.ite ?_ ?_
      | refine LeO.bind ?_ (fun _ => ?_)
theorem spec_l20Trend.mono : ∀ a0 a1 a2 k, LeO (spec_l20Trend.f k a0 a1 a2) (spec_l20Trend.f (k + 1) a0 a1 a2) := by
  intro a0 a1 a2 k
  obtain ⟨ih0, ih1⟩ := spec_l20Trend.mono_l k
  unfold spec_l20Trend.f
  repeat' first
      | (with_reducible exact ih0 _ _ _ _ _ _ _ _ _)
      | (with_reducible exact ih1 _ _ _ _)
      | (with_reducible exact spec_l20Rd_odd.mono _ _ _ _)
      | (with_reducible exact spec_l20Rd_pick.mono _ _ _ _)
      | (with_reducible exact spec_l20Word.mono _ _ _ _)
      | (with_reducible exact LeO.refl _)
      | (with_reducible exact LeO.none _)
      | (with_reducible refine LeO.ite ?_ ?_)
      | (with_reducible refine LeO.bind ?_ (fun _ => ?_))
      | exact ih0 _ _ _ _ _ _ _ _ _
      | exact ih1 _ _ _ _
      | exact spec_l20Rd_odd.mono _ _ _ _
      | exact spec_l20Rd_pick.mono _ _ _ _
      | exact spec_l20Word.mono _ _ _ _
      | exact LeO.none _
      | refine LeO.ite ?_ ?_
      | refine LeO.bind ?_ (fun _ => ?_)
set_option maxHeartbeats 8000000 in
set_option maxRecDepth 100000 in
theorem spec_l20Trend.calls (k : Nat) (g : Nat) (s0_0 : List Int) (s0_1 : Int) (a1 : Int) (r1 : List (S84)) (r2 : Int) (w0 w : World) (hI : IsS125 w0 w g s0_0 s0_1) (hB : Below w0.heap.size w0 w) (h : spec_l20Trend.f k s0_0 s0_1 a1 = some (r1, r2)) :
    Calls Try.prog 99 #[.pointer (some ⟨g, 0, none⟩), .int .i64 a1] w fun e w' => ∃ v0_ : Value, e = .returned (v0_) ∧ Kd.R k84 84 w' w.heap.size (fun _ => True) v0_ r1 ∧ IsS125 w0 w' g s0_0 r2 ∧ Below w0.heap.size w0 w' ∧ KeepBut w w' g none := by
  have hu84 := Try.underlying84
  have HI0 := Aside0.mk hI
  have HK := Aside0.mk (KeepBut.refl w g none)
  have HL := Aside0.mk hB.size
  clear hI
  have HW0 := Aside0.mk hB.size
  have HB := Aside0.mk hB
  clear hB
  have H : ((spec_l20Rd_pick.f k s0_0 s0_1 5).bind fun bt223 => ((spec_l20Rd_pick.f k s0_0 bt223.2 200).bind fun bt225 => ((spec_l20Rd_pick.f k s0_0 bt225.2 9).bind fun bt227 => ((spec_l20Rd_pick.f k s0_0 bt227.2 6).bind fun bt229 => ((spec_l20Rd_pick.f k s0_0 bt229.2 14).bind fun bt231 => (spec_l20Trend.l0 k a1 (([] : List (S84))) bt223.1 (wrap64 (bt225.1 - 100)) (wrap64 (bt227.1 - 4)) (wrap64 (1 + bt229.1)) bt231.1 s0_0 bt231.2)))))) = some (r1, r2) := h
  clear h
  obtain ⟨y220, hy220⟩ : ∃ y_ : List (S84), y_ = (([] : List (S84))) := ⟨_, rfl⟩
  replace H : ((spec_l20Rd_pick.f k s0_0 s0_1 5).bind fun bt223 => ((spec_l20Rd_pick.f k s0_0 bt223.2 200).bind fun bt225 => ((spec_l20Rd_pick.f k s0_0 bt225.2 9).bind fun bt227 => ((spec_l20Rd_pick.f k s0_0 bt227.2 6).bind fun bt229 => ((spec_l20Rd_pick.f k s0_0 bt229.2 14).bind fun bt231 => (spec_l20Trend.l0 k a1 y220 bt223.1 (wrap64 (bt225.1 - 100)) (wrap64 (bt227.1 - 4)) (wrap64 (1 + bt229.1)) bt231.1 s0_0 bt231.2)))))) = some (r1, r2) := by first | (rw [hy220]; with_reducible exact H) | (have H2_ := (Option.bind_some _ _).symm.trans H; rw [hy220]; with_reducible exact H2_) | (have H2_ := (Option.bind_some _ _).symm.trans H; with_reducible exact H2_) | with_reducible exact H | (rw [hy220]; exact H) | exact H
  have Ny220 := Aside0.mk hy220
  clear hy220
  replace H := Option.bind_eq_some_iff.mp H
  obtain ⟨⟨t223, t224⟩, A30, H⟩ := H
  replace H : ((spec_l20Rd_pick.f k s0_0 t224 200).bind fun bt225 => ((spec_l20Rd_pick.f k s0_0 bt225.2 9).bind fun bt227 => ((spec_l20Rd_pick.f k s0_0 bt227.2 6).bind fun bt229 => ((spec_l20Rd_pick.f k s0_0 bt229.2 14).bind fun bt231 => (spec_l20Trend.l0 k a1 y220 t223 (wrap64 (bt225.1 - 100)) (wrap64 (bt227.1 - 4)) (wrap64 (1 + bt229.1)) bt231.1 s0_0 bt231.2))))) = some (r1, r2) := H
  have A3 := Aside0.mk A30
  clear A30
  replace H := Option.bind_eq_some_iff.mp H
  obtain ⟨⟨t225, t226⟩, A40, H⟩ := H
  replace H : ((spec_l20Rd_pick.f k s0_0 t226 9).bind fun bt227 => ((spec_l20Rd_pick.f k s0_0 bt227.2 6).bind fun bt229 => ((spec_l20Rd_pick.f k s0_0 bt229.2 14).bind fun bt231 => (spec_l20Trend.l0 k a1 y220 t223 (wrap64 (t225 - 100)) (wrap64 (bt227.1 - 4)) (wrap64 (1 + bt229.1)) bt231.1 s0_0 bt231.2)))) = some (r1, r2) := H
  have A4 := Aside0.mk A40
  clear A40
  replace H := Option.bind_eq_some_iff.mp H
  obtain ⟨⟨t227, t228⟩, A50, H⟩ := H
  replace H : ((spec_l20Rd_pick.f k s0_0 t228 6).bind fun bt229 => ((spec_l20Rd_pick.f k s0_0 bt229.2 14).bind fun bt231 => (spec_l20Trend.l0 k a1 y220 t223 (wrap64 (t225 - 100)) (wrap64 (t227 - 4)) (wrap64 (1 + bt229.1)) bt231.1 s0_0 bt231.2))) = some (r1, r2) := H
  have A5 := Aside0.mk A50
  clear A50
  replace H := Option.bind_eq_some_iff.mp H
  obtain ⟨⟨t229, t230⟩, A60, H⟩ := H
  replace H : ((spec_l20Rd_pick.f k s0_0 t230 14).bind fun bt231 => (spec_l20Trend.l0 k a1 y220 t223 (wrap64 (t225 - 100)) (wrap64 (t227 - 4)) (wrap64 (1 + t229)) bt231.1 s0_0 bt231.2)) = some (r1, r2) := H
  have A6 := Aside0.mk A60
  clear A60
  replace H := Option.bind_eq_some_iff.mp H
  obtain ⟨⟨t231, t232⟩, A70, H⟩ := H
  replace H : (spec_l20Trend.l0 k a1 y220 t223 (wrap64 (t225 - 100)) (wrap64 (t227 - 4)) (wrap64 (1 + t229)) t231 s0_0 t232) = some (r1, r2) := H
  have A7 := Aside0.mk A70
  clear A70
  have H' := Aside0.mk H
  clear H
  go_enter Try.func99, Try.ntmps99
  go_wp2_with (first | ((with_reducible refine gate_dst (N := 13) rfl ?_); refine Kd.R_lit k84 _ 84 ?hg (N := 13) ?hd (xs := ([] : List (S84))) (inner := []) (ok := fun _ => True) (okp := fun _ => True) ?hr ?hp (fun _ hk => hk) trivial (Below.refl _ _) (Nat.le_refl _) (by simp) ?_; (case hd => rfl); (case hg => rfl); (case hr => first | (go_simp; done) | (go_simp; rfl)); (case hp => exact (Reps.none _ _)); intro v221 w8 ho9 hb hg_ hnew_; clear hg_ hnew_; (first | rw [← Ny220.out] at ho9 | (simp only [Int.reduceToNat] at ho9; rw [← Ny220.out] at ho9)); have n0_ := Aside0.mk (Kd.R_lower ho9 (keep_size (w := w) (g := g) (row := none) (by repeat (first | (with_reducible first | exact HK.out | apply KeepBut.set_ | apply keep_drewN | apply keep_drew | apply keep_alloc) | exact HK.out)))); have n1_ := Aside0.mk (IsS125.below (by repeat (first | (with_reducible first | exact HI0.out | apply IsS125.alloc | apply IsS125.drewN | apply IsS125.drew | apply IsS125.set_1) | exact HI0.out)) hb); have n2_ := Aside0.mk (KeepBut.trans (by repeat (first | (with_reducible first | exact HK.out | apply KeepBut.set_ | apply keep_drewN | apply keep_drew | apply keep_alloc) | exact HK.out)) (KeepBut.of_below hb g none) (.inl rfl)); have n3_ := Aside0.mk (below_step (by repeat (first | (with_reducible first | exact HB.out | apply below_alloc | apply pw_below_drewN | apply below_drew1 | refine below_set ?_ (IsS125.ge HI0.out)) | exact HB.out)) hb); clear HI0; clear HK; clear HB; have HO222 := n0_; have HI0 := n1_; have HK := n2_; have HB := n3_; clear n0_ n1_ n2_ n3_; clear hb ho9) | ((with_reducible refine gate_callee (f := 91) rfl ?_); refine goesL_ (some 15) rfl rfl Try.func91 (by kernel_rfl) rfl #[.pointer (some ⟨g, 0, none⟩), .int .i64 5] rfl (by (try simp only [List.map_toArray, List.map_cons, List.map_nil]); first | done | rfl | (simp only [List.length_drop, List.length_take]; rfl)) ?_; (with_reducible refine (spec_l20Rd_pick.calls k g s0_0 s0_1 5 t223 t224 w0 _ ?side1 ?side2 A3.out).mono ?_); (case side1 => repeat (first | (with_reducible first | exact HI0.out | apply IsS125.alloc | apply IsS125.drewN | apply IsS125.drew | apply IsS125.set_1) | exact HI0.out)); (case side2 => repeat (first | (with_reducible first | exact HB.out | apply below_alloc | apply pw_below_drewN | apply below_drew1 | refine below_set ?_ (IsS125.ge HI0.out)) | exact HB.out)); rintro e w10 ⟨rfl, hi, hb, hk⟩; refine ⟨_, rfl, ?_⟩; have n0_ := Aside0.mk (Kd.R_mono (Kd.R_keep (IsS125.apart (show IsS125 w0 _ g s0_0 s0_1 from by repeat (first | (with_reducible first | exact HI0.out | apply IsS125.alloc | apply IsS125.drewN | apply IsS125.drew | apply IsS125.set_1) | exact HI0.out)) (by (with_reducible repeat (first | apply Kd.R_alloc | apply Kd.R_drewN | apply Kd.R_drew)); exact HO222.out) (by decide)) hk (fun _ h => h.2)) (fun _ h => h.1)); have n1_ := Aside0.mk (KeepBut.trans (by repeat (first | (with_reducible first | exact HK.out | apply KeepBut.set_ | apply keep_drewN | apply keep_drew | apply keep_alloc) | exact HK.out)) hk (.inl rfl)); have n2_ := Aside0.mk (hb); have n3_ := Aside0.mk (hi); clear HO222; clear HK; clear HB; clear HI0; have HO222 := n0_; have HK := n1_; have HB := n2_; have HI0 := n3_; clear n0_ n1_ n2_ n3_; (try clear hb); (try clear hb2); (try clear hk); (try clear hi)) | ((with_reducible refine gate_callee (f := 91) rfl ?_); refine goesL_ (some 17) rfl rfl Try.func91 (by kernel_rfl) rfl #[.pointer (some ⟨g, 0, none⟩), .int .i64 200] rfl (by (try simp only [List.map_toArray, List.map_cons, List.map_nil]); first | done | rfl | (simp only [List.length_drop, List.length_take]; rfl)) ?_; (with_reducible refine (spec_l20Rd_pick.calls k g s0_0 t224 200 t225 t226 w0 _ ?side1 ?side2 A4.out).mono ?_); (case side1 => repeat (first | (with_reducible first | exact HI0.out | apply IsS125.alloc | apply IsS125.drewN | apply IsS125.drew | apply IsS125.set_1) | exact HI0.out)); (case side2 => repeat (first | (with_reducible first | exact HB.out | apply below_alloc | apply pw_below_drewN | apply below_drew1 | refine below_set ?_ (IsS125.ge HI0.out)) | exact HB.out)); rintro e w11 ⟨rfl, hi, hb, hk⟩; refine ⟨_, rfl, ?_⟩; have n0_ := Aside0.mk (Kd.R_mono (Kd.R_keep (IsS125.apart (show IsS125 w0 _ g s0_0 t224 from by repeat (first | (with_reducible first | exact HI0.out | apply IsS125.alloc | apply IsS125.drewN | apply IsS125.drew | apply IsS125.set_1) | exact HI0.out)) (by (with_reducible repeat (first | apply Kd.R_alloc | apply Kd.R_drewN | apply Kd.R_drew)); exact HO222.out) (by decide)) hk (fun _ h => h.2)) (fun _ h => h.1)); have n1_ := Aside0.mk (KeepBut.trans (by repeat (first | (with_reducible first | exact HK.out | apply KeepBut.set_ | apply keep_drewN | apply keep_drew | apply keep_alloc) | exact HK.out)) hk (.inl rfl)); have n2_ := Aside0.mk (hb); have n3_ := Aside0.mk (hi); clear HO222; clear HK; clear HB; clear HI0; have HO222 := n0_; have HK := n1_; have HB := n2_; have HI0 := n3_; clear n0_ n1_ n2_ n3_; (try clear hb); (try clear hb2); (try clear hk); (try clear hi)) | ((with_reducible refine gate_callee (f := 91) rfl ?_); refine goesL_ (some 20) rfl rfl Try.func91 (by kernel_rfl) rfl #[.pointer (some ⟨g, 0, none⟩), .int .i64 9] rfl (by (try simp only [List.map_toArray, List.map_cons, List.map_nil]); first | done | rfl | (simp only [List.length_drop, List.length_take]; rfl)) ?_; (with_reducible refine (spec_l20Rd_pick.calls k g s0_0 t226 9 t227 t228 w0 _ ?side1 ?side2 A5.out).mono ?_); (case side1 => repeat (first | (with_reducible first | exact HI0.out | apply IsS125.alloc | apply IsS125.drewN | apply IsS125.drew | apply IsS125.set_1) | exact HI0.out)); (case side2 => repeat (first | (with_reducible first | exact HB.out | apply below_alloc | apply pw_below_drewN | apply below_drew1 | refine below_set ?_ (IsS125.ge HI0.out)) | exact HB.out)); rintro e w12 ⟨rfl, hi, hb, hk⟩; refine ⟨_, rfl, ?_⟩; have n0_ := Aside0.mk (Kd.R_mono (Kd.R_keep (IsS125.apart (show IsS125 w0 _ g s0_0 t226 from by repeat (first | (with_reducible first | exact HI0.out | apply IsS125.alloc | apply IsS125.drewN | apply IsS125.drew | apply IsS125.set_1) | exact HI0.out)) (by (with_reducible repeat (first | apply Kd.R_alloc | apply Kd.R_drewN | apply Kd.R_drew)); exact HO222.out) (by decide)) hk (fun _ h => h.2)) (fun _ h => h.1)); have n1_ := Aside0.mk (KeepBut.trans (by repeat (first | (with_reducible first | exact HK.out | apply KeepBut.set_ | apply keep_drewN | apply keep_drew | apply keep_alloc) | exact HK.out)) hk (.inl rfl)); have n2_ := Aside0.mk (hb); have n3_ := Aside0.mk (hi); clear HO222; clear HK; clear HB; clear HI0; have HO222 := n0_; have HK := n1_; have HB := n2_; have HI0 := n3_; clear n0_ n1_ n2_ n3_; (try clear hb); (try clear hb2); (try clear hk); (try clear hi)) | ((with_reducible refine gate_callee (f := 91) rfl ?_); refine goesL_ (some 23) rfl rfl Try.func91 (by kernel_rfl) rfl #[.pointer (some ⟨g, 0, none⟩), .int .i64 6] rfl (by (try simp only [List.map_toArray, List.map_cons, List.map_nil]); first | done | rfl | (simp only [List.length_drop, List.length_take]; rfl)) ?_; (with_reducible refine (spec_l20Rd_pick.calls k g s0_0 t228 6 t229 t230 w0 _ ?side1 ?side2 A6.out).mono ?_); (case side1 => repeat (first | (with_reducible first | exact HI0.out | apply IsS125.alloc | apply IsS125.drewN | apply IsS125.drew | apply IsS125.set_1) | exact HI0.out)); (case side2 => repeat (first | (with_reducible first | exact HB.out | apply below_alloc | apply pw_below_drewN | apply below_drew1 | refine below_set ?_ (IsS125.ge HI0.out)) | exact HB.out)); rintro e w13 ⟨rfl, hi, hb, hk⟩; refine ⟨_, rfl, ?_⟩; have n0_ := Aside0.mk (Kd.R_mono (Kd.R_keep (IsS125.apart (show IsS125 w0 _ g s0_0 t228 from by repeat (first | (with_reducible first | exact HI0.out | apply IsS125.alloc | apply IsS125.drewN | apply IsS125.drew | apply IsS125.set_1) | exact HI0.out)) (by (with_reducible repeat (first | apply Kd.R_alloc | apply Kd.R_drewN | apply Kd.R_drew)); exact HO222.out) (by decide)) hk (fun _ h => h.2)) (fun _ h => h.1)); have n1_ := Aside0.mk (KeepBut.trans (by repeat (first | (with_reducible first | exact HK.out | apply KeepBut.set_ | apply keep_drewN | apply keep_drew | apply keep_alloc) | exact HK.out)) hk (.inl rfl)); have n2_ := Aside0.mk (hb); have n3_ := Aside0.mk (hi); clear HO222; clear HK; clear HB; clear HI0; have HO222 := n0_; have HK := n1_; have HB := n2_; have HI0 := n3_; clear n0_ n1_ n2_ n3_; (try clear hb); (try clear hb2); (try clear hk); (try clear hi)) | ((with_reducible refine gate_callee (f := 91) rfl ?_); refine goesL_ (some 26) rfl rfl Try.func91 (by kernel_rfl) rfl #[.pointer (some ⟨g, 0, none⟩), .int .i64 14] rfl (by (try simp only [List.map_toArray, List.map_cons, List.map_nil]); first | done | rfl | (simp only [List.length_drop, List.length_take]; rfl)) ?_; (with_reducible refine (spec_l20Rd_pick.calls k g s0_0 t230 14 t231 t232 w0 _ ?side1 ?side2 A7.out).mono ?_); (case side1 => repeat (first | (with_reducible first | exact HI0.out | apply IsS125.alloc | apply IsS125.drewN | apply IsS125.drew | apply IsS125.set_1) | exact HI0.out)); (case side2 => repeat (first | (with_reducible first | exact HB.out | apply below_alloc | apply pw_below_drewN | apply below_drew1 | refine below_set ?_ (IsS125.ge HI0.out)) | exact HB.out)); rintro e w14 ⟨rfl, hi, hb, hk⟩; refine ⟨_, rfl, ?_⟩; have n0_ := Aside0.mk (Kd.R_mono (Kd.R_keep (IsS125.apart (show IsS125 w0 _ g s0_0 t230 from by repeat (first | (with_reducible first | exact HI0.out | apply IsS125.alloc | apply IsS125.drewN | apply IsS125.drew | apply IsS125.set_1) | exact HI0.out)) (by (with_reducible repeat (first | apply Kd.R_alloc | apply Kd.R_drewN | apply Kd.R_drew)); exact HO222.out) (by decide)) hk (fun _ h => h.2)) (fun _ h => h.1)); have n1_ := Aside0.mk (KeepBut.trans (by repeat (first | (with_reducible first | exact HK.out | apply KeepBut.set_ | apply keep_drewN | apply keep_drew | apply keep_alloc) | exact HK.out)) hk (.inl rfl)); have n2_ := Aside0.mk (hb); have n3_ := Aside0.mk (hi); clear HO222; clear HK; clear HB; clear HI0; have HO222 := n0_; have HK := n1_; have HB := n2_; have HI0 := n3_; clear n0_ n1_ n2_ n3_; (try clear hb); (try clear hb2); (try clear hk); (try clear hi)))
  go_loopg [5, 6, 7, 8, 10] k (fun kq v5 v6 v7 v8 v10 w' => ∃ (x5_1 : List (S84)) (x6_1 : Int) (x7_1 : Int) (x8_1 : Int) (x10_1 : Int) (x1001_1 : Int), v6 = .int .i64 x6_1 ∧ v7 = .int .i64 x7_1 ∧ v8 = .int .i64 x8_1 ∧ v10 = .int .i64 x10_1 ∧ Aside0 (spec_l20Trend.l0 kq a1 x5_1 x6_1 x7_1 x8_1 (wrap64 (1 + t229)) x10_1 s0_0 x1001_1 = some (r1, r2)) ∧ Aside0 (kq ≤ k) ∧ Aside0 (Kd.R k84 84 w' w.heap.size (fun _ => True) v5 x5_1) ∧ Aside0 (IsS125 w0 w' g s0_0 x1001_1) ∧ Aside0 (KeepBut w w' g none) ∧ Aside0 (Below w0.heap.size w0 w'))
  case atStart => exact ⟨(y220), (t223), (wrap64 (t225 - 100)), (wrap64 (t227 - 4)), (t231), (t232), (by first | rfl | (simp; done) | (simp [*]; done)), (by first | rfl | (simp; done) | (simp [*]; done)), (by first | rfl | (simp; done) | (simp [*]; done)), (by first | rfl | (simp; done) | (simp [*]; done)), H', ⟨Nat.le_refl _⟩, ⟨by (with_reducible repeat (first | apply Kd.R_alloc | apply Kd.R_drewN | apply Kd.R_drew)); exact HO222.out⟩, ⟨by repeat (first | (with_reducible first | exact HI0.out | apply IsS125.alloc | apply IsS125.drewN | apply IsS125.drew | apply IsS125.set_1) | exact HI0.out)⟩, ⟨by repeat (first | (with_reducible first | exact HK.out | apply KeepBut.set_ | apply keep_drewN | apply keep_drew | apply keep_alloc) | exact HK.out)⟩, ⟨by repeat (first | (with_reducible first | exact HB.out | apply below_alloc | apply pw_below_drewN | apply below_drew1 | refine below_set ?_ (IsS125.ge HI0.out)) | exact HB.out)⟩⟩
  case round =>
    clear H'
    try clear p2
    try clear p6
    try clear c9
    obtain ⟨x5_1, x6_1, x7_1, x8_1, x10_1, x1001_1, rfl, rfl, rfl, rfl, HA, HK1, HO_5, HI0, HK, HB⟩ := hrel
    cases gk with
    | zero => exact absurd HA.out (by simp [spec_l20Trend.l0])
    | succ k1 =>
      have H := HA.out
      clear HA
      simp only [spec_l20Trend.l0] at H
      by_cases c15 : x10_1 > 0
      · rw [if_pos c15] at H
        have c15b0 : decide (0 < x10_1) = true := decide_eq_true c15
        clear c15
        replace H := Option.bind_eq_some_iff.mp H
        obtain ⟨⟨t233, t234⟩, A160, H⟩ := H
        replace H : (if x5_1.length < 8796093022208 then ((some (x5_1 ++ [(⟨x6_1, wrap64 (x7_1 + t233)⟩ : S84)] : List (S84))).bind fun y235 => ((spec_l20Rd_pick.f k1 s0_0 t234 6).bind fun bt238 => ((spec_l20Rd_odd.f k1 s0_0 bt238.2 5).bind fun bt240 => (if bt240.1 = true then ((spec_l20Rd_pick.f k1 s0_0 bt240.2 41).bind fun bt242 => (spec_l20Trend.l0 k1 a1 y235 (wrap64 (x6_1 + (wrap64 (1 + bt238.1)))) (wrap64 (x7_1 + (wrap64 (x8_1 * (wrap64 (1 + bt238.1)))))) (wrap64 (bt242.1 - 20)) (wrap64 (1 + t229)) (wrap64 (x10_1 - 1)) s0_0 bt242.2)) else (spec_l20Trend.l0 k1 a1 y235 (wrap64 (x6_1 + (wrap64 (1 + bt238.1)))) (wrap64 (x7_1 + (wrap64 (x8_1 * (wrap64 (1 + bt238.1)))))) x8_1 (wrap64 (1 + t229)) (wrap64 (x10_1 - 1)) s0_0 bt240.2))))) else (none)) = some (r1, r2) := H
        have A16 := Aside0.mk A160
        clear A160
        by_cases c17 : x5_1.length < 8796093022208
        · rw [if_pos c17] at H
          have LMc17 := Aside0.mk c17
          clear c17
          obtain ⟨y235, hy235⟩ : ∃ y_ : List (S84), y_ = (x5_1 ++ [(⟨x6_1, wrap64 (x7_1 + t233)⟩ : S84)]) := ⟨_, rfl⟩
          replace H : ((spec_l20Rd_pick.f k1 s0_0 t234 6).bind fun bt238 => ((spec_l20Rd_odd.f k1 s0_0 bt238.2 5).bind fun bt240 => (if bt240.1 = true then ((spec_l20Rd_pick.f k1 s0_0 bt240.2 41).bind fun bt242 => (spec_l20Trend.l0 k1 a1 y235 (wrap64 (x6_1 + (wrap64 (1 + bt238.1)))) (wrap64 (x7_1 + (wrap64 (x8_1 * (wrap64 (1 + bt238.1)))))) (wrap64 (bt242.1 - 20)) (wrap64 (1 + t229)) (wrap64 (x10_1 - 1)) s0_0 bt242.2)) else (spec_l20Trend.l0 k1 a1 y235 (wrap64 (x6_1 + (wrap64 (1 + bt238.1)))) (wrap64 (x7_1 + (wrap64 (x8_1 * (wrap64 (1 + bt238.1)))))) x8_1 (wrap64 (1 + t229)) (wrap64 (x10_1 - 1)) s0_0 bt240.2)))) = some (r1, r2) := by first | (rw [hy235]; with_reducible exact H) | (have H2_ := (Option.bind_some _ _).symm.trans H; rw [hy235]; with_reducible exact H2_) | (have H2_ := (Option.bind_some _ _).symm.trans H; with_reducible exact H2_) | with_reducible exact H | (rw [hy235]; exact H) | exact H
          have Ny235 := Aside0.mk hy235
          clear hy235
          replace H := Option.bind_eq_some_iff.mp H
          obtain ⟨⟨t238, t239⟩, A180, H⟩ := H
          replace H : ((spec_l20Rd_odd.f k1 s0_0 t239 5).bind fun bt240 => (if bt240.1 = true then ((spec_l20Rd_pick.f k1 s0_0 bt240.2 41).bind fun bt242 => (spec_l20Trend.l0 k1 a1 y235 (wrap64 (x6_1 + (wrap64 (1 + t238)))) (wrap64 (x7_1 + (wrap64 (x8_1 * (wrap64 (1 + t238)))))) (wrap64 (bt242.1 - 20)) (wrap64 (1 + t229)) (wrap64 (x10_1 - 1)) s0_0 bt242.2)) else (spec_l20Trend.l0 k1 a1 y235 (wrap64 (x6_1 + (wrap64 (1 + t238)))) (wrap64 (x7_1 + (wrap64 (x8_1 * (wrap64 (1 + t238)))))) x8_1 (wrap64 (1 + t229)) (wrap64 (x10_1 - 1)) s0_0 bt240.2))) = some (r1, r2) := H
          have A18 := Aside0.mk A180
          clear A180
          replace H := Option.bind_eq_some_iff.mp H
          obtain ⟨⟨t240, t241⟩, A190, H⟩ := H
          replace H : (if t240 = true then ((spec_l20Rd_pick.f k1 s0_0 t241 41).bind fun bt242 => (spec_l20Trend.l0 k1 a1 y235 (wrap64 (x6_1 + (wrap64 (1 + t238)))) (wrap64 (x7_1 + (wrap64 (x8_1 * (wrap64 (1 + t238)))))) (wrap64 (bt242.1 - 20)) (wrap64 (1 + t229)) (wrap64 (x10_1 - 1)) s0_0 bt242.2)) else (spec_l20Trend.l0 k1 a1 y235 (wrap64 (x6_1 + (wrap64 (1 + t238)))) (wrap64 (x7_1 + (wrap64 (x8_1 * (wrap64 (1 + t238)))))) x8_1 (wrap64 (1 + t229)) (wrap64 (x10_1 - 1)) s0_0 t241)) = some (r1, r2) := H
          have A19 := Aside0.mk A190
          clear A190
          by_cases c20 : t240 = true
          · subst c20
            have H1 : ((spec_l20Rd_pick.f k1 s0_0 t241 41).bind fun bt242 => (spec_l20Trend.l0 k1 a1 y235 (wrap64 (x6_1 + (wrap64 (1 + t238)))) (wrap64 (x7_1 + (wrap64 (x8_1 * (wrap64 (1 + t238)))))) (wrap64 (bt242.1 - 20)) (wrap64 (1 + t229)) (wrap64 (x10_1 - 1)) s0_0 bt242.2)) = some (r1, r2) := by rw [if_pos rfl] at H; exact H
            clear H
            have H := H1
            clear H1
            replace H := Option.bind_eq_some_iff.mp H
            obtain ⟨⟨t242, t243⟩, A210, H⟩ := H
            replace H : (spec_l20Trend.l0 k1 a1 y235 (wrap64 (x6_1 + (wrap64 (1 + t238)))) (wrap64 (x7_1 + (wrap64 (x8_1 * (wrap64 (1 + t238)))))) (wrap64 (t242 - 20)) (wrap64 (1 + t229)) (wrap64 (x10_1 - 1)) s0_0 t243) = some (r1, r2) := H
            have A21 := Aside0.mk A210
            clear A210
            have H' := Aside0.mk H
            clear H
            go_wp2_with (first | ((with_reducible refine gate_callee (f := 91) rfl ?_); refine goesL_ (some 36) rfl rfl Try.func91 (by kernel_rfl) rfl #[.pointer (some ⟨g, 0, none⟩), .int .i64 (wrap64 (1 + t229))] rfl (by (try simp only [List.map_toArray, List.map_cons, List.map_nil]); first | done | rfl | (simp only [List.length_drop, List.length_take]; rfl)) ?_; (with_reducible refine (spec_l20Rd_pick.calls k1 g s0_0 x1001_1 (wrap64 (1 + t229)) t233 t234 w0 _ ?side1 ?side2 A16.out).mono ?_); (case side1 => repeat (first | (with_reducible first | exact HI0.out | apply IsS125.alloc | apply IsS125.drewN | apply IsS125.drew | apply IsS125.set_1) | exact HI0.out)); (case side2 => repeat (first | (with_reducible first | exact HB.out | apply below_alloc | apply pw_below_drewN | apply below_drew1 | refine below_set ?_ (IsS125.ge HI0.out)) | exact HB.out)); rintro e w22 ⟨rfl, hi, hb, hk⟩; refine ⟨_, rfl, ?_⟩; have n0_ := Aside0.mk (Kd.R_mono (Kd.R_keep (IsS125.apart (show IsS125 w0 _ g s0_0 x1001_1 from by repeat (first | (with_reducible first | exact HI0.out | apply IsS125.alloc | apply IsS125.drewN | apply IsS125.drew | apply IsS125.set_1) | exact HI0.out)) (by (with_reducible repeat (first | apply Kd.R_alloc | apply Kd.R_drewN | apply Kd.R_drew)); exact HO_5.out) (by decide)) hk (fun _ h => h.2)) (fun _ h => h.1)); have n1_ := Aside0.mk (KeepBut.trans (by repeat (first | (with_reducible first | exact HK.out | apply KeepBut.set_ | apply keep_drewN | apply keep_drew | apply keep_alloc) | exact HK.out)) hk (.inl rfl)); have n2_ := Aside0.mk (hb); have n3_ := Aside0.mk (hi); clear HO_5; clear HK; clear HB; clear HI0; have HO_5 := n0_; have HK := n1_; have HB := n2_; have HI0 := n3_; clear n0_ n1_ n2_ n3_; (try clear hb); (try clear hb2); (try clear hk); (try clear hi)) | ((with_reducible refine gate_builtin (b := .append) (xs := #[.tmp 31, .tmp 39]) rfl ?_); at_builtin; refine Kd.R_append k84 w.heap.size rfl (.tmp 31) (.tmp 39) 25 84 (.agg #[(.int .i64 0), (.int .i64 0)]) 16 rfl Try.underlying25 info84 rfl (by decide) (by omega) u5 x5_1 (⟨x6_1, wrap64 (x7_1 + t233)⟩ : S84) [.int .i64 x6_1, .int .i64 (wrap64 (x7_1 + t233))] (fun _ => True) (fun _ => False) rfl rfl ?aP (fun _ hk => hk.elim) ?aF ?aO (Below.refl _ _) ?aS ?aL ?_; (case aP => exact k84_mkM _ _ _ (⟨x6_1, wrap64 (x7_1 + t233)⟩ : S84)); (case aF => exact (fun _ _ => trivial)); (case aO => exact (by (with_reducible repeat (first | apply Kd.R_alloc | apply Kd.R_drewN | apply Kd.R_drew)); exact HO_5.out)); (case aS => exact (keep_size (w := w) (g := g) (row := none) (by repeat (first | (with_reducible first | exact HK.out | apply KeepBut.set_ | apply keep_drewN | apply keep_drew | apply keep_alloc) | exact HK.out)))); (case aL => have := LMc17.out; omega); intro v236 w23 ho hb hg hat; rw [← Ny235.out] at ho; have n0_ := Aside0.mk (IsS125.grown (by repeat (first | (with_reducible first | exact HI0.out | apply IsS125.alloc | apply IsS125.drewN | apply IsS125.drew | apply IsS125.set_1) | exact HI0.out)) hg (IsS125.own_ne HI0.out HO_5.out (by decide))); have n1_ := Aside0.mk (below_weaken (by repeat (first | (with_reducible first | exact HB.out | apply below_alloc | apply pw_below_drewN | apply below_drew1 | refine below_set ?_ (IsS125.ge HI0.out)) | exact HB.out)) HL.out hb); have n2_ := Aside0.mk (KeepBut.trans (by repeat (first | (with_reducible first | exact HK.out | apply KeepBut.set_ | apply keep_drewN | apply keep_drew | apply keep_alloc) | exact HK.out)) (KeepBut.of_grown hg g) (Kd.R_base2 HO_5.out)); have n3_ := Aside0.mk (ho); clear HI0; clear HB; clear HK; clear HO_5; have HI0 := n0_; have HB := n1_; have HK := n2_; have HO237 := n3_; clear n0_ n1_ n2_ n3_; clear ho hb hg hat) | ((with_reducible refine gate_callee (f := 91) rfl ?_); refine goesL_ (some 42) rfl rfl Try.func91 (by kernel_rfl) rfl #[.pointer (some ⟨g, 0, none⟩), .int .i64 6] rfl (by (try simp only [List.map_toArray, List.map_cons, List.map_nil]); first | done | rfl | (simp only [List.length_drop, List.length_take]; rfl)) ?_; (with_reducible refine (spec_l20Rd_pick.calls k1 g s0_0 t234 6 t238 t239 w0 _ ?side1 ?side2 A18.out).mono ?_); (case side1 => repeat (first | (with_reducible first | exact HI0.out | apply IsS125.alloc | apply IsS125.drewN | apply IsS125.drew | apply IsS125.set_1) | exact HI0.out)); (case side2 => repeat (first | (with_reducible first | exact HB.out | apply below_alloc | apply pw_below_drewN | apply below_drew1 | refine below_set ?_ (IsS125.ge HI0.out)) | exact HB.out)); rintro e w24 ⟨rfl, hi, hb, hk⟩; refine ⟨_, rfl, ?_⟩; have n0_ := Aside0.mk (Kd.R_mono (Kd.R_keep (IsS125.apart (show IsS125 w0 _ g s0_0 t234 from by repeat (first | (with_reducible first | exact HI0.out | apply IsS125.alloc | apply IsS125.drewN | apply IsS125.drew | apply IsS125.set_1) | exact HI0.out)) (by (with_reducible repeat (first | apply Kd.R_alloc | apply Kd.R_drewN | apply Kd.R_drew)); exact HO237.out) (by decide)) hk (fun _ h => h.2)) (fun _ h => h.1)); have n1_ := Aside0.mk (KeepBut.trans (by repeat (first | (with_reducible first | exact HK.out | apply KeepBut.set_ | apply keep_drewN | apply keep_drew | apply keep_alloc) | exact HK.out)) hk (.inl rfl)); have n2_ := Aside0.mk (hb); have n3_ := Aside0.mk (hi); clear HO237; clear HK; clear HB; clear HI0; have HO237 := n0_; have HK := n1_; have HB := n2_; have HI0 := n3_; clear n0_ n1_ n2_ n3_; (try clear hb); (try clear hb2); (try clear hk); (try clear hi)) | ((with_reducible refine gate_callee (f := 103) rfl ?_); refine goesL_ (some 53) rfl rfl Try.func103 (by kernel_rfl) rfl #[.pointer (some ⟨g, 0, none⟩), .int .i64 5] rfl (by (try simp only [List.map_toArray, List.map_cons, List.map_nil]); first | done | rfl | (simp only [List.length_drop, List.length_take]; rfl)) ?_; (with_reducible refine (spec_l20Rd_odd.calls k1 g s0_0 t239 5 true t241 w0 _ ?side1 ?side2 A19.out).mono ?_); (case side1 => repeat (first | (with_reducible first | exact HI0.out | apply IsS125.alloc | apply IsS125.drewN | apply IsS125.drew | apply IsS125.set_1) | exact HI0.out)); (case side2 => repeat (first | (with_reducible first | exact HB.out | apply below_alloc | apply pw_below_drewN | apply below_drew1 | refine below_set ?_ (IsS125.ge HI0.out)) | exact HB.out)); rintro e w25 ⟨rfl, hi, hb, hk⟩; refine ⟨_, rfl, ?_⟩; have n0_ := Aside0.mk (Kd.R_mono (Kd.R_keep (IsS125.apart (show IsS125 w0 _ g s0_0 t239 from by repeat (first | (with_reducible first | exact HI0.out | apply IsS125.alloc | apply IsS125.drewN | apply IsS125.drew | apply IsS125.set_1) | exact HI0.out)) (by (with_reducible repeat (first | apply Kd.R_alloc | apply Kd.R_drewN | apply Kd.R_drew)); exact HO237.out) (by decide)) hk (fun _ h => h.2)) (fun _ h => h.1)); have n1_ := Aside0.mk (KeepBut.trans (by repeat (first | (with_reducible first | exact HK.out | apply KeepBut.set_ | apply keep_drewN | apply keep_drew | apply keep_alloc) | exact HK.out)) hk (.inl rfl)); have n2_ := Aside0.mk (hb); have n3_ := Aside0.mk (hi); clear HO237; clear HK; clear HB; clear HI0; have HO237 := n0_; have HK := n1_; have HB := n2_; have HI0 := n3_; clear n0_ n1_ n2_ n3_; (try clear hb); (try clear hb2); (try clear hk); (try clear hi)) | ((with_reducible refine gate_callee (f := 91) rfl ?_); refine goesL_ (some 55) rfl rfl Try.func91 (by kernel_rfl) rfl #[.pointer (some ⟨g, 0, none⟩), .int .i64 41] rfl (by (try simp only [List.map_toArray, List.map_cons, List.map_nil]); first | done | rfl | (simp only [List.length_drop, List.length_take]; rfl)) ?_; (with_reducible refine (spec_l20Rd_pick.calls k1 g s0_0 t241 41 t242 t243 w0 _ ?side1 ?side2 A21.out).mono ?_); (case side1 => repeat (first | (with_reducible first | exact HI0.out | apply IsS125.alloc | apply IsS125.drewN | apply IsS125.drew | apply IsS125.set_1) | exact HI0.out)); (case side2 => repeat (first | (with_reducible first | exact HB.out | apply below_alloc | apply pw_below_drewN | apply below_drew1 | refine below_set ?_ (IsS125.ge HI0.out)) | exact HB.out)); rintro e w26 ⟨rfl, hi, hb, hk⟩; refine ⟨_, rfl, ?_⟩; have n0_ := Aside0.mk (Kd.R_mono (Kd.R_keep (IsS125.apart (show IsS125 w0 _ g s0_0 t241 from by repeat (first | (with_reducible first | exact HI0.out | apply IsS125.alloc | apply IsS125.drewN | apply IsS125.drew | apply IsS125.set_1) | exact HI0.out)) (by (with_reducible repeat (first | apply Kd.R_alloc | apply Kd.R_drewN | apply Kd.R_drew)); exact HO237.out) (by decide)) hk (fun _ h => h.2)) (fun _ h => h.1)); have n1_ := Aside0.mk (KeepBut.trans (by repeat (first | (with_reducible first | exact HK.out | apply KeepBut.set_ | apply keep_drewN | apply keep_drew | apply keep_alloc) | exact HK.out)) hk (.inl rfl)); have n2_ := Aside0.mk (hb); have n3_ := Aside0.mk (hi); clear HO237; clear HK; clear HB; clear HI0; have HO237 := n0_; have HK := n1_; have HB := n2_; have HI0 := n3_; clear n0_ n1_ n2_ n3_; (try clear hb); (try clear hb2); (try clear hk); (try clear hi)))
            go_roundg k1
            case measure => have := HK1.out; omega
            case rel => exact ⟨(y235), (wrap64 (x6_1 + (wrap64 (1 + t238)))), (wrap64 (x7_1 + (wrap64 (x8_1 * (wrap64 (1 + t238)))))), (wrap64 (t242 - 20)), (wrap64 (x10_1 - 1)), (t243), (by first | rfl | (simp; done) | (simp [*]; done)), (by first | rfl | (simp; done) | (simp [*]; done)), (by first | rfl | (simp; done) | (simp [*]; done)), (by first | rfl | (simp; done) | (simp [*]; done)), H', ⟨by have := HK1.out; omega⟩, ⟨by (with_reducible repeat (first | apply Kd.R_alloc | apply Kd.R_drewN | apply Kd.R_drew)); exact HO237.out⟩, ⟨by repeat (first | (with_reducible first | exact HI0.out | apply IsS125.alloc | apply IsS125.drewN | apply IsS125.drew | apply IsS125.set_1) | exact HI0.out)⟩, ⟨by repeat (first | (with_reducible first | exact HK.out | apply KeepBut.set_ | apply keep_drewN | apply keep_drew | apply keep_alloc) | exact HK.out)⟩, ⟨by repeat (first | (with_reducible first | exact HB.out | apply below_alloc | apply pw_below_drewN | apply below_drew1 | refine below_set ?_ (IsS125.ge HI0.out)) | exact HB.out)⟩⟩
          · replace c20 := Bool.eq_false_iff.mpr c20
            subst c20
            have H1 : (spec_l20Trend.l0 k1 a1 y235 (wrap64 (x6_1 + (wrap64 (1 + t238)))) (wrap64 (x7_1 + (wrap64 (x8_1 * (wrap64 (1 + t238)))))) x8_1 (wrap64 (1 + t229)) (wrap64 (x10_1 - 1)) s0_0 t241) = some (r1, r2) := by rw [if_neg (show ¬ (false = true) by decide)] at H; exact H
            clear H
            have H := H1
            clear H1
            have H' := Aside0.mk H
            clear H
            go_wp2_with (first | ((with_reducible refine gate_callee (f := 91) rfl ?_); refine goesL_ (some 36) rfl rfl Try.func91 (by kernel_rfl) rfl #[.pointer (some ⟨g, 0, none⟩), .int .i64 (wrap64 (1 + t229))] rfl (by (try simp only [List.map_toArray, List.map_cons, List.map_nil]); first | done | rfl | (simp only [List.length_drop, List.length_take]; rfl)) ?_; (with_reducible refine (spec_l20Rd_pick.calls k1 g s0_0 x1001_1 (wrap64 (1 + t229)) t233 t234 w0 _ ?side1 ?side2 A16.out).mono ?_); (case side1 => repeat (first | (with_reducible first | exact HI0.out | apply IsS125.alloc | apply IsS125.drewN | apply IsS125.drew | apply IsS125.set_1) | exact HI0.out)); (case side2 => repeat (first | (with_reducible first | exact HB.out | apply below_alloc | apply pw_below_drewN | apply below_drew1 | refine below_set ?_ (IsS125.ge HI0.out)) | exact HB.out)); rintro e w27 ⟨rfl, hi, hb, hk⟩; refine ⟨_, rfl, ?_⟩; have n0_ := Aside0.mk (Kd.R_mono (Kd.R_keep (IsS125.apart (show IsS125 w0 _ g s0_0 x1001_1 from by repeat (first | (with_reducible first | exact HI0.out | apply IsS125.alloc | apply IsS125.drewN | apply IsS125.drew | apply IsS125.set_1) | exact HI0.out)) (by (with_reducible repeat (first | apply Kd.R_alloc | apply Kd.R_drewN | apply Kd.R_drew)); exact HO_5.out) (by decide)) hk (fun _ h => h.2)) (fun _ h => h.1)); have n1_ := Aside0.mk (KeepBut.trans (by repeat (first | (with_reducible first | exact HK.out | apply KeepBut.set_ | apply keep_drewN | apply keep_drew | apply keep_alloc) | exact HK.out)) hk (.inl rfl)); have n2_ := Aside0.mk (hb); have n3_ := Aside0.mk (hi); clear HO_5; clear HK; clear HB; clear HI0; have HO_5 := n0_; have HK := n1_; have HB := n2_; have HI0 := n3_; clear n0_ n1_ n2_ n3_; (try clear hb); (try clear hb2); (try clear hk); (try clear hi)) | ((with_reducible refine gate_builtin (b := .append) (xs := #[.tmp 31, .tmp 39]) rfl ?_); at_builtin; refine Kd.R_append k84 w.heap.size rfl (.tmp 31) (.tmp 39) 25 84 (.agg #[(.int .i64 0), (.int .i64 0)]) 16 rfl Try.underlying25 info84 rfl (by decide) (by omega) u5 x5_1 (⟨x6_1, wrap64 (x7_1 + t233)⟩ : S84) [.int .i64 x6_1, .int .i64 (wrap64 (x7_1 + t233))] (fun _ => True) (fun _ => False) rfl rfl ?aP (fun _ hk => hk.elim) ?aF ?aO (Below.refl _ _) ?aS ?aL ?_; (case aP => exact k84_mkM _ _ _ (⟨x6_1, wrap64 (x7_1 + t233)⟩ : S84)); (case aF => exact (fun _ _ => trivial)); (case aO => exact (by (with_reducible repeat (first | apply Kd.R_alloc | apply Kd.R_drewN | apply Kd.R_drew)); exact HO_5.out)); (case aS => exact (keep_size (w := w) (g := g) (row := none) (by repeat (first | (with_reducible first | exact HK.out | apply KeepBut.set_ | apply keep_drewN | apply keep_drew | apply keep_alloc) | exact HK.out)))); (case aL => have := LMc17.out; omega); intro v236 w28 ho hb hg hat; rw [← Ny235.out] at ho; have n0_ := Aside0.mk (IsS125.grown (by repeat (first | (with_reducible first | exact HI0.out | apply IsS125.alloc | apply IsS125.drewN | apply IsS125.drew | apply IsS125.set_1) | exact HI0.out)) hg (IsS125.own_ne HI0.out HO_5.out (by decide))); have n1_ := Aside0.mk (below_weaken (by repeat (first | (with_reducible first | exact HB.out | apply below_alloc | apply pw_below_drewN | apply below_drew1 | refine below_set ?_ (IsS125.ge HI0.out)) | exact HB.out)) HL.out hb); have n2_ := Aside0.mk (KeepBut.trans (by repeat (first | (with_reducible first | exact HK.out | apply KeepBut.set_ | apply keep_drewN | apply keep_drew | apply keep_alloc) | exact HK.out)) (KeepBut.of_grown hg g) (Kd.R_base2 HO_5.out)); have n3_ := Aside0.mk (ho); clear HI0; clear HB; clear HK; clear HO_5; have HI0 := n0_; have HB := n1_; have HK := n2_; have HO237 := n3_; clear n0_ n1_ n2_ n3_; clear ho hb hg hat) | ((with_reducible refine gate_callee (f := 91) rfl ?_); refine goesL_ (some 42) rfl rfl Try.func91 (by kernel_rfl) rfl #[.pointer (some ⟨g, 0, none⟩), .int .i64 6] rfl (by (try simp only [List.map_toArray, List.map_cons, List.map_nil]); first | done | rfl | (simp only [List.length_drop, List.length_take]; rfl)) ?_; (with_reducible refine (spec_l20Rd_pick.calls k1 g s0_0 t234 6 t238 t239 w0 _ ?side1 ?side2 A18.out).mono ?_); (case side1 => repeat (first | (with_reducible first | exact HI0.out | apply IsS125.alloc | apply IsS125.drewN | apply IsS125.drew | apply IsS125.set_1) | exact HI0.out)); (case side2 => repeat (first | (with_reducible first | exact HB.out | apply below_alloc | apply pw_below_drewN | apply below_drew1 | refine below_set ?_ (IsS125.ge HI0.out)) | exact HB.out)); rintro e w29 ⟨rfl, hi, hb, hk⟩; refine ⟨_, rfl, ?_⟩; have n0_ := Aside0.mk (Kd.R_mono (Kd.R_keep (IsS125.apart (show IsS125 w0 _ g s0_0 t234 from by repeat (first | (with_reducible first | exact HI0.out | apply IsS125.alloc | apply IsS125.drewN | apply IsS125.drew | apply IsS125.set_1) | exact HI0.out)) (by (with_reducible repeat (first | apply Kd.R_alloc | apply Kd.R_drewN | apply Kd.R_drew)); exact HO237.out) (by decide)) hk (fun _ h => h.2)) (fun _ h => h.1)); have n1_ := Aside0.mk (KeepBut.trans (by repeat (first | (with_reducible first | exact HK.out | apply KeepBut.set_ | apply keep_drewN | apply keep_drew | apply keep_alloc) | exact HK.out)) hk (.inl rfl)); have n2_ := Aside0.mk (hb); have n3_ := Aside0.mk (hi); clear HO237; clear HK; clear HB; clear HI0; have HO237 := n0_; have HK := n1_; have HB := n2_; have HI0 := n3_; clear n0_ n1_ n2_ n3_; (try clear hb); (try clear hb2); (try clear hk); (try clear hi)) | ((with_reducible refine gate_callee (f := 103) rfl ?_); refine goesL_ (some 53) rfl rfl Try.func103 (by kernel_rfl) rfl #[.pointer (some ⟨g, 0, none⟩), .int .i64 5] rfl (by (try simp only [List.map_toArray, List.map_cons, List.map_nil]); first | done | rfl | (simp only [List.length_drop, List.length_take]; rfl)) ?_; (with_reducible refine (spec_l20Rd_odd.calls k1 g s0_0 t239 5 false t241 w0 _ ?side1 ?side2 A19.out).mono ?_); (case side1 => repeat (first | (with_reducible first | exact HI0.out | apply IsS125.alloc | apply IsS125.drewN | apply IsS125.drew | apply IsS125.set_1) | exact HI0.out)); (case side2 => repeat (first | (with_reducible first | exact HB.out | apply below_alloc | apply pw_below_drewN | apply below_drew1 | refine below_set ?_ (IsS125.ge HI0.out)) | exact HB.out)); rintro e w30 ⟨rfl, hi, hb, hk⟩; refine ⟨_, rfl, ?_⟩; have n0_ := Aside0.mk (Kd.R_mono (Kd.R_keep (IsS125.apart (show IsS125 w0 _ g s0_0 t239 from by repeat (first | (with_reducible first | exact HI0.out | apply IsS125.alloc | apply IsS125.drewN | apply IsS125.drew | apply IsS125.set_1) | exact HI0.out)) (by (with_reducible repeat (first | apply Kd.R_alloc | apply Kd.R_drewN | apply Kd.R_drew)); exact HO237.out) (by decide)) hk (fun _ h => h.2)) (fun _ h => h.1)); have n1_ := Aside0.mk (KeepBut.trans (by repeat (first | (with_reducible first | exact HK.out | apply KeepBut.set_ | apply keep_drewN | apply keep_drew | apply keep_alloc) | exact HK.out)) hk (.inl rfl)); have n2_ := Aside0.mk (hb); have n3_ := Aside0.mk (hi); clear HO237; clear HK; clear HB; clear HI0; have HO237 := n0_; have HK := n1_; have HB := n2_; have HI0 := n3_; clear n0_ n1_ n2_ n3_; (try clear hb); (try clear hb2); (try clear hk); (try clear hi)))
            go_roundg k1
            case measure => have := HK1.out; omega
            case rel => exact ⟨(y235), (wrap64 (x6_1 + (wrap64 (1 + t238)))), (wrap64 (x7_1 + (wrap64 (x8_1 * (wrap64 (1 + t238)))))), (x8_1), (wrap64 (x10_1 - 1)), (t241), (by first | rfl | (simp; done) | (simp [*]; done)), (by first | rfl | (simp; done) | (simp [*]; done)), (by first | rfl | (simp; done) | (simp [*]; done)), (by first | rfl | (simp; done) | (simp [*]; done)), H', ⟨by have := HK1.out; omega⟩, ⟨by (with_reducible repeat (first | apply Kd.R_alloc | apply Kd.R_drewN | apply Kd.R_drew)); exact HO237.out⟩, ⟨by repeat (first | (with_reducible first | exact HI0.out | apply IsS125.alloc | apply IsS125.drewN | apply IsS125.drew | apply IsS125.set_1) | exact HI0.out)⟩, ⟨by repeat (first | (with_reducible first | exact HK.out | apply KeepBut.set_ | apply keep_drewN | apply keep_drew | apply keep_alloc) | exact HK.out)⟩, ⟨by repeat (first | (with_reducible first | exact HB.out | apply below_alloc | apply pw_below_drewN | apply below_drew1 | refine below_set ?_ (IsS125.ge HI0.out)) | exact HB.out)⟩⟩
        · rw [if_neg c17] at H
          exact absurd H (by simp)
      · rw [if_neg c15] at H
        have c15b0 : decide (0 < x10_1) = false := decide_eq_false c15
        clear c15
        have HC31 := Aside0.mk H
        clear H
        go_upto_region 15 with (fail)
        go_cut [64] (fun v64 wc => ∃ (kq : Nat) (x64_30 : Bool) (x1001_30 : Int), v64 = .bool x64_30 ∧ Aside0 (spec_l20Trend.j1 kq x5_1 x64_30 s0_0 x1001_30 = some (r1, r2)) ∧ Aside0 (kq ≤ k1) ∧ Aside0 (Kd.R k84 84 wc w.heap.size (fun _ => True) u5 x5_1) ∧ Aside0 (IsS125 w0 wc g s0_0 x1001_30) ∧ Aside0 (KeepBut w wc g none) ∧ Aside0 (Below w0.heap.size w0 wc))
        case first =>
          have H := HC31.out
          clear HC31
          by_cases c32 : (x5_1.length : Int) > 0
          · rw [if_pos c32] at H
            have c32b0 : decide (0 < (x5_1.length : Int)) = true := decide_eq_true c32
            have c32b1 : decide (0 < x5_1.length) = true := decide_eq_true (by omega)
            clear c32
            (first | rw [c32b0] | (simp only [i64_w, i32_w]; rw [c32b0]) | skip)
            replace H := Option.bind_eq_some_iff.mp H
            obtain ⟨⟨t244, t245⟩, A330, H⟩ := H
            replace H : (spec_l20Trend.j1 k1 x5_1 t244 s0_0 t245) = some (r1, r2) := H
            have A33 := Aside0.mk A330
            clear A330
            have H' := Aside0.mk H
            clear H
            obtain ⟨Ao34, co34, eo34⟩ := Kd.R_slice HO_5.out
            subst eo34
            go_wp2_with (first | (go_at_call 103; (with_reducible refine (spec_l20Rd_odd.calls k1 g s0_0 x1001_1 a1 t244 t245 w0 _ ?side1 ?side2 A33.out).mono ?_); (case side1 => repeat (first | (with_reducible first | exact HI0.out | apply IsS125.alloc | apply IsS125.drewN | apply IsS125.drew | apply IsS125.set_1) | exact HI0.out)); (case side2 => repeat (first | (with_reducible first | exact HB.out | apply below_alloc | apply pw_below_drewN | apply below_drew1 | refine below_set ?_ (IsS125.ge HI0.out)) | exact HB.out)); rintro e w35 ⟨rfl, hi, hb, hk⟩; have n0_ := Aside0.mk (Kd.R_mono (Kd.R_keep (IsS125.apart (show IsS125 w0 _ g s0_0 x1001_1 from by repeat (first | (with_reducible first | exact HI0.out | apply IsS125.alloc | apply IsS125.drewN | apply IsS125.drew | apply IsS125.set_1) | exact HI0.out)) (by (with_reducible repeat (first | apply Kd.R_alloc | apply Kd.R_drewN | apply Kd.R_drew)); exact HO_5.out) (by decide)) hk (fun _ h => h.2)) (fun _ h => h.1)); have n1_ := Aside0.mk (KeepBut.trans (by repeat (first | (with_reducible first | exact HK.out | apply KeepBut.set_ | apply keep_drewN | apply keep_drew | apply keep_alloc) | exact HK.out)) hk (.inl rfl)); have n2_ := Aside0.mk (hb); have n3_ := Aside0.mk (hi); clear HO_5; clear HK; clear HB; clear HI0; have HO_5 := n0_; have HK := n1_; have HB := n2_; have HI0 := n3_; clear n0_ n1_ n2_ n3_; (try clear hb); (try clear hb2); (try clear hk); (try clear hi)))
            go_meet
            case rel => exact ⟨_, (t244), (t245), (by first | rfl | (simp; done) | (simp [*]; done)), H', ⟨by have := HK1.out; first | omega | exact Nat.le_refl _⟩, ⟨by (with_reducible repeat (first | apply Kd.R_alloc | apply Kd.R_drewN | apply Kd.R_drew)); exact HO_5.out⟩, ⟨by repeat (first | (with_reducible first | exact HI0.out | apply IsS125.alloc | apply IsS125.drewN | apply IsS125.drew | apply IsS125.set_1) | exact HI0.out)⟩, ⟨by repeat (first | (with_reducible first | exact HK.out | apply KeepBut.set_ | apply keep_drewN | apply keep_drew | apply keep_alloc) | exact HK.out)⟩, ⟨by repeat (first | (with_reducible first | exact HB.out | apply below_alloc | apply pw_below_drewN | apply below_drew1 | refine below_set ?_ (IsS125.ge HI0.out)) | exact HB.out)⟩⟩
          · rw [if_neg c32] at H
            have c32b0 : decide (0 < (x5_1.length : Int)) = false := decide_eq_false c32
            have c32b1 : decide (0 < x5_1.length) = false := decide_eq_false (by omega)
            clear c32
            (first | rw [c32b0] | (simp only [i64_w, i32_w]; rw [c32b0]) | skip)
            have H' := Aside0.mk H
            clear H
            obtain ⟨Ao36, co36, eo36⟩ := Kd.R_slice HO_5.out
            subst eo36
            go_wp2
            go_meet
            case rel => exact ⟨_, (false), (x1001_1), (by first | rfl | (simp; done) | (simp [*]; done)), H', ⟨by have := HK1.out; first | omega | exact Nat.le_refl _⟩, ⟨by (with_reducible repeat (first | apply Kd.R_alloc | apply Kd.R_drewN | apply Kd.R_drew)); exact HO_5.out⟩, ⟨by repeat (first | (with_reducible first | exact HI0.out | apply IsS125.alloc | apply IsS125.drewN | apply IsS125.drew | apply IsS125.set_1) | exact HI0.out)⟩, ⟨by repeat (first | (with_reducible first | exact HK.out | apply KeepBut.set_ | apply keep_drewN | apply keep_drew | apply keep_alloc) | exact HK.out)⟩, ⟨by repeat (first | (with_reducible first | exact HB.out | apply below_alloc | apply pw_below_drewN | apply below_drew1 | refine below_set ?_ (IsS125.ge HI0.out)) | exact HB.out)⟩⟩
        case rest =>
          clear HC31
          try clear c1
          try clear c2
          try clear p2
          try clear c3
          try clear p6
          try clear c9
          try clear c10
          try clear c15
          try clear c15b0
          try clear c17
          try clear c20
          try clear c32
          try clear c32b0
          try clear c32b1
          try clear p2
          try clear p6
          obtain ⟨kq, x64_30, x1001_30, rfl, HA, HJ30, HO_5, HI0, HK, HB⟩ := hcut
          cases kq with
          | zero => exact absurd HA.out (by simp [spec_l20Trend.j1])
          | succ kj30 =>
            have H := HA.out
            clear HA
            simp only [spec_l20Trend.j1] at H
            by_cases c37 : x64_30 = true
            · subst c37
              have H1 : ((spec_l20Rd_pick.f kj30 s0_0 x1001_30 (x5_1.length : Int)).bind fun bt246 => ((spec_l20Rd_pick.f kj30 s0_0 bt246.2 3).bind fun bt248 => (if bt248.1 = 0 then ((some (([(-1), 10001, 3] : List Int) : List Int)).bind fun y250 => ((spec_l20Rd_pick.f kj30 s0_0 bt248.2 3).bind fun bt253 => (if 0 ≤ bt253.1 then (if bt253.1 < (y250.length : Int) then (if 0 ≤ bt246.1 then (if bt246.1 < (x5_1.length : Int) then (some ((x5_1.set (bt246.1 : Int).toNat (⟨rd y250 bt253.1, (rd_T84 x5_1 bt246.1).f1⟩ : S84)), bt253.2)) else (none)) else (none)) else (none)) else (none)))) else (if bt248.1 = 1 then ((spec_l20Word.f kj30 s0_0 bt248.2 1).bind fun bt257 => (if 0 ≤ bt246.1 then (if bt246.1 < (x5_1.length : Int) then (some ((x5_1.set (bt246.1 : Int).toNat (⟨(rd_T84 x5_1 bt246.1).f0, bt257.1⟩ : S84)), bt257.2)) else (none)) else (none))) else (if 0 < (x5_1.length : Int) then (if x5_1.length < 8796093022208 then (some ((x5_1 ++ [(⟨(rd_T84 x5_1 0).f0, (rd_T84 x5_1 0).f1⟩ : S84)]), bt248.2)) else (none)) else (none)))))) = some (r1, r2) := by rw [if_pos rfl] at H; exact H
              clear H
              have H := H1
              clear H1
              replace H := Option.bind_eq_some_iff.mp H
              obtain ⟨⟨t246, t247⟩, A380, H⟩ := H
              replace H : ((spec_l20Rd_pick.f kj30 s0_0 t247 3).bind fun bt248 => (if bt248.1 = 0 then ((some (([(-1), 10001, 3] : List Int) : List Int)).bind fun y250 => ((spec_l20Rd_pick.f kj30 s0_0 bt248.2 3).bind fun bt253 => (if 0 ≤ bt253.1 then (if bt253.1 < (y250.length : Int) then (if 0 ≤ t246 then (if t246 < (x5_1.length : Int) then (some ((x5_1.set (t246 : Int).toNat (⟨rd y250 bt253.1, (rd_T84 x5_1 t246).f1⟩ : S84)), bt253.2)) else (none)) else (none)) else (none)) else (none)))) else (if bt248.1 = 1 then ((spec_l20Word.f kj30 s0_0 bt248.2 1).bind fun bt257 => (if 0 ≤ t246 then (if t246 < (x5_1.length : Int) then (some ((x5_1.set (t246 : Int).toNat (⟨(rd_T84 x5_1 t246).f0, bt257.1⟩ : S84)), bt257.2)) else (none)) else (none))) else (if 0 < (x5_1.length : Int) then (if x5_1.length < 8796093022208 then (some ((x5_1 ++ [(⟨(rd_T84 x5_1 0).f0, (rd_T84 x5_1 0).f1⟩ : S84)]), bt248.2)) else (none)) else (none))))) = some (r1, r2) := H
              have A38 := Aside0.mk A380
              clear A380
              replace H := Option.bind_eq_some_iff.mp H
              obtain ⟨⟨t248, t249⟩, A390, H⟩ := H
              replace H : (if t248 = 0 then ((some (([(-1), 10001, 3] : List Int) : List Int)).bind fun y250 => ((spec_l20Rd_pick.f kj30 s0_0 t249 3).bind fun bt253 => (if 0 ≤ bt253.1 then (if bt253.1 < (y250.length : Int) then (if 0 ≤ t246 then (if t246 < (x5_1.length : Int) then (some ((x5_1.set (t246 : Int).toNat (⟨rd y250 bt253.1, (rd_T84 x5_1 t246).f1⟩ : S84)), bt253.2)) else (none)) else (none)) else (none)) else (none)))) else (if t248 = 1 then ((spec_l20Word.f kj30 s0_0 t249 1).bind fun bt257 => (if 0 ≤ t246 then (if t246 < (x5_1.length : Int) then (some ((x5_1.set (t246 : Int).toNat (⟨(rd_T84 x5_1 t246).f0, bt257.1⟩ : S84)), bt257.2)) else (none)) else (none))) else (if 0 < (x5_1.length : Int) then (if x5_1.length < 8796093022208 then (some ((x5_1 ++ [(⟨(rd_T84 x5_1 0).f0, (rd_T84 x5_1 0).f1⟩ : S84)]), t249)) else (none)) else (none)))) = some (r1, r2) := H
              have A39 := Aside0.mk A390
              clear A390
              by_cases c40 : t248 = 0
              · rw [if_pos c40] at H
                have c40b0 : (t248 == 0) = true := beq_iff_eq.mpr c40
                have c40b1 : (t248 != 0) = false := bne_eq_false_iff_eq.mpr c40
                clear c40
                obtain ⟨y250, hy250⟩ : ∃ y_ : List Int, y_ = (([(-1), 10001, 3] : List Int)) := ⟨_, rfl⟩
                replace H : ((spec_l20Rd_pick.f kj30 s0_0 t249 3).bind fun bt253 => (if 0 ≤ bt253.1 then (if bt253.1 < (y250.length : Int) then (if 0 ≤ t246 then (if t246 < (x5_1.length : Int) then (some ((x5_1.set (t246 : Int).toNat (⟨rd y250 bt253.1, (rd_T84 x5_1 t246).f1⟩ : S84)), bt253.2)) else (none)) else (none)) else (none)) else (none))) = some (r1, r2) := by first | (rw [hy250]; with_reducible exact H) | (have H2_ := (Option.bind_some _ _).symm.trans H; rw [hy250]; with_reducible exact H2_) | (have H2_ := (Option.bind_some _ _).symm.trans H; with_reducible exact H2_) | with_reducible exact H | (rw [hy250]; exact H) | exact H
                have Ny250 := Aside0.mk hy250
                clear hy250
                replace H := Option.bind_eq_some_iff.mp H
                obtain ⟨⟨t253, t254⟩, A410, H⟩ := H
                replace H : (if 0 ≤ t253 then (if t253 < (y250.length : Int) then (if 0 ≤ t246 then (if t246 < (x5_1.length : Int) then (some ((x5_1.set (t246 : Int).toNat (⟨rd y250 t253, (rd_T84 x5_1 t246).f1⟩ : S84)), t254)) else (none)) else (none)) else (none)) else (none)) = some (r1, r2) := H
                have A41 := Aside0.mk A410
                clear A410
                by_cases c42 : 0 ≤ t253
                · rw [if_pos c42] at H
                  have c42b0 : decide (0 ≤ t253) = true := decide_eq_true c42
                  clear c42
                  by_cases c43 : t253 < (y250.length : Int)
                  · rw [if_pos c43] at H
                    have c43b0 : decide (t253 < (y250.length : Int)) = true := decide_eq_true c43
                    clear c43
                    by_cases c44 : 0 ≤ t246
                    · rw [if_pos c44] at H
                      have c44b0 : decide (0 ≤ t246) = true := decide_eq_true c44
                      clear c44
                      by_cases c45 : t246 < (x5_1.length : Int)
                      · rw [if_pos c45] at H
                        have c45b0 : decide (t246 < (x5_1.length : Int)) = true := decide_eq_true c45
                        clear c45
                        obtain ⟨y256, hy256⟩ : ∃ y_ : List (S84), y_ = (x5_1.set (t246 : Int).toNat (⟨rd y250 t253, (rd_T84 x5_1 t246).f1⟩ : S84)) := ⟨_, rfl⟩
                        replace H : (some (y256, t254)) = some (r1, r2) := by first | (rw [hy256]; with_reducible exact H) | (have H2_ := (Option.bind_some _ _).symm.trans H; rw [hy256]; with_reducible exact H2_) | (have H2_ := (Option.bind_some _ _).symm.trans H; with_reducible exact H2_) | with_reducible exact H | (rw [hy256]; exact H) | exact H
                        have Ny256 := Aside0.mk hy256
                        clear hy256
                        simp only [Option.some.injEq, Prod.mk.injEq] at H
                        obtain ⟨rfl, rfl⟩ := H
                        obtain ⟨Ao47, co47, eo47⟩ := Kd.R_slice HO_5.out
                        subst eo47
                        go_wp2_with (first | ((with_reducible refine gate_callee (f := 91) rfl ?_); refine goesL_ (some 68) rfl rfl Try.func91 (by kernel_rfl) rfl #[.pointer (some ⟨g, 0, none⟩), .int .i64 (x5_1.length : Int)] rfl (by (try simp only [List.map_toArray, List.map_cons, List.map_nil]); first | done | rfl | (simp only [List.length_drop, List.length_take]; rfl)) ?_; (with_reducible refine (spec_l20Rd_pick.calls kj30 g s0_0 x1001_30 (x5_1.length : Int) t246 t247 w0 _ ?side1 ?side2 A38.out).mono ?_); (case side1 => repeat (first | (with_reducible first | exact HI0.out | apply IsS125.alloc | apply IsS125.drewN | apply IsS125.drew | apply IsS125.set_1) | exact HI0.out)); (case side2 => repeat (first | (with_reducible first | exact HB.out | apply below_alloc | apply pw_below_drewN | apply below_drew1 | refine below_set ?_ (IsS125.ge HI0.out)) | exact HB.out)); rintro e w48 ⟨rfl, hi, hb, hk⟩; refine ⟨_, rfl, ?_⟩; have n0_ := Aside0.mk (Kd.R_mono (Kd.R_keep (IsS125.apart (show IsS125 w0 _ g s0_0 x1001_30 from by repeat (first | (with_reducible first | exact HI0.out | apply IsS125.alloc | apply IsS125.drewN | apply IsS125.drew | apply IsS125.set_1) | exact HI0.out)) (by (with_reducible repeat (first | apply Kd.R_alloc | apply Kd.R_drewN | apply Kd.R_drew)); exact HO_5.out) (by decide)) hk (fun _ h => h.2)) (fun _ h => h.1)); have n1_ := Aside0.mk (KeepBut.trans (by repeat (first | (with_reducible first | exact HK.out | apply KeepBut.set_ | apply keep_drewN | apply keep_drew | apply keep_alloc) | exact HK.out)) hk (.inl rfl)); have n2_ := Aside0.mk (hb); have n3_ := Aside0.mk (hi); clear HO_5; clear HK; clear HB; clear HI0; have HO_5 := n0_; have HK := n1_; have HB := n2_; have HI0 := n3_; clear n0_ n1_ n2_ n3_; (try clear hb); (try clear hb2); (try clear hk); (try clear hi)) | ((with_reducible refine gate_callee (f := 91) rfl ?_); refine goesL_ (some 70) rfl rfl Try.func91 (by kernel_rfl) rfl #[.pointer (some ⟨g, 0, none⟩), .int .i64 3] rfl (by (try simp only [List.map_toArray, List.map_cons, List.map_nil]); first | done | rfl | (simp only [List.length_drop, List.length_take]; rfl)) ?_; (with_reducible refine (spec_l20Rd_pick.calls kj30 g s0_0 t247 3 t248 t249 w0 _ ?side1 ?side2 A39.out).mono ?_); (case side1 => repeat (first | (with_reducible first | exact HI0.out | apply IsS125.alloc | apply IsS125.drewN | apply IsS125.drew | apply IsS125.set_1) | exact HI0.out)); (case side2 => repeat (first | (with_reducible first | exact HB.out | apply below_alloc | apply pw_below_drewN | apply below_drew1 | refine below_set ?_ (IsS125.ge HI0.out)) | exact HB.out)); rintro e w49 ⟨rfl, hi, hb, hk⟩; refine ⟨_, rfl, ?_⟩; have n0_ := Aside0.mk (Kd.R_mono (Kd.R_keep (IsS125.apart (show IsS125 w0 _ g s0_0 t247 from by repeat (first | (with_reducible first | exact HI0.out | apply IsS125.alloc | apply IsS125.drewN | apply IsS125.drew | apply IsS125.set_1) | exact HI0.out)) (by (with_reducible repeat (first | apply Kd.R_alloc | apply Kd.R_drewN | apply Kd.R_drew)); exact HO_5.out) (by decide)) hk (fun _ h => h.2)) (fun _ h => h.1)); have n1_ := Aside0.mk (KeepBut.trans (by repeat (first | (with_reducible first | exact HK.out | apply KeepBut.set_ | apply keep_drewN | apply keep_drew | apply keep_alloc) | exact HK.out)) hk (.inl rfl)); have n2_ := Aside0.mk (hb); have n3_ := Aside0.mk (hi); clear HO_5; clear HK; clear HB; clear HI0; have HO_5 := n0_; have HK := n1_; have HB := n2_; have HI0 := n3_; clear n0_ n1_ n2_ n3_; (try clear hb); (try clear hb2); (try clear hk); (try clear hi)) | ((with_reducible refine gate_dst (N := 81) rfl ?_); refine Kd.R_lit (Kd.int .i64) _ 3 ?hg (N := 81) ?hd (xs := ([(-1), 10001, 3] : List Int)) (inner := [.int .i64 (-1), .int .i64 10001, .int .i64 3]) (ok := fun _ => True) (okp := fun _ => True) ?hr ?hp (fun _ hk => hk) trivial (Below.refl _ _) (Nat.le_refl _) (by simp) ?_; (case hd => rfl); (case hg => rfl); (case hr => first | (go_simp; done) | (go_simp; rfl)); (case hp => exact (Reps.one (show Kd.M (Kd.int .i64) _ _ _ (-1) [.int .i64 (-1)] from rfl) (Reps.one (show Kd.M (Kd.int .i64) _ _ _ 10001 [.int .i64 10001] from rfl) (Reps.one (show Kd.M (Kd.int .i64) _ _ _ 3 [.int .i64 3] from rfl) (Reps.none _ _))))); intro v251 w50 ho51 hb hg_ hnew_; clear hg_ hnew_; (first | rw [← Ny250.out] at ho51 | (simp only [Int.reduceToNat] at ho51; rw [← Ny250.out] at ho51)); have n0_ := Aside0.mk (Kd.R_below (by (with_reducible repeat (first | apply Kd.R_alloc | apply Kd.R_drewN | apply Kd.R_drew)); exact HO_5.out) hb); have n1_ := Aside0.mk (Kd.R_lower ho51 (keep_size (w := w) (g := g) (row := none) (by repeat (first | (with_reducible first | exact HK.out | apply KeepBut.set_ | apply keep_drewN | apply keep_drew | apply keep_alloc) | exact HK.out)))); have n2_ := Aside0.mk (IsS125.below (by repeat (first | (with_reducible first | exact HI0.out | apply IsS125.alloc | apply IsS125.drewN | apply IsS125.drew | apply IsS125.set_1) | exact HI0.out)) hb); have n3_ := Aside0.mk (KeepBut.trans (by repeat (first | (with_reducible first | exact HK.out | apply KeepBut.set_ | apply keep_drewN | apply keep_drew | apply keep_alloc) | exact HK.out)) (KeepBut.of_below hb g none) (.inl rfl)); have n4_ := Aside0.mk (below_step (by repeat (first | (with_reducible first | exact HB.out | apply below_alloc | apply pw_below_drewN | apply below_drew1 | refine below_set ?_ (IsS125.ge HI0.out)) | exact HB.out)) hb); clear HO_5; clear HI0; clear HK; clear HB; have HO_5 := n0_; have HO252 := n1_; have HI0 := n2_; have HK := n3_; have HB := n4_; clear n0_ n1_ n2_ n3_ n4_; clear hb ho51) | ((with_reducible refine gate_callee (f := 91) rfl ?_); refine goesL_ (some 83) rfl rfl Try.func91 (by kernel_rfl) rfl #[.pointer (some ⟨g, 0, none⟩), .int .i64 3] rfl (by (try simp only [List.map_toArray, List.map_cons, List.map_nil]); first | done | rfl | (simp only [List.length_drop, List.length_take]; rfl)) ?_; (with_reducible refine (spec_l20Rd_pick.calls kj30 g s0_0 t249 3 t253 t254 w0 _ ?side1 ?side2 A41.out).mono ?_); (case side1 => repeat (first | (with_reducible first | exact HI0.out | apply IsS125.alloc | apply IsS125.drewN | apply IsS125.drew | apply IsS125.set_1) | exact HI0.out)); (case side2 => repeat (first | (with_reducible first | exact HB.out | apply below_alloc | apply pw_below_drewN | apply below_drew1 | refine below_set ?_ (IsS125.ge HI0.out)) | exact HB.out)); rintro e w52 ⟨rfl, hi, hb, hk⟩; refine ⟨_, rfl, ?_⟩; have n0_ := Aside0.mk (Kd.R_mono (Kd.R_keep (IsS125.apart (show IsS125 w0 _ g s0_0 t249 from by repeat (first | (with_reducible first | exact HI0.out | apply IsS125.alloc | apply IsS125.drewN | apply IsS125.drew | apply IsS125.set_1) | exact HI0.out)) (by (with_reducible repeat (first | apply Kd.R_alloc | apply Kd.R_drewN | apply Kd.R_drew)); exact HO_5.out) (by decide)) hk (fun _ h => h.2)) (fun _ h => h.1)); have n1_ := Aside0.mk (Kd.R_mono (Kd.R_keep (IsS125.apart (show IsS125 w0 _ g s0_0 t249 from by repeat (first | (with_reducible first | exact HI0.out | apply IsS125.alloc | apply IsS125.drewN | apply IsS125.drew | apply IsS125.set_1) | exact HI0.out)) (by (with_reducible repeat (first | apply Kd.R_alloc | apply Kd.R_drewN | apply Kd.R_drew)); exact HO252.out) (by decide)) hk (fun _ h => h.2)) (fun _ h => h.1)); have n2_ := Aside0.mk (KeepBut.trans (by repeat (first | (with_reducible first | exact HK.out | apply KeepBut.set_ | apply keep_drewN | apply keep_drew | apply keep_alloc) | exact HK.out)) hk (.inl rfl)); have n3_ := Aside0.mk (hb); have n4_ := Aside0.mk (hi); clear HO_5; clear HO252; clear HK; clear HB; clear HI0; have HO_5 := n0_; have HO252 := n1_; have HK := n2_; have HB := n3_; have HI0 := n4_; clear n0_ n1_ n2_ n3_ n4_; (try clear hb); (try clear hb2); (try clear hk); (try clear hi); obtain ⟨Ao53, co53, eo53⟩ := Kd.R_slice HO252.out; subst eo53; have p255 : 0 ≤ (t253 : Int) := of_decide_eq_true (by first | (with_reducible assumption) | assumption); have q255 : t253 < (y250.length : Int) := of_decide_eq_true (by first | (with_reducible assumption) | assumption); obtain ⟨ad255, e255, hx255_0⟩ := Kd.at_int (Kd.R_reads' HO252.out).2.2 t253 p255 q255; cases e255; replace p255 := eq_true p255; replace q255 := eq_true q255; have p46 : 0 ≤ (t246 : Int) := of_decide_eq_true (by first | (with_reducible assumption) | assumption); have q46 : (t246 : Int) < ((x5_1.length : Int) : Int) := of_decide_eq_true (by first | (with_reducible assumption) | assumption); obtain ⟨go46, co46, eo46, gb46, gl46, cl46, HG46⟩ := Kd.R_form HO_5.out (by omega); (first | cases eo46 | (injection eo46 with ea_ en_ ec_; (first | subst ea_ | (injection ea_ with ea_; subst ea_)); subst ec_; clear en_)); have GB46 := Aside0.mk gb46; have GG46 := Aside0.mk HG46; clear gb46 gl46 HG46; obtain ⟨ce46, hcl46, hM46, hcc46, hfr46⟩ := Kd.R_elem HO_5.out z84 (t246 : Int) p46 q46; obtain rfl := k84_openM hM46; have hx46_0 : w52.cell? ⟨go46, (t246 : Int).toNat * 2, none⟩ = some (.int .i64 ((rd_T84 x5_1 t246).f0)) := hcc46 0 _ rfl; have hx46_1 : w52.cell? ⟨go46, (t246 : Int).toNat * 2 + 1, none⟩ = some (.int .i64 ((rd_T84 x5_1 t246).f1)) := hcc46 1 _ rfl; have hf46_0 : w52.frozen? ⟨go46, (t246 : Int).toNat * 2, none⟩ = false := hfr46 0; have hf46_1 : w52.frozen? ⟨go46, (t246 : Int).toNat * 2 + 1, none⟩ = false := hfr46 1; clear hcl46 hcc46 hfr46 hM46; replace p46 := eq_true p46; replace q46 := eq_true q46; have HX54 := Aside0.mk (show Kd.R k84 84 w52 w.heap.size (fun _ => True) (.slice (some ⟨go46, 0, none⟩) x5_1.length co47) x5_1 from (by (with_reducible repeat (first | apply Kd.R_alloc | apply Kd.R_drewN | apply Kd.R_drew)); exact HO_5.out)); obtain ⟨ce54, hcl54, hM54, hcc54, hfr54⟩ := Kd.R_elem HX54.out z84 (t246 : Int) (of_decide_eq_true (by first | (with_reducible assumption) | assumption)) (by have h_ : (t246 : Int) < ((x5_1.length : Int) : Int) := of_decide_eq_true (by first | (with_reducible assumption) | assumption); first | exact h_ | (have e_ := (Kd.R_reads' HO_5.out).1; omega) | simpa using h_); obtain rfl := k84_openM hM54; have HP54 := Kd.R_seg HX54.out (t246 : Int) (of_decide_eq_true (by first | (with_reducible assumption) | assumption)) (by have h_ : (t246 : Int) < ((x5_1.length : Int) : Int) := of_decide_eq_true (by first | (with_reducible assumption) | assumption); first | exact h_ | (have e_ := (Kd.R_reads' HO_5.out).1; omega) | simpa using h_) (seg := [.int .i64 (rd y250 t253)]) (j := 0) hcl54 hcc54 (show 1 ≤ 2 from by decide) (x' := (⟨rd y250 t253, (rd_T84 x5_1 t246).f1⟩ : S84)) (k84_mkM _ _ _ (⟨rd y250 t253, (rd_T84 x5_1 t246).f1⟩ : S84) ) (fun _ hk => hk); have hx54_0 := hcc54 0 _ rfl; (try simp only [show (k84).sz = 2 from rfl, Nat.mul_one, Nat.add_zero] at hx54_0); have hf54_0 := hfr54 0; (try simp only [show (k84).sz = 2 from rfl, Nat.mul_one, Nat.add_zero] at hf54_0); clear hcl54 hcc54 hfr54 hM54) | ((with_reducible refine gate_store (t := 3) (p := 87) rfl ?_); refine store_event (t := 3) (p := 87) (v := ?vo_w55) (w1 := (w52.setCell ⟨go46, (t246 : Int).toNat * 2, none⟩ (.int .i64 (rd y250 t253)))) ?hg ?ho ?hn ?hr ?_; (case ho => rfl); (case hg => rfl); (case hn => rfl); (case hr => first | (go_simp; done) | (go_simp; rfl)); intro w55 hw; have hg : w52.grownBy w55 (some go46) := (by rw [hw]; exact HP54.2); have hp_ : Kd.R k84 84 w55 w.heap.size (fun _ => True) (.slice (some ⟨go46, 0, none⟩) x5_1.length co47) y256 := (by rw [hw, Ny256.out]; exact HP54.1); clear HP54; have n0_ := Aside0.mk (hp_); have n1_ := Aside0.mk (IsS125.grown (by repeat (first | (with_reducible first | exact HI0.out | apply IsS125.alloc | apply IsS125.drewN | apply IsS125.drew | apply IsS125.set_1) | exact HI0.out)) hg (IsS125.own_ne HI0.out HO_5.out (by decide))); have n2_ := Aside0.mk (Kd.R_over' (v := (.slice (some ⟨go46, 0, none⟩) x5_1.length co47)) (by (with_reducible repeat (first | apply Kd.R_alloc | apply Kd.R_drewN | apply Kd.R_drew)); exact HO252.out) (Kd.R_typed HO_5.out) (by decide) hg); have n3_ := Aside0.mk ((by rw [hw]; exact below_set (HB.out) (Nat.le_trans HL.out GB46.out) : Below w0.heap.size w0 w55)); have n4_ := Aside0.mk (KeepBut.trans (by repeat (first | (with_reducible first | exact HK.out | apply KeepBut.set_ | apply keep_drewN | apply keep_drew | apply keep_alloc) | exact HK.out)) (KeepBut.of_grown hg g) (Kd.R_base2 HO_5.out)); clear HO_5; clear HI0; clear HO252; clear HB; clear HK; have HO_5 := n0_; have HI0 := n1_; have HO252 := n2_; have HB := n3_; have HK := n4_; clear n0_ n1_ n2_ n3_ n4_; clear hg hw hp_))
                        go_ret
                        exact ⟨_, by first | rfl | (simp [errW_none, errW_some] <;> rfl) | (simp [*, errW_none, errW_some] <;> rfl), by (with_reducible repeat (first | apply Kd.R_alloc | apply Kd.R_drewN | apply Kd.R_drew)); exact HO_5.out, by repeat (first | (with_reducible first | exact HI0.out | apply IsS125.alloc | apply IsS125.drewN | apply IsS125.drew | apply IsS125.set_1) | exact HI0.out), by repeat (first | (with_reducible first | exact HB.out | apply below_alloc | apply pw_below_drewN | apply below_drew1 | refine below_set ?_ (IsS125.ge HI0.out)) | exact HB.out), by repeat (first | (with_reducible first | exact HK.out | apply KeepBut.set_ | apply keep_drewN | apply keep_drew | apply keep_alloc) | exact HK.out)⟩
                      · rw [if_neg c45] at H
                        exact absurd H (by simp)
                    · rw [if_neg c44] at H
                      exact absurd H (by simp)
                  · rw [if_neg c43] at H
                    exact absurd H (by simp)
                · rw [if_neg c42] at H
                  exact absurd H (by simp)
              · rw [if_neg c40] at H
                have c40b0 : (t248 == 0) = false := beq_eq_false_iff_ne.mpr c40
                have c40b1 : (t248 != 0) = true := bne_iff_ne.mpr c40
                by_cases c56 : t248 = 1
                · rw [if_pos c56] at H
                  have c56b0 : (t248 == 1) = true := beq_iff_eq.mpr c56
                  have c56b1 : (t248 != 1) = false := bne_eq_false_iff_eq.mpr c56
                  clear c56
                  replace H := Option.bind_eq_some_iff.mp H
                  obtain ⟨⟨t257, t258⟩, A570, H⟩ := H
                  replace H : (if 0 ≤ t246 then (if t246 < (x5_1.length : Int) then (some ((x5_1.set (t246 : Int).toNat (⟨(rd_T84 x5_1 t246).f0, t257⟩ : S84)), t258)) else (none)) else (none)) = some (r1, r2) := H
                  have A57 := Aside0.mk A570
                  clear A570
                  by_cases c58 : 0 ≤ t246
                  · rw [if_pos c58] at H
                    have c58b0 : decide (0 ≤ t246) = true := decide_eq_true c58
                    clear c58
                    by_cases c59 : t246 < (x5_1.length : Int)
                    · rw [if_pos c59] at H
                      have c59b0 : decide (t246 < (x5_1.length : Int)) = true := decide_eq_true c59
                      clear c59
                      obtain ⟨y259, hy259⟩ : ∃ y_ : List (S84), y_ = (x5_1.set (t246 : Int).toNat (⟨(rd_T84 x5_1 t246).f0, t257⟩ : S84)) := ⟨_, rfl⟩
                      replace H : (some (y259, t258)) = some (r1, r2) := by first | (rw [hy259]; with_reducible exact H) | (have H2_ := (Option.bind_some _ _).symm.trans H; rw [hy259]; with_reducible exact H2_) | (have H2_ := (Option.bind_some _ _).symm.trans H; with_reducible exact H2_) | with_reducible exact H | (rw [hy259]; exact H) | exact H
                      have Ny259 := Aside0.mk hy259
                      clear hy259
                      simp only [Option.some.injEq, Prod.mk.injEq] at H
                      obtain ⟨rfl, rfl⟩ := H
                      obtain ⟨Ao61, co61, eo61⟩ := Kd.R_slice HO_5.out
                      subst eo61
                      go_wp2_with (first | ((with_reducible refine gate_callee (f := 91) rfl ?_); refine goesL_ (some 68) rfl rfl Try.func91 (by kernel_rfl) rfl #[.pointer (some ⟨g, 0, none⟩), .int .i64 (x5_1.length : Int)] rfl (by (try simp only [List.map_toArray, List.map_cons, List.map_nil]); first | done | rfl | (simp only [List.length_drop, List.length_take]; rfl)) ?_; (with_reducible refine (spec_l20Rd_pick.calls kj30 g s0_0 x1001_30 (x5_1.length : Int) t246 t247 w0 _ ?side1 ?side2 A38.out).mono ?_); (case side1 => repeat (first | (with_reducible first | exact HI0.out | apply IsS125.alloc | apply IsS125.drewN | apply IsS125.drew | apply IsS125.set_1) | exact HI0.out)); (case side2 => repeat (first | (with_reducible first | exact HB.out | apply below_alloc | apply pw_below_drewN | apply below_drew1 | refine below_set ?_ (IsS125.ge HI0.out)) | exact HB.out)); rintro e w62 ⟨rfl, hi, hb, hk⟩; refine ⟨_, rfl, ?_⟩; have n0_ := Aside0.mk (Kd.R_mono (Kd.R_keep (IsS125.apart (show IsS125 w0 _ g s0_0 x1001_30 from by repeat (first | (with_reducible first | exact HI0.out | apply IsS125.alloc | apply IsS125.drewN | apply IsS125.drew | apply IsS125.set_1) | exact HI0.out)) (by (with_reducible repeat (first | apply Kd.R_alloc | apply Kd.R_drewN | apply Kd.R_drew)); exact HO_5.out) (by decide)) hk (fun _ h => h.2)) (fun _ h => h.1)); have n1_ := Aside0.mk (KeepBut.trans (by repeat (first | (with_reducible first | exact HK.out | apply KeepBut.set_ | apply keep_drewN | apply keep_drew | apply keep_alloc) | exact HK.out)) hk (.inl rfl)); have n2_ := Aside0.mk (hb); have n3_ := Aside0.mk (hi); clear HO_5; clear HK; clear HB; clear HI0; have HO_5 := n0_; have HK := n1_; have HB := n2_; have HI0 := n3_; clear n0_ n1_ n2_ n3_; (try clear hb); (try clear hb2); (try clear hk); (try clear hi)) | ((with_reducible refine gate_callee (f := 91) rfl ?_); refine goesL_ (some 70) rfl rfl Try.func91 (by kernel_rfl) rfl #[.pointer (some ⟨g, 0, none⟩), .int .i64 3] rfl (by (try simp only [List.map_toArray, List.map_cons, List.map_nil]); first | done | rfl | (simp only [List.length_drop, List.length_take]; rfl)) ?_; (with_reducible refine (spec_l20Rd_pick.calls kj30 g s0_0 t247 3 t248 t249 w0 _ ?side1 ?side2 A39.out).mono ?_); (case side1 => repeat (first | (with_reducible first | exact HI0.out | apply IsS125.alloc | apply IsS125.drewN | apply IsS125.drew | apply IsS125.set_1) | exact HI0.out)); (case side2 => repeat (first | (with_reducible first | exact HB.out | apply below_alloc | apply pw_below_drewN | apply below_drew1 | refine below_set ?_ (IsS125.ge HI0.out)) | exact HB.out)); rintro e w63 ⟨rfl, hi, hb, hk⟩; refine ⟨_, rfl, ?_⟩; have n0_ := Aside0.mk (Kd.R_mono (Kd.R_keep (IsS125.apart (show IsS125 w0 _ g s0_0 t247 from by repeat (first | (with_reducible first | exact HI0.out | apply IsS125.alloc | apply IsS125.drewN | apply IsS125.drew | apply IsS125.set_1) | exact HI0.out)) (by (with_reducible repeat (first | apply Kd.R_alloc | apply Kd.R_drewN | apply Kd.R_drew)); exact HO_5.out) (by decide)) hk (fun _ h => h.2)) (fun _ h => h.1)); have n1_ := Aside0.mk (KeepBut.trans (by repeat (first | (with_reducible first | exact HK.out | apply KeepBut.set_ | apply keep_drewN | apply keep_drew | apply keep_alloc) | exact HK.out)) hk (.inl rfl)); have n2_ := Aside0.mk (hb); have n3_ := Aside0.mk (hi); clear HO_5; clear HK; clear HB; clear HI0; have HO_5 := n0_; have HK := n1_; have HB := n2_; have HI0 := n3_; clear n0_ n1_ n2_ n3_; (try clear hb); (try clear hb2); (try clear hk); (try clear hi)) | ((with_reducible refine gate_callee (f := 102) rfl ?_); refine goesL_ (some 93) rfl rfl Try.func102 (by kernel_rfl) rfl #[.pointer (some ⟨g, 0, none⟩), .int .i64 1] rfl (by (try simp only [List.map_toArray, List.map_cons, List.map_nil]); first | done | rfl | (simp only [List.length_drop, List.length_take]; rfl)) ?_; (with_reducible refine (spec_l20Word.calls kj30 g s0_0 t249 1 t257 t258 w0 _ ?side1 ?side2 A57.out).mono ?_); (case side1 => repeat (first | (with_reducible first | exact HI0.out | apply IsS125.alloc | apply IsS125.drewN | apply IsS125.drew | apply IsS125.set_1) | exact HI0.out)); (case side2 => repeat (first | (with_reducible first | exact HB.out | apply below_alloc | apply pw_below_drewN | apply below_drew1 | refine below_set ?_ (IsS125.ge HI0.out)) | exact HB.out)); rintro e w64 ⟨rfl, hi, hb, hk⟩; refine ⟨_, rfl, ?_⟩; have n0_ := Aside0.mk (Kd.R_mono (Kd.R_keep (IsS125.apart (show IsS125 w0 _ g s0_0 t249 from by repeat (first | (with_reducible first | exact HI0.out | apply IsS125.alloc | apply IsS125.drewN | apply IsS125.drew | apply IsS125.set_1) | exact HI0.out)) (by (with_reducible repeat (first | apply Kd.R_alloc | apply Kd.R_drewN | apply Kd.R_drew)); exact HO_5.out) (by decide)) hk (fun _ h => h.2)) (fun _ h => h.1)); have n1_ := Aside0.mk (KeepBut.trans (by repeat (first | (with_reducible first | exact HK.out | apply KeepBut.set_ | apply keep_drewN | apply keep_drew | apply keep_alloc) | exact HK.out)) hk (.inl rfl)); have n2_ := Aside0.mk (hb); have n3_ := Aside0.mk (hi); clear HO_5; clear HK; clear HB; clear HI0; have HO_5 := n0_; have HK := n1_; have HB := n2_; have HI0 := n3_; clear n0_ n1_ n2_ n3_; (try clear hb); (try clear hb2); (try clear hk); (try clear hi); have p60 : 0 ≤ (t246 : Int) := of_decide_eq_true (by first | (with_reducible assumption) | assumption); have q60 : (t246 : Int) < ((x5_1.length : Int) : Int) := of_decide_eq_true (by first | (with_reducible assumption) | assumption); obtain ⟨go60, co60, eo60, gb60, gl60, cl60, HG60⟩ := Kd.R_form HO_5.out (by omega); (first | cases eo60 | (injection eo60 with ea_ en_ ec_; (first | subst ea_ | (injection ea_ with ea_; subst ea_)); subst ec_; clear en_)); have GB60 := Aside0.mk gb60; have GG60 := Aside0.mk HG60; clear gb60 gl60 HG60; obtain ⟨ce60, hcl60, hM60, hcc60, hfr60⟩ := Kd.R_elem HO_5.out z84 (t246 : Int) p60 q60; obtain rfl := k84_openM hM60; have hx60_0 : w64.cell? ⟨go60, (t246 : Int).toNat * 2, none⟩ = some (.int .i64 ((rd_T84 x5_1 t246).f0)) := hcc60 0 _ rfl; have hx60_1 : w64.cell? ⟨go60, (t246 : Int).toNat * 2 + 1, none⟩ = some (.int .i64 ((rd_T84 x5_1 t246).f1)) := hcc60 1 _ rfl; have hf60_0 : w64.frozen? ⟨go60, (t246 : Int).toNat * 2, none⟩ = false := hfr60 0; have hf60_1 : w64.frozen? ⟨go60, (t246 : Int).toNat * 2 + 1, none⟩ = false := hfr60 1; clear hcl60 hcc60 hfr60 hM60; replace p60 := eq_true p60; replace q60 := eq_true q60; have HX65 := Aside0.mk (show Kd.R k84 84 w64 w.heap.size (fun _ => True) (.slice (some ⟨go60, 0, none⟩) x5_1.length co61) x5_1 from (by (with_reducible repeat (first | apply Kd.R_alloc | apply Kd.R_drewN | apply Kd.R_drew)); exact HO_5.out)); obtain ⟨ce65, hcl65, hM65, hcc65, hfr65⟩ := Kd.R_elem HX65.out z84 (t246 : Int) (of_decide_eq_true (by first | (with_reducible assumption) | assumption)) (by have h_ : (t246 : Int) < ((x5_1.length : Int) : Int) := of_decide_eq_true (by first | (with_reducible assumption) | assumption); first | exact h_ | (have e_ := (Kd.R_reads' HO_5.out).1; omega) | simpa using h_); obtain rfl := k84_openM hM65; have HP65 := Kd.R_seg HX65.out (t246 : Int) (of_decide_eq_true (by first | (with_reducible assumption) | assumption)) (by have h_ : (t246 : Int) < ((x5_1.length : Int) : Int) := of_decide_eq_true (by first | (with_reducible assumption) | assumption); first | exact h_ | (have e_ := (Kd.R_reads' HO_5.out).1; omega) | simpa using h_) (seg := [.int .i64 t257]) (j := 1) hcl65 hcc65 (show 2 ≤ 2 from by decide) (x' := (⟨(rd_T84 x5_1 t246).f0, t257⟩ : S84)) (k84_mkM _ _ _ (⟨(rd_T84 x5_1 t246).f0, t257⟩ : S84) ) (fun _ hk => hk); have hx65_1 := hcc65 1 _ rfl; (try simp only [show (k84).sz = 2 from rfl, Nat.mul_one, Nat.add_zero] at hx65_1); have hf65_1 := hfr65 1; (try simp only [show (k84).sz = 2 from rfl, Nat.mul_one, Nat.add_zero] at hf65_1); clear hcl65 hcc65 hfr65 hM65) | ((with_reducible refine gate_store (t := 3) (p := 95) rfl ?_); refine store_event (t := 3) (p := 95) (v := ?vo_w66) (w1 := (w64.setCell ⟨go60, (t246 : Int).toNat * 2 + 1, none⟩ (.int .i64 t257))) ?hg ?ho ?hn ?hr ?_; (case ho => rfl); (case hg => rfl); (case hn => rfl); (case hr => first | (go_simp; done) | (go_simp; rfl)); intro w66 hw; have hg : w64.grownBy w66 (some go60) := (by rw [hw]; exact HP65.2); have hp_ : Kd.R k84 84 w66 w.heap.size (fun _ => True) (.slice (some ⟨go60, 0, none⟩) x5_1.length co61) y259 := (by rw [hw, Ny259.out]; exact HP65.1); clear HP65; have n0_ := Aside0.mk (hp_); have n1_ := Aside0.mk (IsS125.grown (by repeat (first | (with_reducible first | exact HI0.out | apply IsS125.alloc | apply IsS125.drewN | apply IsS125.drew | apply IsS125.set_1) | exact HI0.out)) hg (IsS125.own_ne HI0.out HO_5.out (by decide))); have n2_ := Aside0.mk ((by rw [hw]; exact below_set (HB.out) (Nat.le_trans HL.out GB60.out) : Below w0.heap.size w0 w66)); have n3_ := Aside0.mk (KeepBut.trans (by repeat (first | (with_reducible first | exact HK.out | apply KeepBut.set_ | apply keep_drewN | apply keep_drew | apply keep_alloc) | exact HK.out)) (KeepBut.of_grown hg g) (Kd.R_base2 HO_5.out)); clear HO_5; clear HI0; clear HB; clear HK; have HO_5 := n0_; have HI0 := n1_; have HB := n2_; have HK := n3_; clear n0_ n1_ n2_ n3_; clear hg hw hp_))
                      go_ret
                      exact ⟨_, by first | rfl | (simp [errW_none, errW_some] <;> rfl) | (simp [*, errW_none, errW_some] <;> rfl), by (with_reducible repeat (first | apply Kd.R_alloc | apply Kd.R_drewN | apply Kd.R_drew)); exact HO_5.out, by repeat (first | (with_reducible first | exact HI0.out | apply IsS125.alloc | apply IsS125.drewN | apply IsS125.drew | apply IsS125.set_1) | exact HI0.out), by repeat (first | (with_reducible first | exact HB.out | apply below_alloc | apply pw_below_drewN | apply below_drew1 | refine below_set ?_ (IsS125.ge HI0.out)) | exact HB.out), by repeat (first | (with_reducible first | exact HK.out | apply KeepBut.set_ | apply keep_drewN | apply keep_drew | apply keep_alloc) | exact HK.out)⟩
                    · rw [if_neg c59] at H
                      exact absurd H (by simp)
                  · rw [if_neg c58] at H
                    exact absurd H (by simp)
                · rw [if_neg c56] at H
                  have c56b0 : (t248 == 1) = false := beq_eq_false_iff_ne.mpr c56
                  have c56b1 : (t248 != 1) = true := bne_iff_ne.mpr c56
                  by_cases c67 : 0 < (x5_1.length : Int)
                  · rw [if_pos c67] at H
                    have c67b0 : decide (0 < (x5_1.length : Int)) = true := decide_eq_true c67
                    have c67b1 : decide (0 < x5_1.length) = true := decide_eq_true (by omega)
                    clear c67
                    by_cases c68 : x5_1.length < 8796093022208
                    · rw [if_pos c68] at H
                      have LMc68 := Aside0.mk c68
                      clear c68
                      obtain ⟨y261, hy261⟩ : ∃ y_ : List (S84), y_ = (x5_1 ++ [(⟨(rd_T84 x5_1 0).f0, (rd_T84 x5_1 0).f1⟩ : S84)]) := ⟨_, rfl⟩
                      replace H : (some (y261, t249)) = some (r1, r2) := by first | (rw [hy261]; with_reducible exact H) | (have H2_ := (Option.bind_some _ _).symm.trans H; rw [hy261]; with_reducible exact H2_) | (have H2_ := (Option.bind_some _ _).symm.trans H; with_reducible exact H2_) | with_reducible exact H | (rw [hy261]; exact H) | exact H
                      have Ny261 := Aside0.mk hy261
                      clear hy261
                      simp only [Option.some.injEq, Prod.mk.injEq] at H
                      obtain ⟨rfl, rfl⟩ := H
                      obtain ⟨Ao69, co69, eo69⟩ := Kd.R_slice HO_5.out
                      subst eo69
                      go_wp2_with (first | ((with_reducible refine gate_callee (f := 91) rfl ?_); refine goesL_ (some 68) rfl rfl Try.func91 (by kernel_rfl) rfl #[.pointer (some ⟨g, 0, none⟩), .int .i64 (x5_1.length : Int)] rfl (by (try simp only [List.map_toArray, List.map_cons, List.map_nil]); first | done | rfl | (simp only [List.length_drop, List.length_take]; rfl)) ?_; (with_reducible refine (spec_l20Rd_pick.calls kj30 g s0_0 x1001_30 (x5_1.length : Int) t246 t247 w0 _ ?side1 ?side2 A38.out).mono ?_); (case side1 => repeat (first | (with_reducible first | exact HI0.out | apply IsS125.alloc | apply IsS125.drewN | apply IsS125.drew | apply IsS125.set_1) | exact HI0.out)); (case side2 => repeat (first | (with_reducible first | exact HB.out | apply below_alloc | apply pw_below_drewN | apply below_drew1 | refine below_set ?_ (IsS125.ge HI0.out)) | exact HB.out)); rintro e w70 ⟨rfl, hi, hb, hk⟩; refine ⟨_, rfl, ?_⟩; have n0_ := Aside0.mk (Kd.R_mono (Kd.R_keep (IsS125.apart (show IsS125 w0 _ g s0_0 x1001_30 from by repeat (first | (with_reducible first | exact HI0.out | apply IsS125.alloc | apply IsS125.drewN | apply IsS125.drew | apply IsS125.set_1) | exact HI0.out)) (by (with_reducible repeat (first | apply Kd.R_alloc | apply Kd.R_drewN | apply Kd.R_drew)); exact HO_5.out) (by decide)) hk (fun _ h => h.2)) (fun _ h => h.1)); have n1_ := Aside0.mk (KeepBut.trans (by repeat (first | (with_reducible first | exact HK.out | apply KeepBut.set_ | apply keep_drewN | apply keep_drew | apply keep_alloc) | exact HK.out)) hk (.inl rfl)); have n2_ := Aside0.mk (hb); have n3_ := Aside0.mk (hi); clear HO_5; clear HK; clear HB; clear HI0; have HO_5 := n0_; have HK := n1_; have HB := n2_; have HI0 := n3_; clear n0_ n1_ n2_ n3_; (try clear hb); (try clear hb2); (try clear hk); (try clear hi)) | ((with_reducible refine gate_callee (f := 91) rfl ?_); refine goesL_ (some 70) rfl rfl Try.func91 (by kernel_rfl) rfl #[.pointer (some ⟨g, 0, none⟩), .int .i64 3] rfl (by (try simp only [List.map_toArray, List.map_cons, List.map_nil]); first | done | rfl | (simp only [List.length_drop, List.length_take]; rfl)) ?_; (with_reducible refine (spec_l20Rd_pick.calls kj30 g s0_0 t247 3 t248 t249 w0 _ ?side1 ?side2 A39.out).mono ?_); (case side1 => repeat (first | (with_reducible first | exact HI0.out | apply IsS125.alloc | apply IsS125.drewN | apply IsS125.drew | apply IsS125.set_1) | exact HI0.out)); (case side2 => repeat (first | (with_reducible first | exact HB.out | apply below_alloc | apply pw_below_drewN | apply below_drew1 | refine below_set ?_ (IsS125.ge HI0.out)) | exact HB.out)); rintro e w71 ⟨rfl, hi, hb, hk⟩; refine ⟨_, rfl, ?_⟩; have n0_ := Aside0.mk (Kd.R_mono (Kd.R_keep (IsS125.apart (show IsS125 w0 _ g s0_0 t247 from by repeat (first | (with_reducible first | exact HI0.out | apply IsS125.alloc | apply IsS125.drewN | apply IsS125.drew | apply IsS125.set_1) | exact HI0.out)) (by (with_reducible repeat (first | apply Kd.R_alloc | apply Kd.R_drewN | apply Kd.R_drew)); exact HO_5.out) (by decide)) hk (fun _ h => h.2)) (fun _ h => h.1)); have n1_ := Aside0.mk (KeepBut.trans (by repeat (first | (with_reducible first | exact HK.out | apply KeepBut.set_ | apply keep_drewN | apply keep_drew | apply keep_alloc) | exact HK.out)) hk (.inl rfl)); have n2_ := Aside0.mk (hb); have n3_ := Aside0.mk (hi); clear HO_5; clear HK; clear HB; clear HI0; have HO_5 := n0_; have HK := n1_; have HB := n2_; have HI0 := n3_; clear n0_ n1_ n2_ n3_; (try clear hb); (try clear hb2); (try clear hk); (try clear hi); have p260 : 0 ≤ (0 : Int) := (by omega); have q260 : 0 < (x5_1.length : Int) := of_decide_eq_true (by first | (with_reducible assumption) | assumption); obtain ⟨ad260, e260, hx260_0, hx260_1⟩ := at_T84 (Kd.R_reads' HO_5.out).2.2 0 p260 q260; cases e260; have qi260 : (0 < x5_1.length) = True := eq_true (by omega); (try rw [show ((0 : Int)).toNat = 0 from rfl] at hx260_0); (try rw [show 0 * 2 = 0 from rfl] at hx260_0); (try rw [Addr.add_zero'] at hx260_0); (try rw [show ((0 : Int)).toNat = 0 from rfl] at hx260_1); (try rw [show 0 * 2 = 0 from rfl] at hx260_1); (try rw [Addr.add_zero'] at hx260_1); replace p260 := eq_true p260; replace q260 := eq_true q260) | ((with_reducible refine gate_builtin (b := .append) (xs := #[.tmp 71, .tmp 75]) rfl ?_); at_builtin; refine Kd.R_append k84 w.heap.size rfl (.tmp 71) (.tmp 75) 25 84 (.agg #[(.int .i64 0), (.int .i64 0)]) 16 rfl Try.underlying25 info84 rfl (by decide) (by omega) (.slice (some ad260) x5_1.length co69) x5_1 (⟨(rd_T84 x5_1 0).f0, (rd_T84 x5_1 0).f1⟩ : S84) [.int .i64 ((rd_T84 x5_1 0).f0), .int .i64 ((rd_T84 x5_1 0).f1)] (fun _ => True) (fun _ => False) rfl rfl ?aP (fun _ hk => hk.elim) ?aF ?aO (Below.refl _ _) ?aS ?aL ?_; (case aP => exact k84_mkM _ _ _ (⟨(rd_T84 x5_1 0).f0, (rd_T84 x5_1 0).f1⟩ : S84)); (case aF => exact (fun _ _ => trivial)); (case aO => exact (by (with_reducible repeat (first | apply Kd.R_alloc | apply Kd.R_drewN | apply Kd.R_drew)); exact HO_5.out)); (case aS => exact (keep_size (w := w) (g := g) (row := none) (by repeat (first | (with_reducible first | exact HK.out | apply KeepBut.set_ | apply keep_drewN | apply keep_drew | apply keep_alloc) | exact HK.out)))); (case aL => have := LMc68.out; omega); intro v262 w72 ho hb hg hat; rw [← Ny261.out] at ho; have n0_ := Aside0.mk (IsS125.grown (by repeat (first | (with_reducible first | exact HI0.out | apply IsS125.alloc | apply IsS125.drewN | apply IsS125.drew | apply IsS125.set_1) | exact HI0.out)) hg (IsS125.own_ne HI0.out HO_5.out (by decide))); have n1_ := Aside0.mk (below_weaken (by repeat (first | (with_reducible first | exact HB.out | apply below_alloc | apply pw_below_drewN | apply below_drew1 | refine below_set ?_ (IsS125.ge HI0.out)) | exact HB.out)) HL.out hb); have n2_ := Aside0.mk (KeepBut.trans (by repeat (first | (with_reducible first | exact HK.out | apply KeepBut.set_ | apply keep_drewN | apply keep_drew | apply keep_alloc) | exact HK.out)) (KeepBut.of_grown hg g) (Kd.R_base2 HO_5.out)); have n3_ := Aside0.mk (ho); clear HI0; clear HB; clear HK; clear HO_5; have HI0 := n0_; have HB := n1_; have HK := n2_; have HO263 := n3_; clear n0_ n1_ n2_ n3_; clear ho hb hg hat))
                      go_ret
                      exact ⟨_, by first | rfl | (simp [errW_none, errW_some] <;> rfl) | (simp [*, errW_none, errW_some] <;> rfl), by (with_reducible repeat (first | apply Kd.R_alloc | apply Kd.R_drewN | apply Kd.R_drew)); exact HO263.out, by repeat (first | (with_reducible first | exact HI0.out | apply IsS125.alloc | apply IsS125.drewN | apply IsS125.drew | apply IsS125.set_1) | exact HI0.out), by repeat (first | (with_reducible first | exact HB.out | apply below_alloc | apply pw_below_drewN | apply below_drew1 | refine below_set ?_ (IsS125.ge HI0.out)) | exact HB.out), by repeat (first | (with_reducible first | exact HK.out | apply KeepBut.set_ | apply keep_drewN | apply keep_drew | apply keep_alloc) | exact HK.out)⟩
                    · rw [if_neg c68] at H
                      exact absurd H (by simp)
                  · rw [if_neg c67] at H
                    exact absurd H (by simp)
            · replace c37 := Bool.eq_false_iff.mpr c37
              subst c37
              have H1 : (some (x5_1, x1001_30)) = some (r1, r2) := by rw [if_neg (show ¬ (false = true) by decide)] at H; exact H
              clear H
              have H := H1
              clear H1
              simp only [Option.some.injEq, Prod.mk.injEq] at H
              obtain ⟨rfl, rfl⟩ := H
              go_wp2
              go_ret
              exact ⟨_, by first | rfl | (simp [errW_none, errW_some] <;> rfl) | (simp [*, errW_none, errW_some] <;> rfl), by (with_reducible repeat (first | apply Kd.R_alloc | apply Kd.R_drewN | apply Kd.R_drew)); exact HO_5.out, by repeat (first | (with_reducible first | exact HI0.out | apply IsS125.alloc | apply IsS125.drewN | apply IsS125.drew | apply IsS125.set_1) | exact HI0.out), by repeat (first | (with_reducible first | exact HB.out | apply below_alloc | apply pw_below_drewN | apply below_drew1 | refine below_set ?_ (IsS125.ge HI0.out)) | exact HB.out), by repeat (first | (with_reducible first | exact HK.out | apply KeepBut.set_ | apply keep_drewN | apply keep_drew | apply keep_alloc) | exact HK.out)⟩

/-! ### spec_DrawCompressTrend: function 69 -/
def spec_DrawCompressTrend.f (k : Nat) (l0 : List Int) : Option ((List (S84)) × Int) := (spec_l20Open.f l0).bind fun bt264 => ((spec_l20Trend.f k bt264.1 bt264.2 12).bind fun bt267 => ((some (([0, 1, 2, 5, 30, (-1)] : List Int) : List Int)).bind fun y271 => ((some (([0, 1, 2, 3, 4, 1, 2, 5] : List Int) : List Int)).bind fun y274 => ((spec_l20Rd_pick.f k bt264.1 bt267.2 8).bind fun bt277 => (if 0 ≤ bt277.1 then (if bt277.1 < (y274.length : Int) then (if 0 ≤ (rd y274 bt277.1) then (if (rd y274 bt277.1) < (y271.length : Int) then (some (bt267.1, rd y271 (rd y274 bt277.1))) else (none)) else (none)) else (none)) else (none))))))
theorem spec_DrawCompressTrend.mono : ∀ a0 k, LeO (spec_DrawCompressTrend.f k a0) (spec_DrawCompressTrend.f (k + 1) a0) := by
  intro a0 k
  unfold spec_DrawCompressTrend.f
  repeat' first
      | (with_reducible exact spec_l20Rd_pick.mono _ _ _ _)
      | (with_reducible exact spec_l20Trend.mono _ _ _ _)
      | (with_reducible exact LeO.refl _)
      | (with_reducible exact LeO.none _)
      | (with_reducible refine LeO.ite ?_ ?_)
      | (with_reducible refine LeO.bind ?_ (fun _ => ?_))
      | exact spec_l20Rd_pick.mono _ _ _ _
      | exact spec_l20Trend.mono _ _ _ _
      | exact LeO.none _
      | refine LeO.ite ?_ ?_
      | refine LeO.bind ?_ (fun _ => ?_)
def spec_DrawCompressTrend.T3 : Bool × List (List Nat × List Nat) := (true, [([], []), ([], []), ([], []), ([], []), ([3], [3]), ([2, 4], [2, 4]), ([5], [5]), ([1, 6], [1, 6]), ([7], [7]), ([0, 4, 0], [0]), ([8, 9, 0, 1, 2, 3, 4, 5, 6, 7, 8, 9], [8])])
def spec_DrawCompressTrend.B3 : List Nat := [0, 0, 0, 0, 8, 28, 60, 126, 254, 25, 1023]
theorem spec_DrawCompressTrend.tab3 : rtab .any (opsOf Try.f69 3) = spec_DrawCompressTrend.T3 := by kernel_rfl
theorem spec_DrawCompressTrend.bits3 : waitsOk spec_DrawCompressTrend.T3.2 spec_DrawCompressTrend.B3 = true := by kernel_rfl
set_option maxHeartbeats 8000000 in
set_option maxRecDepth 100000 in
theorem spec_DrawCompressTrend.calls (k : Nat) (A0 : Option Addr) (c0 : Nat) (l0 : List Int) (r1 : List (S84)) (r2 : Int) (w : World) (hr0 : Kd.C (Kd.int .u8) w A0 l0.length l0) (hc0 : l0.length ≤ c0) (h : spec_DrawCompressTrend.f k l0 = some (r1, r2)) :
    Calls Try.prog 69 #[.slice A0 l0.length c0] w fun e w' => ∃ v0_ : Value, e = .returned (.tuple #[v0_, .int .i64 r2]) ∧ Kd.R k84 84 w' w.heap.size (fun _ => True) v0_ r1 ∧ Below w.heap.size w w' := by
  have HR0 := Aside0.mk hr0
  have HC0 := Aside0.mk hc0
  clear hr0 hc0
  have HB := Aside0.mk (Below.refl w.heap.size w)
  have H : ((spec_l20Open.f l0).bind fun bt264 => ((spec_l20Trend.f k bt264.1 bt264.2 12).bind fun bt267 => ((some (([0, 1, 2, 5, 30, (-1)] : List Int) : List Int)).bind fun y271 => ((some (([0, 1, 2, 3, 4, 1, 2, 5] : List Int) : List Int)).bind fun y274 => ((spec_l20Rd_pick.f k bt264.1 bt267.2 8).bind fun bt277 => (if 0 ≤ bt277.1 then (if bt277.1 < (y274.length : Int) then (if 0 ≤ (rd y274 bt277.1) then (if (rd y274 bt277.1) < (y271.length : Int) then (some (bt267.1, rd y271 (rd y274 bt277.1))) else (none)) else (none)) else (none)) else (none))))))) = some (r1, r2) := h
  clear h
  replace H := Option.bind_eq_some_iff.mp H
  obtain ⟨⟨t264, t265⟩, A20, H⟩ := H
  replace H : ((spec_l20Trend.f k t264 t265 12).bind fun bt267 => ((some (([0, 1, 2, 5, 30, (-1)] : List Int) : List Int)).bind fun y271 => ((some (([0, 1, 2, 3, 4, 1, 2, 5] : List Int) : List Int)).bind fun y274 => ((spec_l20Rd_pick.f k t264 bt267.2 8).bind fun bt277 => (if 0 ≤ bt277.1 then (if bt277.1 < (y274.length : Int) then (if 0 ≤ (rd y274 bt277.1) then (if (rd y274 bt277.1) < (y271.length : Int) then (some (bt267.1, rd y271 (rd y274 bt277.1))) else (none)) else (none)) else (none)) else (none)))))) = some (r1, r2) := H
  have A2 := Aside0.mk A20
  clear A20
  replace H := Option.bind_eq_some_iff.mp H
  obtain ⟨⟨t267, t270⟩, A30, H⟩ := H
  replace H : ((some (([0, 1, 2, 5, 30, (-1)] : List Int) : List Int)).bind fun y271 => ((some (([0, 1, 2, 3, 4, 1, 2, 5] : List Int) : List Int)).bind fun y274 => ((spec_l20Rd_pick.f k t264 t270 8).bind fun bt277 => (if 0 ≤ bt277.1 then (if bt277.1 < (y274.length : Int) then (if 0 ≤ (rd y274 bt277.1) then (if (rd y274 bt277.1) < (y271.length : Int) then (some (t267, rd y271 (rd y274 bt277.1))) else (none)) else (none)) else (none)) else (none))))) = some (r1, r2) := H
  have A3 := Aside0.mk A30
  clear A30
  obtain ⟨y271, hy271⟩ : ∃ y_ : List Int, y_ = (([0, 1, 2, 5, 30, (-1)] : List Int)) := ⟨_, rfl⟩
  replace H : ((some (([0, 1, 2, 3, 4, 1, 2, 5] : List Int) : List Int)).bind fun y274 => ((spec_l20Rd_pick.f k t264 t270 8).bind fun bt277 => (if 0 ≤ bt277.1 then (if bt277.1 < (y274.length : Int) then (if 0 ≤ (rd y274 bt277.1) then (if (rd y274 bt277.1) < (y271.length : Int) then (some (t267, rd y271 (rd y274 bt277.1))) else (none)) else (none)) else (none)) else (none)))) = some (r1, r2) := by first | (rw [hy271]; with_reducible exact H) | (have H2_ := (Option.bind_some _ _).symm.trans H; rw [hy271]; with_reducible exact H2_) | (have H2_ := (Option.bind_some _ _).symm.trans H; with_reducible exact H2_) | with_reducible exact H | (rw [hy271]; exact H) | exact H
  have Ny271 := Aside0.mk hy271
  clear hy271
  obtain ⟨y274, hy274⟩ : ∃ y_ : List Int, y_ = (([0, 1, 2, 3, 4, 1, 2, 5] : List Int)) := ⟨_, rfl⟩
  replace H : ((spec_l20Rd_pick.f k t264 t270 8).bind fun bt277 => (if 0 ≤ bt277.1 then (if bt277.1 < (y274.length : Int) then (if 0 ≤ (rd y274 bt277.1) then (if (rd y274 bt277.1) < (y271.length : Int) then (some (t267, rd y271 (rd y274 bt277.1))) else (none)) else (none)) else (none)) else (none))) = some (r1, r2) := by first | (rw [hy274]; with_reducible exact H) | (have H2_ := (Option.bind_some _ _).symm.trans H; rw [hy274]; with_reducible exact H2_) | (have H2_ := (Option.bind_some _ _).symm.trans H; with_reducible exact H2_) | with_reducible exact H | (rw [hy274]; exact H) | exact H
  have Ny274 := Aside0.mk hy274
  clear hy274
  replace H := Option.bind_eq_some_iff.mp H
  obtain ⟨⟨t277, t278⟩, A40, H⟩ := H
  replace H : (if 0 ≤ t277 then (if t277 < (y274.length : Int) then (if 0 ≤ (rd y274 t277) then (if (rd y274 t277) < (y271.length : Int) then (some (t267, rd y271 (rd y274 t277))) else (none)) else (none)) else (none)) else (none)) = some (r1, r2) := H
  have A4 := Aside0.mk A40
  clear A40
  by_cases c5 : 0 ≤ t277
  · rw [if_pos c5] at H
    have c5b0 : decide (0 ≤ t277) = true := decide_eq_true c5
    clear c5
    by_cases c6 : t277 < (y274.length : Int)
    · rw [if_pos c6] at H
      have c6b0 : decide (t277 < (y274.length : Int)) = true := decide_eq_true c6
      clear c6
      by_cases c7 : 0 ≤ (rd y274 t277)
      · rw [if_pos c7] at H
        have c7b0 : decide (0 ≤ (rd y274 t277)) = true := decide_eq_true c7
        clear c7
        by_cases c8 : (rd y274 t277) < (y271.length : Int)
        · rw [if_pos c8] at H
          have c8b0 : decide ((rd y274 t277) < (y271.length : Int)) = true := decide_eq_true c8
          clear c8
          simp only [Option.some.injEq, Prod.mk.injEq] at H
          obtain ⟨rfl, rfl⟩ := H
          go_enter Try.func69, Try.ntmps69
          try go_wp2_with (first | ((with_reducible refine gate_callee (f := 89) rfl ?_); refine goesL_ (some 7) rfl rfl Try.func89 (by kernel_rfl) rfl #[.slice A0 l0.length c0] rfl (by (try simp only [List.map_toArray, List.map_cons, List.map_nil]); first | done | rfl | (simp only [List.length_drop, List.length_take]; rfl)) ?_; (with_reducible refine (spec_l20Open.calls _ _ l0 t264 t265 w _ ?side1 ?side2 ?side3 A2.out).mono ?_); (case side1 => repeat (first | (with_reducible first | exact HB.out | apply below_alloc | apply pw_below_drewN | apply below_drew1) | exact HB.out)); (case side2 => exact HR0.out); (case side3 => exact HC0.out); rintro e w9 ⟨g266, rfl, hi, hb, hb2⟩; refine ⟨_, rfl, ?_⟩; have n0_ := Aside0.mk (hb); have n1_ := Aside0.mk (hi); clear HB; have HB := n0_; have HI266 := n1_; clear n0_ n1_; (try clear hb); (try clear hb2); (try clear hk); (try clear hi)) | ((with_reducible refine gate_callee (f := 99) rfl ?_); refine goesL_ (some 9) rfl rfl Try.func99 (by kernel_rfl) rfl #[.pointer (some ⟨g266, 0, none⟩), .int .i64 12] rfl (by (try simp only [List.map_toArray, List.map_cons, List.map_nil]); first | done | rfl | (simp only [List.length_drop, List.length_take]; rfl)) ?_; (with_reducible refine (spec_l20Trend.calls k g266 t264 t265 12 t267 t270 w _ ?side1 ?side2 A3.out).mono ?_); (case side1 => repeat (first | (with_reducible first | exact HI266.out | apply IsS125.alloc | apply IsS125.drewN | apply IsS125.drew | apply IsS125.set_1) | exact HI266.out)); (case side2 => repeat (first | (with_reducible first | exact HB.out | apply below_alloc | apply pw_below_drewN | apply below_drew1 | refine below_set ?_ (IsS125.ge HI266.out)) | exact HB.out)); rintro e w10 ⟨v268, rfl, ho0, hi, hb, hk⟩; refine ⟨_, rfl, ?_⟩; have n0_ := Aside0.mk (Kd.R_lower ho0 (below_size (by repeat (first | (with_reducible first | exact HB.out | apply below_alloc | apply pw_below_drewN | apply below_drew1 | refine below_set ?_ (IsS125.ge HI266.out)) | exact HB.out)))); have n1_ := Aside0.mk (hb); have n2_ := Aside0.mk (hi); clear HB; clear HI266; have HO269 := n0_; have HB := n1_; have HI266 := n2_; clear n0_ n1_ n2_; (try clear hb); (try clear hb2); (try clear hk); (try clear hi); (try clear ho0)))
          have pi279 : (0 ≤ (t277 : Int)) = True := eq_true (of_decide_eq_true (by first | (with_reducible assumption) | assumption))
          have qi279 : (t277 < (y274.length : Int)) = True := eq_true (of_decide_eq_true (by first | (with_reducible assumption) | assumption))
          have pi280 : (0 ≤ ((rd y274 t277) : Int)) = True := eq_true (of_decide_eq_true (by first | (with_reducible assumption) | assumption))
          have qi280 : ((rd y274 t277) < (y271.length : Int)) = True := eq_true (of_decide_eq_true (by first | (with_reducible assumption) | assumption))
          have n0_ := Aside0.mk (Kd.R_drew HO269.out)
          have n1_ := Aside0.mk (IsS125.drew HI266.out)
          have n2_ := Aside0.mk (below_drew1 HB.out)
          clear HO269
          clear HI266
          clear HB
          have HO269 := n0_
          have HI266 := n1_
          have HB := n2_
          clear n0_ n1_ n2_
          refine start_ (n := 11) (S := fun w' => True) (ds := []) #[false, false, false, false, false, false, false, false, false, false, false] (by kernel_rfl) rfl rfl trivial (fun hHeld => ?_); refine with_tabW spec_DrawCompressTrend.tab3 spec_DrawCompressTrend.bits3 (fun HT_ HW_ => ?_)
          generalize w10.drew = w11 at HO269 HI266 HB hHeld ⊢
          refine pure_ (i := 0) (N := some 10) (v := ?_) (a' := ?_) #[true, false, false, false, false, false, false, false, false, false, false] rfl rfl (any_of HT_.out (by kernel_rfl)) (fun _ _ _ h => h) (Or.inl ⟨by rfl, ?_⟩) ?_ ?_
          rotate_left
          · intro w'
            go_simp
            with_reducible rfl
          rotate_left
          · simp only [Act.put, List.setIfInBounds_toArray, List.set_cons_zero, List.set_cons_succ, i64_w, i32_w]
            rfl
          refine pure_ (i := 3) (N := some 13) (v := ?_) (a' := ?_) #[true, false, false, true, false, false, false, false, false, false, false] rfl rfl (any_of HT_.out (by kernel_rfl)) (fun _ _ _ h => h) (Or.inl ⟨by rfl, ?_⟩) ?_ ?_
          rotate_left
          · intro w'
            go_simp
            with_reducible rfl
          rotate_left
          · simp only [Act.put, List.setIfInBounds_toArray, List.set_cons_zero, List.set_cons_succ, i64_w, i32_w]
            rfl
          refine inv_at [1, 2, 4, 5, 6, 7, 8, 9, 10] (fun a0_ b a w' => ∃ (v272 : Value) (adz_v272 : Addr) (v275 : Value) (adz_v275 : Addr) (m5_ : Value) (m7_ : Value), a = putSel a0_ b [(1, 11, v272), (2, 12, v275), (4, 14, .int .i64 t277), (5, 15, m5_), (6, 16, .int .i64 (rd y274 t277)), (7, 17, m7_), (8, 18, .int .i64 (rd y271 (rd y274 t277))), (9, 2, v268), (10, 3, .int .i64 (rd y271 (rd y274 t277)))] ∧ (Kd.R k84 84 w' w.heap.size (fun _ => True) v268 t267) ∧ (b 4 = false → IsS125 w w' g266 t264 t270) ∧ (Below w.heap.size w w') ∧ (b 1 = true → Kd.R (Kd.int .i64) 3 w' w.heap.size (fun _ => True) v272 y271) ∧ (b 1 = true → ∃ c_, (v272 : Value) = .slice (some adz_v272) y271.length c_) ∧ (b 2 = true → Kd.R (Kd.int .i64) 3 w' w.heap.size (fun _ => True) v275 y274) ∧ (b 2 = true → ∃ c_, (v275 : Value) = .slice (some adz_v275) y274.length c_) ∧ (b 4 = true → IsS125 w w' g266 t264 t278) ∧ (b 5 = true → (m5_ : Value) = .pointer (some (adz_v275.add (t277).toNat))) ∧ (b 7 = true → (m7_ : Value) = .pointer (some (adz_v272.add ((rd y274 t277)).toNat)))) HT_.out HW_.out (by kernel_rfl) (by kernel_rfl) ?_ ?_ ?_
          · exact ⟨.bool false, ⟨0, 0, none⟩, .bool false, ⟨0, 0, none⟩, .bool false, .bool false, by simp only [putSel, Bool.false_eq_true, if_false], HO269.out, fun _ => HI266.out, HB.out, fun h_ => absurd h_ (by decide), fun h_ => absurd h_ (by decide), fun h_ => absurd h_ (by decide), fun h_ => absurd h_ (by decide), fun h_ => absurd h_ (by decide), fun h_ => absurd h_ (by decide), fun h_ => absurd h_ (by decide)⟩
          · skip
            clear HB HI266 HO269
            refine steps_cons ?_ ?_
            · rintro b a w' ⟨v272, adz_v272, v275, adz_v275, m5_, m7_, ha, Q_HO269, Q_HI266, Q_HB, Q_HO273, Q_HA_HO273, Q_HO276, Q_HA_HO276, Q_HI266_e4, Q_X5_, Q_X7_⟩ hb_ hon hoff
              refine ⟨_, rfl, fun K hK => ?_⟩
              replace ha := Aside0.mk ha
              have HO269 := Aside0.mk Q_HO269
              have HB := Aside0.mk Q_HB
              refine Kd.R_lit_step (Kd.int .i64) _ 3 ?hg (N := 11) ?hd (xs := ([0, 1, 2, 5, 30, (-1)] : List Int)) (inner := [.int .i64 0, .int .i64 1, .int .i64 2, .int .i64 5, .int .i64 30, .int .i64 (-1)]) (ok := fun _ => True) (okp := fun _ => True) ?hr ?hp (fun _ hk => hk) trivial (Below.refl _ _) (Nat.le_refl _) (by simp) ?_; (case hd => rfl); (case hg => rfl); (case hr => first | (go_simp; done) | (go_simp; rfl)); (case hp => exact (Reps.one (show Kd.M (Kd.int .i64) _ _ _ 0 [.int .i64 0] from rfl) (Reps.one (show Kd.M (Kd.int .i64) _ _ _ 1 [.int .i64 1] from rfl) (Reps.one (show Kd.M (Kd.int .i64) _ _ _ 2 [.int .i64 2] from rfl) (Reps.one (show Kd.M (Kd.int .i64) _ _ _ 5 [.int .i64 5] from rfl) (Reps.one (show Kd.M (Kd.int .i64) _ _ _ 30 [.int .i64 30] from rfl) (Reps.one (show Kd.M (Kd.int .i64) _ _ _ (-1) [.int .i64 (-1)] from rfl) (Reps.none _ _))))))))
              intro v272 w12 ho13 hb hg_ hnew_
              clear hg_ hnew_
              (first | rw [← Ny271.out] at ho13 | (simp only [Int.reduceToNat] at ho13; rw [← Ny271.out] at ho13))
              have n0_ := Aside0.mk (Kd.R_below (by (with_reducible repeat (first | apply Kd.R_alloc | apply Kd.R_drewN | apply Kd.R_drew)); exact HO269.out) hb)
              have n1_ := Aside0.mk (Kd.R_lower ho13 (below_size (by repeat (first | (with_reducible first | exact HB.out | apply below_alloc | apply pw_below_drewN | apply below_drew1) | exact HB.out))))
              have n3_ := Aside0.mk (below_step (by repeat (first | (with_reducible first | exact HB.out | apply below_alloc | apply pw_below_drewN | apply below_drew1) | exact HB.out)) hb)
              have z_HI266 := fun (h0_ : b 4 = false) => (show IsS125 w w12 g266 t264 t270 from by first | exact (IsS125.below (by repeat (first | (with_reducible first | exact (Q_HI266 h0_) | apply IsS125.alloc | apply IsS125.drewN | apply IsS125.drew | apply IsS125.set_1) | exact (Q_HI266 h0_))) hb))
              have z_HO276 := fun (h0_ : b 2 = true) => (show Kd.R (Kd.int .i64) 3 w12 w.heap.size (fun _ => True) v275 y274 from by first | exact (Kd.R_elder' (by (with_reducible repeat (first | apply Kd.R_alloc | apply Kd.R_drewN | apply Kd.R_drew)); exact (Q_HO276 h0_)) (Kd.R_base ho13) hb) | exact Kd.R_mono (Kd.R_elder' (by (with_reducible repeat (first | apply Kd.R_alloc | apply Kd.R_drewN | apply Kd.R_drew)); exact (Q_HO276 h0_)) (Kd.R_base ho13) hb) (fun _ h_ => by first | trivial | exact h_ | exact h_.1))
              have z_HI266_e4 := fun (h0_ : b 4 = true) => (show IsS125 w w12 g266 t264 t278 from by first | exact (IsS125.below (by repeat (first | (with_reducible first | exact (Q_HI266_e4 h0_) | apply IsS125.alloc | apply IsS125.drewN | apply IsS125.drew | apply IsS125.set_1) | exact (Q_HI266_e4 h0_))) hb))
              clear HO269
              clear HB
              have HO269 := n0_
              have HO273 := n1_
              have HB := n3_
              clear n0_ n1_ n3_
              clear hb ho13
              obtain ⟨Ao14, co14, eo14⟩ := Kd.R_slice HO273.out
              subst eo14
              obtain ⟨ado14, fo14, _⟩ := Kd.at_int (Kd.R_reads' HO273.out).2.2 0 (by decide) (by rw [Ny271.out]; simp)
              cases fo14
              refine hK.out _ _ ⟨.slice (some ado14) y271.length co14, ado14, v275, adz_v275, m5_, m7_, (by rw [ha.out]; exact putSel_upk 0 hb_ rfl rfl rfl), (by (with_reducible repeat (first | apply Kd.R_alloc | apply Kd.R_drewN | apply Kd.R_drew)); exact HO269.out), z_HI266, (by repeat (first | (with_reducible first | exact HB.out | apply below_alloc | apply pw_below_drewN | apply below_drew1) | exact HB.out)), fun _ => (by (with_reducible repeat (first | apply Kd.R_alloc | apply Kd.R_drewN | apply Kd.R_drew)); exact HO273.out), fun _ => ⟨_, rfl⟩, z_HO276, Q_HA_HO276, z_HI266_e4, Q_X5_, fun h0_ => absurd ((hoff 7 (by kernel_rfl)).symm.trans h0_) (by decide)⟩
            refine steps_cons ?_ ?_
            · rintro b a w' ⟨v272, adz_v272, v275, adz_v275, m5_, m7_, ha, Q_HO269, Q_HI266, Q_HB, Q_HO273, Q_HA_HO273, Q_HO276, Q_HA_HO276, Q_HI266_e4, Q_X5_, Q_X7_⟩ hb_ hon hoff
              refine ⟨_, rfl, fun K hK => ?_⟩
              replace ha := Aside0.mk ha
              have HO269 := Aside0.mk Q_HO269
              have HB := Aside0.mk Q_HB
              refine Kd.R_lit_step (Kd.int .i64) _ 3 ?hg (N := 12) ?hd (xs := ([0, 1, 2, 3, 4, 1, 2, 5] : List Int)) (inner := [.int .i64 0, .int .i64 1, .int .i64 2, .int .i64 3, .int .i64 4, .int .i64 1, .int .i64 2, .int .i64 5]) (ok := fun _ => True) (okp := fun _ => True) ?hr ?hp (fun _ hk => hk) trivial (Below.refl _ _) (Nat.le_refl _) (by simp) ?_; (case hd => rfl); (case hg => rfl); (case hr => first | (go_simp; done) | (go_simp; rfl)); (case hp => exact (Reps.one (show Kd.M (Kd.int .i64) _ _ _ 0 [.int .i64 0] from rfl) (Reps.one (show Kd.M (Kd.int .i64) _ _ _ 1 [.int .i64 1] from rfl) (Reps.one (show Kd.M (Kd.int .i64) _ _ _ 2 [.int .i64 2] from rfl) (Reps.one (show Kd.M (Kd.int .i64) _ _ _ 3 [.int .i64 3] from rfl) (Reps.one (show Kd.M (Kd.int .i64) _ _ _ 4 [.int .i64 4] from rfl) (Reps.one (show Kd.M (Kd.int .i64) _ _ _ 1 [.int .i64 1] from rfl) (Reps.one (show Kd.M (Kd.int .i64) _ _ _ 2 [.int .i64 2] from rfl) (Reps.one (show Kd.M (Kd.int .i64) _ _ _ 5 [.int .i64 5] from rfl) (Reps.none _ _))))))))))
              intro v275 w12 ho13 hb hg_ hnew_
              clear hg_ hnew_
              (first | rw [← Ny274.out] at ho13 | (simp only [Int.reduceToNat] at ho13; rw [← Ny274.out] at ho13))
              have n0_ := Aside0.mk (Kd.R_below (by (with_reducible repeat (first | apply Kd.R_alloc | apply Kd.R_drewN | apply Kd.R_drew)); exact HO269.out) hb)
              have n1_ := Aside0.mk (Kd.R_lower ho13 (below_size (by repeat (first | (with_reducible first | exact HB.out | apply below_alloc | apply pw_below_drewN | apply below_drew1) | exact HB.out))))
              have n3_ := Aside0.mk (below_step (by repeat (first | (with_reducible first | exact HB.out | apply below_alloc | apply pw_below_drewN | apply below_drew1) | exact HB.out)) hb)
              have z_HI266 := fun (h0_ : b 4 = false) => (show IsS125 w w12 g266 t264 t270 from by first | exact (IsS125.below (by repeat (first | (with_reducible first | exact (Q_HI266 h0_) | apply IsS125.alloc | apply IsS125.drewN | apply IsS125.drew | apply IsS125.set_1) | exact (Q_HI266 h0_))) hb))
              have z_HO273 := fun (h0_ : b 1 = true) => (show Kd.R (Kd.int .i64) 3 w12 w.heap.size (fun _ => True) v272 y271 from by first | exact (Kd.R_elder' (by (with_reducible repeat (first | apply Kd.R_alloc | apply Kd.R_drewN | apply Kd.R_drew)); exact (Q_HO273 h0_)) (Kd.R_base ho13) hb) | exact Kd.R_mono (Kd.R_elder' (by (with_reducible repeat (first | apply Kd.R_alloc | apply Kd.R_drewN | apply Kd.R_drew)); exact (Q_HO273 h0_)) (Kd.R_base ho13) hb) (fun _ h_ => by first | trivial | exact h_ | exact h_.1))
              have z_HI266_e4 := fun (h0_ : b 4 = true) => (show IsS125 w w12 g266 t264 t278 from by first | exact (IsS125.below (by repeat (first | (with_reducible first | exact (Q_HI266_e4 h0_) | apply IsS125.alloc | apply IsS125.drewN | apply IsS125.drew | apply IsS125.set_1) | exact (Q_HI266_e4 h0_))) hb))
              clear HO269
              clear HB
              have HO269 := n0_
              have HO276 := n1_
              have HB := n3_
              clear n0_ n1_ n3_
              clear hb ho13
              obtain ⟨Ao14, co14, eo14⟩ := Kd.R_slice HO276.out
              subst eo14
              obtain ⟨ado14, fo14, _⟩ := Kd.at_int (Kd.R_reads' HO276.out).2.2 0 (by decide) (by rw [Ny274.out]; simp)
              cases fo14
              refine hK.out _ _ ⟨v272, adz_v272, .slice (some ado14) y274.length co14, ado14, m5_, m7_, (by rw [ha.out]; exact putSel_upk 1 hb_ rfl rfl rfl), (by (with_reducible repeat (first | apply Kd.R_alloc | apply Kd.R_drewN | apply Kd.R_drew)); exact HO269.out), z_HI266, (by repeat (first | (with_reducible first | exact HB.out | apply below_alloc | apply pw_below_drewN | apply below_drew1) | exact HB.out)), z_HO273, Q_HA_HO273, fun _ => (by (with_reducible repeat (first | apply Kd.R_alloc | apply Kd.R_drewN | apply Kd.R_drew)); exact HO276.out), fun _ => ⟨_, rfl⟩, z_HI266_e4, fun h0_ => absurd ((hoff 5 (by kernel_rfl)).symm.trans h0_) (by decide), fun h0_ => absurd ((hoff 7 (by kernel_rfl)).symm.trans h0_) (by decide)⟩
            refine steps_cons ?_ ?_
            · rintro b a w' ⟨v272, adz_v272, v275, adz_v275, m5_, m7_, ha, Q_HO269, Q_HI266, Q_HB, Q_HO273, Q_HA_HO273, Q_HO276, Q_HA_HO276, Q_HI266_e4, Q_X5_, Q_X7_⟩ hb_ hon hoff
              refine ⟨_, rfl, fun K hK => ?_⟩
              have e13 : a.tmps[13]? = some (.pointer (some ⟨g266, 0, none⟩)) := by rw [ha]; exact (putSel_off rfl).trans rfl
              replace ha := Aside0.mk ha
              have HO269 := Aside0.mk Q_HO269
              have HI266 := Aside0.mk (Q_HI266 hb_)
              have HB := Aside0.mk Q_HB
              refine goes_ Try.func91 (by kernel_rfl) rfl #[.pointer (some ⟨g266, 0, none⟩), .int .i64 8] (by rfl) rfl rfl (by first | (simp only [List.map_toArray, List.map_cons, List.map_nil, Act.eval, Array.getD_eq_getD_getElem?, Option.getD_some, e13]; done) | (simp only [List.map_toArray, List.map_cons, List.map_nil, Act.eval, Array.getD_eq_getD_getElem?, Option.getD_some, e13]; rfl)) ?_
              with_reducible refine (spec_l20Rd_pick.calls k g266 t264 t270 8 t277 t278 w _ ?side1 ?side2 A4.out).mono ?_
              (case side1 => repeat (first | (with_reducible first | exact HI266.out | apply IsS125.alloc | apply IsS125.drewN | apply IsS125.drew | apply IsS125.set_1) | exact HI266.out))
              (case side2 => repeat (first | (with_reducible first | exact HB.out | apply below_alloc | apply pw_below_drewN | apply below_drew1 | refine below_set ?_ (IsS125.ge HI266.out)) | exact HB.out))
              rintro e w12 ⟨rfl, hi, hb, hk⟩
              refine ⟨_, rfl, ?_⟩
              have n0_ := Aside0.mk (Kd.R_mono (Kd.R_keep (IsS125.apart (show IsS125 w _ g266 t264 t270 from by repeat (first | (with_reducible first | exact HI266.out | apply IsS125.alloc | apply IsS125.drewN | apply IsS125.drew | apply IsS125.set_1) | exact HI266.out)) (by (with_reducible repeat (first | apply Kd.R_alloc | apply Kd.R_drewN | apply Kd.R_drew)); exact HO269.out) (by decide)) hk (fun _ h => h.2)) (fun _ h => h.1))
              have n1_ := Aside0.mk (hb)
              have n2_ := Aside0.mk (hi)
              have z_HO273 := fun (h0_ : b 1 = true) => (show Kd.R (Kd.int .i64) 3 w12 w.heap.size (fun _ => True) v272 y271 from by first | exact (Kd.R_mono (Kd.R_keep (IsS125.apart (show IsS125 w _ g266 t264 t270 from by repeat (first | (with_reducible first | exact HI266.out | apply IsS125.alloc | apply IsS125.drewN | apply IsS125.drew | apply IsS125.set_1) | exact HI266.out)) (by (with_reducible repeat (first | apply Kd.R_alloc | apply Kd.R_drewN | apply Kd.R_drew)); exact (Q_HO273 h0_)) (by decide)) hk (fun _ h => h.2)) (fun _ h => h.1)) | exact Kd.R_mono (Kd.R_mono (Kd.R_keep (IsS125.apart (show IsS125 w _ g266 t264 t270 from by repeat (first | (with_reducible first | exact HI266.out | apply IsS125.alloc | apply IsS125.drewN | apply IsS125.drew | apply IsS125.set_1) | exact HI266.out)) (by (with_reducible repeat (first | apply Kd.R_alloc | apply Kd.R_drewN | apply Kd.R_drew)); exact (Q_HO273 h0_)) (by decide)) hk (fun _ h => h.2)) (fun _ h => h.1)) (fun _ h_ => by first | trivial | exact h_ | exact h_.1))
              have z_HO276 := fun (h0_ : b 2 = true) => (show Kd.R (Kd.int .i64) 3 w12 w.heap.size (fun _ => True) v275 y274 from by first | exact (Kd.R_mono (Kd.R_keep (IsS125.apart (show IsS125 w _ g266 t264 t270 from by repeat (first | (with_reducible first | exact HI266.out | apply IsS125.alloc | apply IsS125.drewN | apply IsS125.drew | apply IsS125.set_1) | exact HI266.out)) (by (with_reducible repeat (first | apply Kd.R_alloc | apply Kd.R_drewN | apply Kd.R_drew)); exact (Q_HO276 h0_)) (by decide)) hk (fun _ h => h.2)) (fun _ h => h.1)) | exact Kd.R_mono (Kd.R_mono (Kd.R_keep (IsS125.apart (show IsS125 w _ g266 t264 t270 from by repeat (first | (with_reducible first | exact HI266.out | apply IsS125.alloc | apply IsS125.drewN | apply IsS125.drew | apply IsS125.set_1) | exact HI266.out)) (by (with_reducible repeat (first | apply Kd.R_alloc | apply Kd.R_drewN | apply Kd.R_drew)); exact (Q_HO276 h0_)) (by decide)) hk (fun _ h => h.2)) (fun _ h => h.1)) (fun _ h_ => by first | trivial | exact h_ | exact h_.1))
              clear HO269
              clear HB
              clear HI266
              have HO269 := n0_
              have HB := n1_
              have HI266 := n2_
              clear n0_ n1_ n2_
              (try clear hb)
              (try clear hb2)
              (try clear hk)
              (try clear hi)
              refine hK.out _ _ ⟨v272, adz_v272, v275, adz_v275, m5_, m7_, (by rw [ha.out]; exact putSel_upk 2 hb_ rfl rfl rfl), (by (with_reducible repeat (first | apply Kd.R_alloc | apply Kd.R_drewN | apply Kd.R_drew)); exact HO269.out), fun h0_ => absurd ((up_self b 4).symm.trans h0_) (by decide), (by repeat (first | (with_reducible first | exact HB.out | apply below_alloc | apply pw_below_drewN | apply below_drew1 | refine below_set ?_ (IsS125.ge HI266.out)) | exact HB.out)), z_HO273, Q_HA_HO273, z_HO276, Q_HA_HO276, fun _ => (by repeat (first | (with_reducible first | exact HI266.out | apply IsS125.alloc | apply IsS125.drewN | apply IsS125.drew | apply IsS125.set_1) | exact HI266.out)), fun h0_ => absurd ((hoff 5 (by kernel_rfl)).symm.trans h0_) (by decide), fun h0_ => absurd ((hoff 7 (by kernel_rfl)).symm.trans h0_) (by decide)⟩
            refine steps_cons ?_ ?_
            · rintro b a w' ⟨v272, adz_v272, v275, adz_v275, m5_, m7_, ha, Q_HO269, Q_HI266, Q_HB, Q_HO273, Q_HA_HO273, Q_HO276, Q_HA_HO276, Q_HI266_e4, Q_X5_, Q_X7_⟩ hb_ hon hoff
              refine ⟨_, rfl, fun K hK => ?_⟩
              have e12 : a.tmps[12]? = some (v275) := by rw [ha]; exact putSel_on (e := (2, 12, v275)) 1 rfl rfl (hon 2 (by kernel_rfl)) rfl
              have e14 : a.tmps[14]? = some (.int .i64 t277) := by rw [ha]; exact putSel_on (e := (4, 14, .int .i64 t277)) 2 rfl rfl (hon 4 (by kernel_rfl)) rfl
              replace ha := Aside0.mk ha
              have HO269 := Aside0.mk Q_HO269
              have HB := Aside0.mk Q_HB
              have HO276 := Aside0.mk (Q_HO276 (hon 2 (by kernel_rfl)))
              have HA_HO276 := Aside0.mk (Q_HA_HO276 (hon 2 (by kernel_rfl)))
              have HI266 := Aside0.mk (Q_HI266_e4 (hon 4 (by kernel_rfl)))
              obtain ⟨c_, hv_⟩ := HA_HO276.out
              rw [hv_] at e12
              refine value_ (w1 := w') (v := .pointer (some (adz_v275.add (t277).toNat))) (by rfl) rfl ?_ ?_
              · go_simp
                (try simp only [i64_w])
                try rfl
              refine hK.out _ _ ⟨v272, adz_v272, v275, adz_v275, (.pointer (some (adz_v275.add (t277).toNat))), m7_, (by rw [ha.out]; exact putSel_upk 3 hb_ rfl rfl rfl), Q_HO269, fun h0_ => absurd ((hon 4 (by kernel_rfl)).symm.trans h0_) (by decide), Q_HB, Q_HO273, Q_HA_HO273, Q_HO276, Q_HA_HO276, Q_HI266_e4, fun _ => rfl, fun h0_ => absurd ((hoff 7 (by kernel_rfl)).symm.trans h0_) (by decide)⟩
            refine steps_cons ?_ ?_
            · rintro b a w' ⟨v272, adz_v272, v275, adz_v275, m5_, m7_, ha, Q_HO269, Q_HI266, Q_HB, Q_HO273, Q_HA_HO273, Q_HO276, Q_HA_HO276, Q_HI266_e4, Q_X5_, Q_X7_⟩ hb_ hon hoff
              refine ⟨_, rfl, fun K hK => ?_⟩
              have e15 : a.tmps[15]? = some (m5_) := by rw [ha]; exact putSel_on (e := (5, 15, m5_)) 3 rfl rfl (hon 5 (by kernel_rfl)) rfl
              rw [Q_X5_ (hon 5 (by kernel_rfl))] at e15
              replace ha := Aside0.mk ha
              have HO269 := Aside0.mk Q_HO269
              have HB := Aside0.mk Q_HB
              have HO276 := Aside0.mk (Q_HO276 (hon 2 (by kernel_rfl)))
              have HA_HO276 := Aside0.mk (Q_HA_HO276 (hon 2 (by kernel_rfl)))
              have HI266 := Aside0.mk (Q_HI266_e4 (hon 4 (by kernel_rfl)))
              obtain ⟨c_, hv_⟩ := HA_HO276.out
              have hF_ := HO276.out
              rw [hv_] at hF_
              obtain ⟨ad_, ea_, hx_⟩ := Kd.at_int (Kd.R_reads' hF_).2.2 t277 (of_eq_true pi279) (of_eq_true qi279)
              cases ea_
              refine value_ (w1 := w') (v := .int .i64 (rd y274 t277)) (by rfl) rfl ?_ ?_
              · go_simp
                (try simp only [i64_w])
                try rfl
              refine hK.out _ _ ⟨v272, adz_v272, v275, adz_v275, m5_, m7_, (by rw [ha.out]; exact putSel_upk 4 hb_ rfl rfl rfl), Q_HO269, fun h0_ => absurd ((hon 4 (by kernel_rfl)).symm.trans h0_) (by decide), Q_HB, Q_HO273, Q_HA_HO273, Q_HO276, Q_HA_HO276, Q_HI266_e4, Q_X5_, fun h0_ => absurd ((hoff 7 (by kernel_rfl)).symm.trans h0_) (by decide)⟩
            refine steps_cons ?_ ?_
            · rintro b a w' ⟨v272, adz_v272, v275, adz_v275, m5_, m7_, ha, Q_HO269, Q_HI266, Q_HB, Q_HO273, Q_HA_HO273, Q_HO276, Q_HA_HO276, Q_HI266_e4, Q_X5_, Q_X7_⟩ hb_ hon hoff
              refine ⟨_, rfl, fun K hK => ?_⟩
              have e11 : a.tmps[11]? = some (v272) := by rw [ha]; exact putSel_on (e := (1, 11, v272)) 0 rfl rfl (hon 1 (by kernel_rfl)) rfl
              have e16 : a.tmps[16]? = some (.int .i64 (rd y274 t277)) := by rw [ha]; exact putSel_on (e := (6, 16, .int .i64 (rd y274 t277))) 4 rfl rfl (hon 6 (by kernel_rfl)) rfl
              replace ha := Aside0.mk ha
              have HO269 := Aside0.mk Q_HO269
              have HB := Aside0.mk Q_HB
              have HO273 := Aside0.mk (Q_HO273 (hon 1 (by kernel_rfl)))
              have HA_HO273 := Aside0.mk (Q_HA_HO273 (hon 1 (by kernel_rfl)))
              have HO276 := Aside0.mk (Q_HO276 (hon 2 (by kernel_rfl)))
              have HA_HO276 := Aside0.mk (Q_HA_HO276 (hon 2 (by kernel_rfl)))
              have HI266 := Aside0.mk (Q_HI266_e4 (hon 4 (by kernel_rfl)))
              obtain ⟨c_, hv_⟩ := HA_HO273.out
              rw [hv_] at e11
              refine value_ (w1 := w') (v := .pointer (some (adz_v272.add ((rd y274 t277)).toNat))) (by rfl) rfl ?_ ?_
              · go_simp
                (try simp only [i64_w])
                try rfl
              refine hK.out _ _ ⟨v272, adz_v272, v275, adz_v275, m5_, (.pointer (some (adz_v272.add ((rd y274 t277)).toNat))), (by rw [ha.out]; exact putSel_upk 5 hb_ rfl rfl rfl), Q_HO269, fun h0_ => absurd ((hon 4 (by kernel_rfl)).symm.trans h0_) (by decide), Q_HB, Q_HO273, Q_HA_HO273, Q_HO276, Q_HA_HO276, Q_HI266_e4, Q_X5_, fun _ => rfl⟩
            refine steps_cons ?_ ?_
            · rintro b a w' ⟨v272, adz_v272, v275, adz_v275, m5_, m7_, ha, Q_HO269, Q_HI266, Q_HB, Q_HO273, Q_HA_HO273, Q_HO276, Q_HA_HO276, Q_HI266_e4, Q_X5_, Q_X7_⟩ hb_ hon hoff
              refine ⟨_, rfl, fun K hK => ?_⟩
              have e17 : a.tmps[17]? = some (m7_) := by rw [ha]; exact putSel_on (e := (7, 17, m7_)) 5 rfl rfl (hon 7 (by kernel_rfl)) rfl
              rw [Q_X7_ (hon 7 (by kernel_rfl))] at e17
              replace ha := Aside0.mk ha
              have HO269 := Aside0.mk Q_HO269
              have HB := Aside0.mk Q_HB
              have HO273 := Aside0.mk (Q_HO273 (hon 1 (by kernel_rfl)))
              have HA_HO273 := Aside0.mk (Q_HA_HO273 (hon 1 (by kernel_rfl)))
              have HO276 := Aside0.mk (Q_HO276 (hon 2 (by kernel_rfl)))
              have HA_HO276 := Aside0.mk (Q_HA_HO276 (hon 2 (by kernel_rfl)))
              have HI266 := Aside0.mk (Q_HI266_e4 (hon 4 (by kernel_rfl)))
              obtain ⟨c_, hv_⟩ := HA_HO273.out
              have hF_ := HO273.out
              rw [hv_] at hF_
              obtain ⟨ad_, ea_, hx_⟩ := Kd.at_int (Kd.R_reads' hF_).2.2 (rd y274 t277) (of_eq_true pi280) (of_eq_true qi280)
              cases ea_
              refine value_ (w1 := w') (v := .int .i64 (rd y271 (rd y274 t277))) (by rfl) rfl ?_ ?_
              · go_simp
                (try simp only [i64_w])
                try rfl
              refine hK.out _ _ ⟨v272, adz_v272, v275, adz_v275, m5_, m7_, (by rw [ha.out]; exact putSel_upk 6 hb_ rfl rfl rfl), Q_HO269, fun h0_ => absurd ((hon 4 (by kernel_rfl)).symm.trans h0_) (by decide), Q_HB, Q_HO273, Q_HA_HO273, Q_HO276, Q_HA_HO276, Q_HI266_e4, Q_X5_, Q_X7_⟩
            refine steps_cons ?_ ?_
            · rintro b a w' ⟨v272, adz_v272, v275, adz_v275, m5_, m7_, ha, Q_HO269, Q_HI266, Q_HB, Q_HO273, Q_HA_HO273, Q_HO276, Q_HA_HO276, Q_HI266_e4, Q_X5_, Q_X7_⟩ hb_ hon hoff
              refine ⟨_, rfl, fun K hK => ?_⟩
              have e10 : a.tmps[10]? = some (v268) := by rw [ha]; exact (putSel_off rfl).trans rfl
              replace ha := Aside0.mk ha
              have HO269 := Aside0.mk Q_HO269
              have HB := Aside0.mk Q_HB
              have HI266 := Aside0.mk (Q_HI266_e4 (hon 4 (by kernel_rfl)))
              refine value_ (w1 := w') (v := v268) (by rfl) rfl ?_ ?_
              · go_simp
                (try simp only [i64_w])
                try rfl
              refine hK.out _ _ ⟨v272, adz_v272, v275, adz_v275, m5_, m7_, (by rw [ha.out]; exact putSel_upk 7 hb_ rfl rfl rfl), Q_HO269, fun h0_ => absurd ((hon 4 (by kernel_rfl)).symm.trans h0_) (by decide), Q_HB, Q_HO273, Q_HA_HO273, Q_HO276, Q_HA_HO276, Q_HI266_e4, Q_X5_, Q_X7_⟩
            refine steps_cons ?_ ?_
            · rintro b a w' ⟨v272, adz_v272, v275, adz_v275, m5_, m7_, ha, Q_HO269, Q_HI266, Q_HB, Q_HO273, Q_HA_HO273, Q_HO276, Q_HA_HO276, Q_HI266_e4, Q_X5_, Q_X7_⟩ hb_ hon hoff
              refine ⟨_, rfl, fun K hK => ?_⟩
              have e18 : a.tmps[18]? = some (.int .i64 (rd y271 (rd y274 t277))) := by rw [ha]; exact putSel_on (e := (8, 18, .int .i64 (rd y271 (rd y274 t277)))) 6 rfl rfl (hon 8 (by kernel_rfl)) rfl
              replace ha := Aside0.mk ha
              have HO269 := Aside0.mk Q_HO269
              have HB := Aside0.mk Q_HB
              have HO273 := Aside0.mk (Q_HO273 (hon 1 (by kernel_rfl)))
              have HA_HO273 := Aside0.mk (Q_HA_HO273 (hon 1 (by kernel_rfl)))
              have HO276 := Aside0.mk (Q_HO276 (hon 2 (by kernel_rfl)))
              have HA_HO276 := Aside0.mk (Q_HA_HO276 (hon 2 (by kernel_rfl)))
              have HI266 := Aside0.mk (Q_HI266_e4 (hon 4 (by kernel_rfl)))
              refine value_ (w1 := w') (v := .int .i64 (rd y271 (rd y274 t277))) (by rfl) rfl ?_ ?_
              · go_simp
                (try simp only [i64_w])
                try rfl
              refine hK.out _ _ ⟨v272, adz_v272, v275, adz_v275, m5_, m7_, (by rw [ha.out]; exact putSel_upk 8 hb_ rfl rfl rfl), Q_HO269, fun h0_ => absurd ((hon 4 (by kernel_rfl)).symm.trans h0_) (by decide), Q_HB, Q_HO273, Q_HA_HO273, Q_HO276, Q_HA_HO276, Q_HI266_e4, Q_X5_, Q_X7_⟩
            exact steps_nil
          rintro b a w19 hall ⟨v272, adz_v272, v275, adz_v275, m5_, m7_, ha, Q_HO269, Q_HI266, Q_HB, Q_HO273, Q_HA_HO273, Q_HO276, Q_HA_HO276, Q_HI266_e4, Q_X5_, Q_X7_⟩
          clear HB HI266 HO269
          have hb1_ := hall 1 (by kernel_rfl)
          have hb2_ := hall 2 (by kernel_rfl)
          have hb4_ := hall 4 (by kernel_rfl)
          have hb5_ := hall 5 (by kernel_rfl)
          have hb6_ := hall 6 (by kernel_rfl)
          have hb7_ := hall 7 (by kernel_rfl)
          have hb8_ := hall 8 (by kernel_rfl)
          have hb9_ := hall 9 (by kernel_rfl)
          have hb10_ := hall 10 (by kernel_rfl)
          subst ha
          obtain rfl := Q_X5_ hb5_
          obtain rfl := Q_X7_ hb7_
          simp only [putSel, hb1_, hb2_, hb4_, hb5_, hb6_, hb7_, hb8_, hb9_, hb10_, if_true, Act.put, List.setIfInBounds_toArray, List.set_cons_zero, List.set_cons_succ]
          have HO269 := Aside0.mk Q_HO269
          clear Q_HO269
          clear Q_HI266
          have HB := Aside0.mk Q_HB
          clear Q_HB
          have HO273 := Aside0.mk (Q_HO273 hb1_)
          clear Q_HO273
          have HA_HO273 := Aside0.mk (Q_HA_HO273 hb1_)
          clear Q_HA_HO273
          have HO276 := Aside0.mk (Q_HO276 hb2_)
          clear Q_HO276
          have HA_HO276 := Aside0.mk (Q_HA_HO276 hb2_)
          clear Q_HA_HO276
          have HI266 := Aside0.mk (Q_HI266_e4 hb4_)
          clear Q_HI266_e4
          clear hall hb1_ hb2_ hb4_ hb5_ hb6_ hb7_ hb8_ hb9_ hb10_
          obtain ⟨co20, eo20⟩ := HA_HO273.out
          clear HA_HO273
          subst eo20
          obtain ⟨co21, eo21⟩ := HA_HO276.out
          clear HA_HO276
          subst eo21
          try go_wp2
          go_ret2
          exact ⟨_, by first | rfl | (simp [errW_none, errW_some] <;> rfl) | (simp [*, errW_none, errW_some] <;> rfl), by (with_reducible repeat (first | apply Kd.R_alloc | apply Kd.R_drewN | apply Kd.R_drew)); exact HO269.out, by repeat (first | (with_reducible first | exact HB.out | apply below_alloc | apply pw_below_drewN | apply below_drew1 | refine below_set ?_ (IsS125.ge HI266.out)) | exact HB.out)⟩
        · rw [if_neg c8] at H
          exact absurd H (by simp)
      · rw [if_neg c7] at H
        exact absurd H (by simp)
    · rw [if_neg c6] at H
      exact absurd H (by simp)
  · rw [if_neg c5] at H
    exact absurd H (by simp)

end Go.Proofs.Ythbbhdadioiefaa.QFnCompressLine
