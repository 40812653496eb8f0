-- Written by wip/pr2.py: a program of this session's own, which runs the kit's print over contracts of its own.
import Derived.Test.YthbbhdadioiefaaQFnExactCompressTrendx0
import Derived.Test.YthbbhdadioiefaaQFnExactCompressTrendx3
import Derived.Test.YthbbhdadioiefaaQFnExactCompressTrendx4
namespace Go.Proofs.Ythbbhdadioiefaa.QFnExactCompressTrend
open Go.RowKit Go.Proofs.YthbbhdadioiefaaW.PrintWords Go.Proofs.YthbbhdadioiefaaW.PrintLast Go.Proofs.YthbbhdadioiefaaW.PrintMore
attribute [local go_sem] max2_int min2_int max_two min_two max_three min_three max_four min_four   -- for this text's walks alone
set_option linter.unusedVariables false
set_option linter.unusedSimpArgs false

/-! ### impl_CompressTrend: function 61 -/
mutual
def impl_CompressTrend.j0 : Nat → List (S84) → Int → Bool → Option ((List (S84)))
  | 0, _, _, _ => none
  | k + 1, x0, x1, x20 => if x20 = true then (some ([] : List (S84))) else (if 0 < (x0.length : Int) then (impl_CompressTrend.l0 k x0 x1 (([(⟨(rd_T84 x0 0).f0, (rd_T84 x0 0).f1⟩ : S84)] : List (S84))) 0) else (none))
def impl_CompressTrend.l0 : Nat → List (S84) → Int → List (S84) → Int → Option ((List (S84)))
  | 0, _, _, _, _ => none
  | k + 1, x0, x1, x5, x6 => if x6 < (wrap64 ((x0.length : Int) - 1)) then (impl_CompressTrend.l1 k x0 x1 x5 x6 (wrap64 (x6 + 1))) else ((impl_Point_98.f x5).bind fun t172 => (some t172))
def impl_CompressTrend.l1 : Nat → List (S84) → Int → List (S84) → Int → Int → Option ((List (S84)))
  | 0, _, _, _, _, _ => none
  | k + 1, x0, x1, x5, x6, x7 => if x7 < (wrap64 ((x0.length : Int) - 1)) then ((impl_near.f k x0 x6 (wrap64 (x7 + 1)) x1).bind fun t175 => (if t175 = true then (impl_CompressTrend.l1 k x0 x1 x5 x6 (wrap64 (x7 + 1))) else (if 0 ≤ x7 then (if x7 < (x0.length : Int) then (if x5.length < 8796093022208 then (impl_CompressTrend.l0 k x0 x1 (x5 ++ [(⟨(rd_T84 x0 x7).f0, (rd_T84 x0 x7).f1⟩ : S84)]) x7) else (none)) else (none)) else (none)))) else (if 0 ≤ x7 then (if x7 < (x0.length : Int) then (if x5.length < 8796093022208 then (impl_CompressTrend.l0 k x0 x1 (x5 ++ [(⟨(rd_T84 x0 x7).f0, (rd_T84 x0 x7).f1⟩ : S84)]) x7) else (none)) else (none)) else (none))
end
def impl_CompressTrend.f (k : Nat) (l0 : List (S84)) (a1 : Int) : Option ((List (S84))) := (impl_TrendValid.f k l0).bind fun t166 => (if t166 = true then ((impl_in.f a1 0 32767).bind fun t167 => (if t167 = true then (impl_CompressTrend.j0 k l0 a1 ((l0.length : Int) == 0)) else (impl_CompressTrend.j0 k l0 a1 true))) else (impl_CompressTrend.j0 k l0 a1 true))
theorem impl_CompressTrend.mono_l : ∀ k, (∀ y0 y1 y2, LeO (impl_CompressTrend.j0 k y0 y1 y2) (impl_CompressTrend.j0 (k + 1) y0 y1 y2)) ∧ (∀ y0 y1 y2 y3, LeO (impl_CompressTrend.l0 k y0 y1 y2 y3) (impl_CompressTrend.l0 (k + 1) y0 y1 y2 y3)) ∧ (∀ y0 y1 y2 y3 y4, LeO (impl_CompressTrend.l1 k y0 y1 y2 y3 y4) (impl_CompressTrend.l1 (k + 1) y0 y1 y2 y3 y4))
  | 0 => ⟨fun _ _ _ r h => by simp [impl_CompressTrend.j0] at h, fun _ _ _ _ r h => by simp [impl_CompressTrend.l0] at h, fun _ _ _ _ _ r h => by simp [impl_CompressTrend.l1] at h⟩
  | k + 1 => by
    obtain ⟨ih0, ih1, ih2⟩ := impl_CompressTrend.mono_l k
    refine ⟨?_, ?_, ?_⟩
    · intro y0 y1 y2
      unfold impl_CompressTrend.j0
      repeat' first
      | (with_reducible exact ih0 _ _ _)
      | (with_reducible exact ih1 _ _ _ _)
      | (with_reducible exact ih2 _ _ _ _ _)
      | (with_reducible exact impl_TrendValid.mono _ _)
      | (with_reducible exact impl_near.mono _ _ _ _ _)
      | (with_reducible exact LeO.refl _)
      | (with_reducible exact LeO.none _)
      | (with_reducible refine LeO.ite ?_ ?_)
      | (with_reducible refine LeO.bind ?_ (fun _ => ?_))
      | exact ih0 _ _ _
      | exact ih1 _ _ _ _
      | exact ih2 _ _ _ _ _
      | exact impl_TrendValid.mono _ _
      | exact impl_near.mono _ _ _ _ _
      | exact LeO.none _
      | refine LeO.ite ?_ ?_
      | refine LeO.bind ?_ (fun _ => ?_)
    · intro y0 y1 y2 y3
      unfold impl_CompressTrend.l0
      repeat' first
      | (with_reducible exact ih0 _ _ _)
      | (with_reducible exact ih1 _ _ _ _)
      | (with_reducible exact ih2 _ _ _ _ _)
      | (with_reducible exact impl_TrendValid.mono _ _)
      | (with_reducible exact impl_near.mono _ _ _ _ _)
      | (with_reducible exact LeO.refl _)
      | (with_reducible exact LeO.none _)
      | (with_reducible refine LeO.ite ?_ ?_)
      | (with_reducible refine LeO.bind ?_ (fun _ => ?_))
      | exact ih0 _ _ _
      | exact ih1 _ _ _ _
      | exact ih2 _ _ _ _ _
      | exact impl_TrendValid.mono _ _
      | exact impl_near.mono _ _ _ _ _
      | exact LeO.none _
      | refine LeO.ite ?_ ?_
      | refine LeO.bind ?_ (fun _ => ?_)
    · intro y0 y1 y2 y3 y4
      unfold impl_CompressTrend.l1
      repeat' first
      | (with_reducible exact ih0 _ _ _)
      | (with_reducible exact ih1 _ _ _ _)
      | (with_reducible exact ih2 _ _ _ _ _)
      | (with_reducible exact impl_TrendValid.mono _ _)
      | (with_reducible exact impl_near.mono _ _ _ _ _)
      | (with_reducible exact LeO.refl _)
      | (with_reducible exact LeO.none _)
      | (with_reducible refine LeO.ite ?_ ?_)
      | (with_reducible refine LeO.bind ?_ (fun _ => ?_))
      | exact ih0 _ _ _
      | exact ih1 _ _ _ _
      | exact ih2 _ _ _ _ _
      | exact impl_TrendValid.mono _ _
      | exact impl_near.mono _ _ _ _ _
      | exact LeO.none _
      | refine LeO.ite ?_ ?_
      | refine LeO.bind ?_ (fun _ => ?_)
theorem impl_CompressTrend.mono : ∀ a0 a1 k, LeO (impl_CompressTrend.f k a0 a1) (impl_CompressTrend.f (k + 1) a0 a1) := by
  intro a0 a1 k
  obtain ⟨ih0, ih1, ih2⟩ := impl_CompressTrend.mono_l k
  unfold impl_CompressTrend.f
  repeat' first
      | (with_reducible exact ih0 _ _ _)
      | (with_reducible exact ih1 _ _ _ _)
      | (with_reducible exact ih2 _ _ _ _ _)
      | (with_reducible exact impl_TrendValid.mono _ _)
      | (with_reducible exact impl_near.mono _ _ _ _ _)
      | (with_reducible exact LeO.refl _)
      | (with_reducible exact LeO.none _)
      | (with_reducible refine LeO.ite ?_ ?_)
      | (with_reducible refine LeO.bind ?_ (fun _ => ?_))
      | exact ih0 _ _ _
      | exact ih1 _ _ _ _
      | exact ih2 _ _ _ _ _
      | exact impl_TrendValid.mono _ _
      | exact impl_near.mono _ _ _ _ _
      | exact LeO.none _
      | refine LeO.ite ?_ ?_
      | refine LeO.bind ?_ (fun _ => ?_)
set_option maxHeartbeats 8000000 in
set_option maxRecDepth 100000 in
theorem impl_CompressTrend.calls (k : Nat) (A0 : Option Addr) (c0 : Nat) (l0 : List (S84)) (a1 : Int) (r : List (S84)) (w : World) (hr0 : Kd.C k84 w A0 l0.length l0) (hc0 : l0.length ≤ c0) (h : impl_CompressTrend.f k l0 a1 = some r) :
    Calls Try.prog 61 #[.slice A0 l0.length c0, .int .i64 a1] w fun e w' => ∃ v0_ : Value, e = .returned (v0_) ∧ Kd.W k84 84 w' w.heap.size (fun _ => True) v0_ r ∧ Below w.heap.size w w' := by
  have hu84 := Try.underlying84
  have HR0 := Aside0.mk hr0
  have HC0 := Aside0.mk hc0
  clear hr0 hc0
  have HB := Aside0.mk (Below.refl w.heap.size w)
  have H : ((impl_TrendValid.f k l0).bind fun t166 => (if t166 = true then ((impl_in.f a1 0 32767).bind fun t167 => (if t167 = true then (impl_CompressTrend.j0 k l0 a1 ((l0.length : Int) == 0)) else (impl_CompressTrend.j0 k l0 a1 true))) else (impl_CompressTrend.j0 k l0 a1 true))) = some r := h
  clear h
  have HC3 := Aside0.mk H
  clear H
  go_enter Try.func61, Try.ntmps61
  go_upto_region 1 with (fail)
  go_cut [20] (fun v20 wc => ∃ (kq : Nat) (x20_2 : Bool), v20 = .bool x20_2 ∧ Aside0 (impl_CompressTrend.j0 kq l0 a1 x20_2 = some r) ∧ Aside0 (kq ≤ k) ∧ Aside0 (Below w.heap.size w wc))
  case first =>
    have H := HC3.out
    clear HC3
    replace H := Option.bind_eq_some_iff.mp H
    obtain ⟨t166, A40, H⟩ := H
    replace H : (if t166 = true then ((impl_in.f a1 0 32767).bind fun t167 => (if t167 = true then (impl_CompressTrend.j0 k l0 a1 ((l0.length : Int) == 0)) else (impl_CompressTrend.j0 k l0 a1 true))) else (impl_CompressTrend.j0 k l0 a1 true)) = some r := H
    have A4 := Aside0.mk A40
    clear A40
    by_cases c5 : t166 = true
    · subst c5
      have H1 : ((impl_in.f a1 0 32767).bind fun t167 => (if t167 = true then (impl_CompressTrend.j0 k l0 a1 ((l0.length : Int) == 0)) else (impl_CompressTrend.j0 k l0 a1 true))) = some r := by rw [if_pos rfl] at H; exact H
      clear H
      have H := H1
      clear H1
      replace H := Option.bind_eq_some_iff.mp H
      obtain ⟨t167, A60, H⟩ := H
      replace H : (if t167 = true then (impl_CompressTrend.j0 k l0 a1 ((l0.length : Int) == 0)) else (impl_CompressTrend.j0 k l0 a1 true)) = some r := H
      have A6 := Aside0.mk A60
      clear A60
      by_cases c7 : t167 = true
      · subst c7
        have H1 : (impl_CompressTrend.j0 k l0 a1 ((l0.length : Int) == 0)) = some r := by rw [if_pos rfl] at H; exact H
        clear H
        have H := H1
        clear H1
        have H' := Aside0.mk H
        clear H
        go_wp2_with (first | ((with_reducible refine gate_callee (f := 20) rfl ?_); refine goesL_ (some 9) rfl rfl Try.func20 (by kernel_rfl) rfl #[.slice A0 l0.length c0] rfl (by (try simp only [List.map_toArray, List.map_cons, List.map_nil]); first | done | rfl | (simp only [List.length_drop, List.length_take]; rfl)) ?_; (with_reducible refine (impl_TrendValid.calls k _ _ l0 true _ ?side1 ?side2 A4.out).mono ?_); (case side1 => repeat (first | exact (Kd.C_below HR0.out HB.out) | (with_reducible refine Kd.C_alloc ?_ _) | (with_reducible refine Kd.C_drewN ?_ _) | (with_reducible refine Kd.C_drew ?_))); (case side2 => exact HC0.out); rintro e w8 ⟨rfl, hb⟩; refine ⟨_, rfl, ?_⟩; have n0_ := Aside0.mk (below_step (by repeat (first | (with_reducible first | exact HB.out | apply below_alloc | apply pw_below_drewN | apply below_drew1) | exact HB.out)) hb); clear HB; have HB := n0_; clear n0_; (try clear hb); (try clear hb2); (try clear hk); (try clear hi)) | (go_at_call 74; (with_reducible refine (impl_in.calls a1 0 32767 true _ A6.out).mono ?_); rintro e w' ⟨rfl, ⟨nd, rfl⟩⟩))
        go_meet
        case rel => exact ⟨_, (((l0.length : Int) == 0)), (by first | rfl | (simp; done) | (simp [*]; done)), H', ⟨by first | omega | exact Nat.le_refl _⟩, ⟨by repeat (first | (with_reducible first | exact HB.out | apply below_alloc | apply pw_below_drewN | apply below_drew1) | exact HB.out)⟩⟩
      · replace c7 := Bool.eq_false_iff.mpr c7
        subst c7
        have H1 : (impl_CompressTrend.j0 k l0 a1 true) = some r := by rw [if_neg (show ¬ (false = true) by decide)] at H; exact H
        clear H
        have H := H1
        clear H1
        have H' := Aside0.mk H
        clear H
        go_wp2_with (first | ((with_reducible refine gate_callee (f := 20) rfl ?_); refine goesL_ (some 9) rfl rfl Try.func20 (by kernel_rfl) rfl #[.slice A0 l0.length c0] rfl (by (try simp only [List.map_toArray, List.map_cons, List.map_nil]); first | done | rfl | (simp only [List.length_drop, List.length_take]; rfl)) ?_; (with_reducible refine (impl_TrendValid.calls k _ _ l0 true _ ?side1 ?side2 A4.out).mono ?_); (case side1 => repeat (first | exact (Kd.C_below HR0.out HB.out) | (with_reducible refine Kd.C_alloc ?_ _) | (with_reducible refine Kd.C_drewN ?_ _) | (with_reducible refine Kd.C_drew ?_))); (case side2 => exact HC0.out); rintro e w9 ⟨rfl, hb⟩; refine ⟨_, rfl, ?_⟩; have n0_ := Aside0.mk (below_step (by repeat (first | (with_reducible first | exact HB.out | apply below_alloc | apply pw_below_drewN | apply below_drew1) | exact HB.out)) hb); clear HB; have HB := n0_; clear n0_; (try clear hb); (try clear hb2); (try clear hk); (try clear hi)) | (go_at_call 74; (with_reducible refine (impl_in.calls a1 0 32767 false _ A6.out).mono ?_); rintro e w' ⟨rfl, ⟨nd, rfl⟩⟩))
        go_meet
        case rel => exact ⟨_, (true), (by first | rfl | (simp; done) | (simp [*]; done)), H', ⟨by first | omega | exact Nat.le_refl _⟩, ⟨by repeat (first | (with_reducible first | exact HB.out | apply below_alloc | apply pw_below_drewN | apply below_drew1) | exact HB.out)⟩⟩
    · replace c5 := Bool.eq_false_iff.mpr c5
      subst c5
      have H1 : (impl_CompressTrend.j0 k l0 a1 true) = some r := by rw [if_neg (show ¬ (false = true) by decide)] at H; exact H
      clear H
      have H := H1
      clear H1
      have H' := Aside0.mk H
      clear H
      go_wp2_with (first | ((with_reducible refine gate_callee (f := 20) rfl ?_); refine goesL_ (some 9) rfl rfl Try.func20 (by kernel_rfl) rfl #[.slice A0 l0.length c0] rfl (by (try simp only [List.map_toArray, List.map_cons, List.map_nil]); first | done | rfl | (simp only [List.length_drop, List.length_take]; rfl)) ?_; (with_reducible refine (impl_TrendValid.calls k _ _ l0 false _ ?side1 ?side2 A4.out).mono ?_); (case side1 => repeat (first | exact (Kd.C_below HR0.out HB.out) | (with_reducible refine Kd.C_alloc ?_ _) | (with_reducible refine Kd.C_drewN ?_ _) | (with_reducible refine Kd.C_drew ?_))); (case side2 => exact HC0.out); rintro e w10 ⟨rfl, hb⟩; refine ⟨_, rfl, ?_⟩; have n0_ := Aside0.mk (below_step (by repeat (first | (with_reducible first | exact HB.out | apply below_alloc | apply pw_below_drewN | apply below_drew1) | exact HB.out)) hb); clear HB; have HB := n0_; clear n0_; (try clear hb); (try clear hb2); (try clear hk); (try clear hi)))
      go_meet
      case rel => exact ⟨_, (true), (by first | rfl | (simp; done) | (simp [*]; done)), H', ⟨by first | omega | exact Nat.le_refl _⟩, ⟨by repeat (first | (with_reducible first | exact HB.out | apply below_alloc | apply pw_below_drewN | apply below_drew1) | exact HB.out)⟩⟩
  case rest =>
    clear HC3
    try clear c2
    try clear p2
    try clear c5
    try clear c6
    try clear c7
    obtain ⟨kq, x20_2, rfl, HA, HJ2, HB⟩ := hcut
    cases kq with
    | zero => exact absurd HA.out (by simp [impl_CompressTrend.j0])
    | succ kj2 =>
      have H := HA.out
      clear HA
      simp only [impl_CompressTrend.j0] at H
      by_cases c11 : x20_2 = true
      · subst c11
        have H1 : (some ([] : List (S84))) = some r := by rw [if_pos rfl] at H; exact H
        clear H
        have H := H1
        clear H1
        obtain rfl := Option.some.inj H
        go_wp2
        go_ret
        exact ⟨_, by first | rfl | (simp [errW_none, errW_some] <;> rfl) | (simp [*, errW_none, errW_some] <;> rfl), Kd.W_of_R (by first | exact Kd.R_nil _ _ _ _ _ | exact Kd.N_nil _ _ _ _ _ | exact Kd.V_nil _ _ _ _ _ | exact Kd.W_nil _ _ _ _ _ | exact Kd.S_nil _ _ _ _ _), by repeat (first | (with_reducible first | exact HB.out | apply below_alloc | apply pw_below_drewN | apply below_drew1) | exact HB.out)⟩
      · replace c11 := Bool.eq_false_iff.mpr c11
        subst c11
        have H1 : (if 0 < (l0.length : Int) then (impl_CompressTrend.l0 kj2 l0 a1 (([(⟨(rd_T84 l0 0).f0, (rd_T84 l0 0).f1⟩ : S84)] : List (S84))) 0) else (none)) = some r := by rw [if_neg (show ¬ (false = true) by decide)] at H; exact H
        clear H
        have H := H1
        clear H1
        by_cases c12 : 0 < (l0.length : Int)
        · rw [if_pos c12] at H
          have c12b0 : decide (0 < (l0.length : Int)) = true := decide_eq_true c12
          have c12b1 : decide (0 < l0.length) = true := decide_eq_true (by omega)
          clear c12
          obtain ⟨y169, hy169⟩ : ∃ y_ : List (S84), y_ = (([(⟨(rd_T84 l0 0).f0, (rd_T84 l0 0).f1⟩ : S84)] : List (S84))) := ⟨_, rfl⟩
          replace H : (impl_CompressTrend.l0 kj2 l0 a1 y169 0) = some r := by first | (rw [hy169]; with_reducible exact H) | (have H2_ := (Option.bind_some _ _).symm.trans H; rw [hy169]; with_reducible exact H2_) | (have H2_ := (Option.bind_some _ _).symm.trans H; with_reducible exact H2_) | with_reducible exact H | (rw [hy169]; exact H) | exact H
          have Ny169 := Aside0.mk hy169
          clear hy169
          have H' := Aside0.mk H
          clear H
          have p168 : 0 ≤ (0 : Int) := (by omega)
          have q168 : 0 < (l0.length : Int) := of_decide_eq_true (by first | (with_reducible assumption) | assumption)
          obtain ⟨ad168, e168, hx168_0, hx168_1⟩ := at_T84 HR0.out 0 p168 q168
          cases e168
          have qi168 : (0 < l0.length) = True := eq_true (by omega)
          (try rw [show ((0 : Int)).toNat = 0 from rfl] at hx168_0)
          (try rw [show 0 * 2 = 0 from rfl] at hx168_0)
          (try rw [Addr.add_zero'] at hx168_0)
          (try rw [show ((0 : Int)).toNat = 0 from rfl] at hx168_1)
          (try rw [show 0 * 2 = 0 from rfl] at hx168_1)
          (try rw [Addr.add_zero'] at hx168_1)
          replace hx168_0 := (HB.out.cell (World.block_lt_of_cell? w _ hx168_0)).trans hx168_0
          replace hx168_1 := (HB.out.cell (World.block_lt_of_cell? w _ hx168_1)).trans hx168_1
          replace p168 := eq_true p168
          replace q168 := eq_true q168
          go_wp2_with (first | ((with_reducible refine gate_dst (N := 24) rfl ?_); (try (refine gate_guard (by rfl) ?_; dsimp only)); refine Kd.R_lit k84 _ 84 ?hg (N := 24) ?hd (xs := ([(⟨(rd_T84 l0 0).f0, (rd_T84 l0 0).f1⟩ : S84)] : List (S84))) (inner := [.int .i64 ((rd_T84 l0 0).f0), .int .i64 ((rd_T84 l0 0).f1)]) (ok := fun _ => True) (okp := fun _ => True) ?hr ?hp (fun _ hk => hk) trivial (Below.refl _ _) (Nat.le_refl _) (by simp) ?_; (case hd => rfl); (case hg => rfl); (case hr => first | (go_simp; done) | (go_simp; rfl)); (case hp => exact (Reps.c2 (show Kd.M k84 _ _ _ (⟨(rd_T84 l0 0).f0, (rd_T84 l0 0).f1⟩ : S84) [.int .i64 ((rd_T84 l0 0).f0), .int .i64 ((rd_T84 l0 0).f1)] from (k84_mkM _ _ _ (⟨(rd_T84 l0 0).f0, (rd_T84 l0 0).f1⟩ : S84) )) (Reps.none _ _))); intro v170 w13 ho14 hb hg_ hnew_; clear hg_ hnew_; (first | rw [← Ny169.out] at ho14 | (simp only [Int.reduceToNat] at ho14; rw [← Ny169.out] at ho14)); have n0_ := Aside0.mk (Kd.R_lower ho14 (below_size (by repeat (first | (with_reducible first | exact HB.out | apply below_alloc | apply pw_below_drewN | apply below_drew1) | exact HB.out)))); have n1_ := Aside0.mk (below_step (by repeat (first | (with_reducible first | exact HB.out | apply below_alloc | apply pw_below_drewN | apply below_drew1) | exact HB.out)) hb); clear HB; have HO171 := n0_; have HB := n1_; clear n0_ n1_; clear hb ho14))
          go_loopg [5, 6] kj2 (fun kq v5 v6 w' => ∃ (x5_2 : List (S84)) (x6_2 : Int), v6 = .int .i64 x6_2 ∧ Aside0 (impl_CompressTrend.l0 kq l0 a1 x5_2 x6_2 = some r) ∧ Aside0 (kq ≤ kj2) ∧ Aside0 (Kd.R k84 84 w' w.heap.size (fun _ => True) v5 x5_2) ∧ Aside0 (Below w.heap.size w w'))
          case atStart => exact ⟨(y169), (0), (by first | rfl | (simp; done) | (simp [*]; done)), H', ⟨Nat.le_refl _⟩, ⟨by (with_reducible repeat (first | apply Kd.R_alloc | apply Kd.R_drewN | apply Kd.R_drew)); exact HO171.out⟩, ⟨by repeat (first | (with_reducible first | exact HB.out | apply below_alloc | apply pw_below_drewN | apply below_drew1) | exact HB.out)⟩⟩
          case round =>
            clear H'
            try clear c1
            try clear p1
            try clear q1
            try clear hx1
            try clear qi1
            try clear c2
            try clear p2
            try clear c5
            try clear c6
            try clear c7
            try clear c11
            try clear c12
            try clear c12b0
            try clear c12b1
            try clear hx168_0
            try clear hx168_1
            try clear p168
            try clear p2
            try clear q168
            obtain ⟨x5_2, x6_2, rfl, HA, HK2, HO_5, HB⟩ := hrel
            cases gk with
            | zero => exact absurd HA.out (by simp [impl_CompressTrend.l0])
            | succ k2 =>
              have H := HA.out
              clear HA
              simp only [impl_CompressTrend.l0] at H
              by_cases c15 : x6_2 < (wrap64 ((l0.length : Int) - 1))
              · rw [if_pos c15] at H
                have c15b0 : decide (x6_2 < (wrap64 ((l0.length : Int) - 1))) = true := decide_eq_true c15
                clear c15
                have H' := Aside0.mk H
                clear H
                go_wp2
                go_loopg [7] k2 (fun kq v7 w' => ∃ (x7_3 : Int), v7 = .int .i64 x7_3 ∧ Aside0 (impl_CompressTrend.l1 kq l0 a1 x5_2 x6_2 x7_3 = some r) ∧ Aside0 (kq ≤ k2) ∧ Aside0 (Kd.R k84 84 w' w.heap.size (fun _ => True) u5 x5_2) ∧ Aside0 (Below w.heap.size w w'))
                case atStart => exact ⟨(wrap64 (x6_2 + 1)), (by first | rfl | (simp; done) | (simp [*]; done)), H', ⟨Nat.le_refl _⟩, ⟨by (with_reducible repeat (first | apply Kd.R_alloc | apply Kd.R_drewN | apply Kd.R_drew)); exact HO_5.out⟩, ⟨by repeat (first | (with_reducible first | exact HB.out | apply below_alloc | apply pw_below_drewN | apply below_drew1) | exact HB.out)⟩⟩
                case round =>
                  clear H'
                  try clear c1
                  try clear p1
                  try clear q1
                  try clear hx1
                  try clear qi1
                  try clear c2
                  try clear p2
                  try clear c5
                  try clear c6
                  try clear p6
                  try clear c7
                  try clear c11
                  try clear c12
                  try clear c12b0
                  try clear c12b1
                  try clear c15
                  try clear c15b0
                  try clear hx168_0
                  try clear hx168_1
                  try clear p1
                  try clear p168
                  try clear p2
                  try clear q1
                  try clear q168
                  obtain ⟨x7_3, rfl, HA, HK3, HO_5, HB⟩ := hrel
                  cases gk with
                  | zero => exact absurd HA.out (by simp [impl_CompressTrend.l1])
                  | succ k3 =>
                    have H := HA.out
                    clear HA
                    simp only [impl_CompressTrend.l1] at H
                    by_cases c16 : x7_3 < (wrap64 ((l0.length : Int) - 1))
                    · rw [if_pos c16] at H
                      have c16b0 : decide (x7_3 < (wrap64 ((l0.length : Int) - 1))) = true := decide_eq_true c16
                      clear c16
                      replace H := Option.bind_eq_some_iff.mp H
                      obtain ⟨t175, A170, H⟩ := H
                      replace H : (if t175 = true then (impl_CompressTrend.l1 k3 l0 a1 x5_2 x6_2 (wrap64 (x7_3 + 1))) else (if 0 ≤ x7_3 then (if x7_3 < (l0.length : Int) then (if x5_2.length < 8796093022208 then (impl_CompressTrend.l0 k3 l0 a1 (x5_2 ++ [(⟨(rd_T84 l0 x7_3).f0, (rd_T84 l0 x7_3).f1⟩ : S84)]) x7_3) else (none)) else (none)) else (none))) = some r := H
                      have A17 := Aside0.mk A170
                      clear A170
                      by_cases c18 : t175 = true
                      · subst c18
                        have H1 : (impl_CompressTrend.l1 k3 l0 a1 x5_2 x6_2 (wrap64 (x7_3 + 1))) = some r := by rw [if_pos rfl] at H; exact H
                        clear H
                        have H := H1
                        clear H1
                        have H' := Aside0.mk H
                        clear H
                        go_wp2_with (first | (go_at_call 97; (with_reducible refine (impl_near.calls k3 _ _ l0 x6_2 (wrap64 (x7_3 + 1)) a1 true _ ?side1 ?side2 A17.out).mono ?_); (case side1 => repeat (first | exact (Kd.C_below HR0.out HB.out) | (with_reducible refine Kd.C_alloc ?_ _) | (with_reducible refine Kd.C_drewN ?_ _) | (with_reducible refine Kd.C_drew ?_))); (case side2 => exact HC0.out); rintro e w19 ⟨rfl, hb⟩; have n0_ := Aside0.mk (Kd.R_below (by (with_reducible repeat (first | apply Kd.R_alloc | apply Kd.R_drewN | apply Kd.R_drew)); exact HO_5.out) hb); have n1_ := Aside0.mk (below_step (by repeat (first | (with_reducible first | exact HB.out | apply below_alloc | apply pw_below_drewN | apply below_drew1) | exact HB.out)) hb); clear HO_5; clear HB; have HO_5 := n0_; have HB := n1_; clear n0_ n1_; (try clear hb); (try clear hb2); (try clear hk); (try clear hi)))
                        go_roundg k3
                        case measure => have := HJ2.out; have := HK2.out; have := HK3.out; omega
                        case rel => exact ⟨(wrap64 (x7_3 + 1)), (by first | rfl | (simp; done) | (simp [*]; done)), H', ⟨by have := HJ2.out; have := HK2.out; have := HK3.out; omega⟩, ⟨by (with_reducible repeat (first | apply Kd.R_alloc | apply Kd.R_drewN | apply Kd.R_drew)); exact HO_5.out⟩, ⟨by repeat (first | (with_reducible first | exact HB.out | apply below_alloc | apply pw_below_drewN | apply below_drew1) | exact HB.out)⟩⟩
                      · replace c18 := Bool.eq_false_iff.mpr c18
                        subst c18
                        have H1 : (if 0 ≤ x7_3 then (if x7_3 < (l0.length : Int) then (if x5_2.length < 8796093022208 then (impl_CompressTrend.l0 k3 l0 a1 (x5_2 ++ [(⟨(rd_T84 l0 x7_3).f0, (rd_T84 l0 x7_3).f1⟩ : S84)]) x7_3) else (none)) else (none)) else (none)) = some r := by rw [if_neg (show ¬ (false = true) by decide)] at H; exact H
                        clear H
                        have H := H1
                        clear H1
                        by_cases c20 : 0 ≤ x7_3
                        · rw [if_pos c20] at H
                          have c20b0 : decide (0 ≤ x7_3) = true := decide_eq_true c20
                          clear c20
                          by_cases c21 : x7_3 < (l0.length : Int)
                          · rw [if_pos c21] at H
                            have c21b0 : decide (x7_3 < (l0.length : Int)) = true := decide_eq_true c21
                            clear c21
                            by_cases c22 : x5_2.length < 8796093022208
                            · rw [if_pos c22] at H
                              have LMc22 := Aside0.mk c22
                              clear c22
                              obtain ⟨y177, hy177⟩ : ∃ y_ : List (S84), y_ = (x5_2 ++ [(⟨(rd_T84 l0 x7_3).f0, (rd_T84 l0 x7_3).f1⟩ : S84)]) := ⟨_, rfl⟩
                              replace H : (impl_CompressTrend.l0 k3 l0 a1 y177 x7_3) = some r := by first | (rw [hy177]; with_reducible exact H) | (have H2_ := (Option.bind_some _ _).symm.trans H; rw [hy177]; with_reducible exact H2_) | (have H2_ := (Option.bind_some _ _).symm.trans H; with_reducible exact H2_) | with_reducible exact H | (rw [hy177]; exact H) | exact H
                              have Ny177 := Aside0.mk hy177
                              clear hy177
                              have H' := Aside0.mk H
                              clear H
                              go_wp2_with (first | (go_at_call 97; (with_reducible refine (impl_near.calls k3 _ _ l0 x6_2 (wrap64 (x7_3 + 1)) a1 false _ ?side1 ?side2 A17.out).mono ?_); (case side1 => repeat (first | exact (Kd.C_below HR0.out HB.out) | (with_reducible refine Kd.C_alloc ?_ _) | (with_reducible refine Kd.C_drewN ?_ _) | (with_reducible refine Kd.C_drew ?_))); (case side2 => exact HC0.out); rintro e w23 ⟨rfl, hb⟩; have n0_ := Aside0.mk (Kd.R_below (by (with_reducible repeat (first | apply Kd.R_alloc | apply Kd.R_drewN | apply Kd.R_drew)); exact HO_5.out) hb); have n1_ := Aside0.mk (below_step (by repeat (first | (with_reducible first | exact HB.out | apply below_alloc | apply pw_below_drewN | apply below_drew1) | exact HB.out)) hb); clear HO_5; clear HB; have HO_5 := n0_; have HB := n1_; clear n0_ n1_; (try clear hb); (try clear hb2); (try clear hk); (try clear hi); have p176 : 0 ≤ (x7_3 : Int) := of_decide_eq_true (by first | (with_reducible assumption) | assumption); have q176 : x7_3 < (l0.length : Int) := of_decide_eq_true (by first | (with_reducible assumption) | assumption); obtain ⟨ad176, e176, hx176_0, hx176_1⟩ := at_T84 HR0.out x7_3 p176 q176; obtain rfl : ad168 = ad176 := (by injection e176); replace hx176_0 := (HB.out.cell (World.block_lt_of_cell? w _ hx176_0)).trans hx176_0; replace hx176_1 := (HB.out.cell (World.block_lt_of_cell? w _ hx176_1)).trans hx176_1; replace p176 := eq_true p176; replace q176 := eq_true q176) | ((with_reducible refine gate_builtin (b := .append) (xs := #[.tmp 48, .tmp 53]) rfl ?_); (try (refine gate_guard (by rfl) ?_; dsimp only)); at_builtin; refine Kd.R_append k84 (w0 := w) w.heap.size rfl (.tmp 48) (.tmp 53) 25 84 (.agg #[(.int .i64 0), (.int .i64 0)]) 16 rfl Try.underlying25 info84 rfl (by decide) (by omega) u5 x5_2 (⟨(rd_T84 l0 x7_3).f0, (rd_T84 l0 x7_3).f1⟩ : S84) [.int .i64 ((rd_T84 l0 x7_3).f0), .int .i64 ((rd_T84 l0 x7_3).f1)] (fun _ => True) (fun _ => False) rfl rfl ?aP (fun _ hk => hk.elim) ?aF ?aO ?aB ?aS ?aL ?_; (case aP => exact k84_mkM _ _ _ (⟨(rd_T84 l0 x7_3).f0, (rd_T84 l0 x7_3).f1⟩ : S84)); (case aB => exact (by repeat (first | (with_reducible first | exact HB.out | apply below_alloc | apply pw_below_drewN | apply below_drew1) | exact HB.out))); (case aF => exact (fun _ _ => trivial)); (case aO => exact (by (with_reducible repeat (first | apply Kd.R_alloc | apply Kd.R_drewN | apply Kd.R_drew)); exact HO_5.out)); (case aS => exact (below_size (by repeat (first | (with_reducible first | exact HB.out | apply below_alloc | apply pw_below_drewN | apply below_drew1) | exact HB.out)))); (case aL => have := LMc22.out; omega); intro v178 w24 ho hb hg hat; rw [← Ny177.out] at ho; have n0_ := Aside0.mk (hb); have n1_ := Aside0.mk (ho); clear HB; clear HO_5; have HB := n0_; have HO179 := n1_; clear n0_ n1_; clear ho hb hg hat))
                              go_roundg k3
                              case measure => have := HJ2.out; have := HK2.out; have := HK3.out; omega
                              case rel => exact ⟨(y177), (x7_3), (by first | rfl | (simp; done) | (simp [*]; done)), H', ⟨by have := HJ2.out; have := HK2.out; have := HK3.out; omega⟩, ⟨by (with_reducible repeat (first | apply Kd.R_alloc | apply Kd.R_drewN | apply Kd.R_drew)); exact HO179.out⟩, ⟨by repeat (first | (with_reducible first | exact HB.out | apply below_alloc | apply pw_below_drewN | apply below_drew1) | exact HB.out)⟩⟩
                            · rw [if_neg c22] at H
                              exact absurd H (by simp)
                          · rw [if_neg c21] at H
                            exact absurd H (by simp)
                        · rw [if_neg c20] at H
                          exact absurd H (by simp)
                    · rw [if_neg c16] at H
                      have c16b0 : decide (x7_3 < (wrap64 ((l0.length : Int) - 1))) = false := decide_eq_false c16
                      clear c16
                      by_cases c25 : 0 ≤ x7_3
                      · rw [if_pos c25] at H
                        have c25b0 : decide (0 ≤ x7_3) = true := decide_eq_true c25
                        clear c25
                        by_cases c26 : x7_3 < (l0.length : Int)
                        · rw [if_pos c26] at H
                          have c26b0 : decide (x7_3 < (l0.length : Int)) = true := decide_eq_true c26
                          clear c26
                          by_cases c27 : x5_2.length < 8796093022208
                          · rw [if_pos c27] at H
                            have LMc27 := Aside0.mk c27
                            clear c27
                            obtain ⟨y181, hy181⟩ : ∃ y_ : List (S84), y_ = (x5_2 ++ [(⟨(rd_T84 l0 x7_3).f0, (rd_T84 l0 x7_3).f1⟩ : S84)]) := ⟨_, rfl⟩
                            replace H : (impl_CompressTrend.l0 k3 l0 a1 y181 x7_3) = some r := by first | (rw [hy181]; with_reducible exact H) | (have H2_ := (Option.bind_some _ _).symm.trans H; rw [hy181]; with_reducible exact H2_) | (have H2_ := (Option.bind_some _ _).symm.trans H; with_reducible exact H2_) | with_reducible exact H | (rw [hy181]; exact H) | exact H
                            have Ny181 := Aside0.mk hy181
                            clear hy181
                            have H' := Aside0.mk H
                            clear H
                            have p180 : 0 ≤ (x7_3 : Int) := of_decide_eq_true (by first | (with_reducible assumption) | assumption)
                            have q180 : x7_3 < (l0.length : Int) := of_decide_eq_true (by first | (with_reducible assumption) | assumption)
                            obtain ⟨ad180, e180, hx180_0, hx180_1⟩ := at_T84 HR0.out x7_3 p180 q180
                            obtain rfl : ad168 = ad180 := (by injection e180)
                            replace hx180_0 := (HB.out.cell (World.block_lt_of_cell? w _ hx180_0)).trans hx180_0
                            replace hx180_1 := (HB.out.cell (World.block_lt_of_cell? w _ hx180_1)).trans hx180_1
                            replace p180 := eq_true p180
                            replace q180 := eq_true q180
                            go_wp2_with (first | ((with_reducible refine gate_builtin (b := .append) (xs := #[.tmp 48, .tmp 53]) rfl ?_); (try (refine gate_guard (by rfl) ?_; dsimp only)); at_builtin; refine Kd.R_append k84 (w0 := w) w.heap.size rfl (.tmp 48) (.tmp 53) 25 84 (.agg #[(.int .i64 0), (.int .i64 0)]) 16 rfl Try.underlying25 info84 rfl (by decide) (by omega) u5 x5_2 (⟨(rd_T84 l0 x7_3).f0, (rd_T84 l0 x7_3).f1⟩ : S84) [.int .i64 ((rd_T84 l0 x7_3).f0), .int .i64 ((rd_T84 l0 x7_3).f1)] (fun _ => True) (fun _ => False) rfl rfl ?aP (fun _ hk => hk.elim) ?aF ?aO ?aB ?aS ?aL ?_; (case aP => exact k84_mkM _ _ _ (⟨(rd_T84 l0 x7_3).f0, (rd_T84 l0 x7_3).f1⟩ : S84)); (case aB => exact (by repeat (first | (with_reducible first | exact HB.out | apply below_alloc | apply pw_below_drewN | apply below_drew1) | exact HB.out))); (case aF => exact (fun _ _ => trivial)); (case aO => exact (by (with_reducible repeat (first | apply Kd.R_alloc | apply Kd.R_drewN | apply Kd.R_drew)); exact HO_5.out)); (case aS => exact (below_size (by repeat (first | (with_reducible first | exact HB.out | apply below_alloc | apply pw_below_drewN | apply below_drew1) | exact HB.out)))); (case aL => have := LMc27.out; omega); intro v182 w28 ho hb hg hat; rw [← Ny181.out] at ho; have n0_ := Aside0.mk (hb); have n1_ := Aside0.mk (ho); clear HB; clear HO_5; have HB := n0_; have HO183 := n1_; clear n0_ n1_; clear ho hb hg hat))
                            go_roundg k3
                            case measure => have := HJ2.out; have := HK2.out; have := HK3.out; omega
                            case rel => exact ⟨(y181), (x7_3), (by first | rfl | (simp; done) | (simp [*]; done)), H', ⟨by have := HJ2.out; have := HK2.out; have := HK3.out; omega⟩, ⟨by (with_reducible repeat (first | apply Kd.R_alloc | apply Kd.R_drewN | apply Kd.R_drew)); exact HO183.out⟩, ⟨by repeat (first | (with_reducible first | exact HB.out | apply below_alloc | apply pw_below_drewN | apply below_drew1) | exact HB.out)⟩⟩
                          · rw [if_neg c27] at H
                            exact absurd H (by simp)
                        · rw [if_neg c26] at H
                          exact absurd H (by simp)
                      · rw [if_neg c25] at H
                        exact absurd H (by simp)
              · rw [if_neg c15] at H
                have c15b0 : decide (x6_2 < (wrap64 ((l0.length : Int) - 1))) = false := decide_eq_false c15
                clear c15
                replace H := Option.bind_eq_some_iff.mp H
                obtain ⟨t172, A290, H⟩ := H
                replace H : (some t172) = some r := H
                have A29 := Aside0.mk A290
                clear A290
                obtain rfl := Option.some.inj H
                obtain ⟨Ao30, co30, eo30⟩ := Kd.R_slice HO_5.out
                subst eo30
                go_wp2_with (first | ((with_reducible refine gate_callee (f := 98) rfl ?_); refine goesL_ (some 56) rfl rfl Try.func98 (by kernel_rfl) rfl #[.slice Ao30 x5_2.length co30] rfl (by (try simp only [List.map_toArray, List.map_cons, List.map_nil]); first | done | rfl | (simp only [List.length_drop, List.length_take]; rfl)) ?_; (with_reducible refine (impl_Point_98.calls _ _ x5_2 t172 _ ?side1 ?side2 A29.out).mono ?_); (case side1 => repeat (first | exact (Kd.R_reads' HO_5.out).2.2 | (with_reducible refine Kd.C_alloc ?_ _) | (with_reducible refine Kd.C_drewN ?_ _) | (with_reducible refine Kd.C_drew ?_))); (case side2 => exact (Kd.R_reads' HO_5.out).2.1); rintro e w31 ⟨v173, rfl, ho0, hb⟩; refine ⟨_, rfl, ?_⟩; have n0_ := Aside0.mk (Kd.R_elder' (by (with_reducible repeat (first | apply Kd.R_alloc | apply Kd.R_drewN | apply Kd.R_drew)); exact HO_5.out) (Kd.W_base ho0) hb); have n1_ := Aside0.mk (Kd.W_lower (Kd.W_new' ho0 (Kd.R_lt (by (with_reducible repeat (first | apply Kd.R_alloc | apply Kd.R_drewN | apply Kd.R_drew)); exact HO_5.out))) (below_size (by repeat (first | (with_reducible first | exact HB.out | apply below_alloc | apply pw_below_drewN | apply below_drew1) | exact HB.out)))); have n2_ := Aside0.mk (below_step (by repeat (first | (with_reducible first | exact HB.out | apply below_alloc | apply pw_below_drewN | apply below_drew1) | exact HB.out)) hb); clear HO_5; clear HB; have HO_5 := n0_; have HO174 := n1_; have HB := n2_; clear n0_ n1_ n2_; (try clear hb); (try clear hb2); (try clear hk); (try clear hi); (try clear ho0)))
                go_ret
                exact ⟨_, by first | rfl | (simp [errW_none, errW_some] <;> rfl) | (simp [*, errW_none, errW_some] <;> rfl), by (with_reducible repeat (first | apply Kd.W_alloc | apply Kd.W_drewN | apply Kd.W_drew)); exact Kd.W_mono HO174.out (fun _ hk => trivial), by repeat (first | (with_reducible first | exact HB.out | apply below_alloc | apply pw_below_drewN | apply below_drew1) | exact HB.out)⟩
        · rw [if_neg c12] at H
          exact absurd H (by simp)

/-! ### laws_markPointS: function 62 -/
def laws_markPointS.l0 : Nat → List (S84) → Int → Int → Option (Int × (List (S84)))
  | 0, _, _, _ => none
  | k + 1, x0, x1, x5 => if x5 < (x0.length : Int) then (if 0 ≤ x5 then ((some (x0.set (x5 : Int).toNat (⟨x1, (rd_T84 x0 x5).f1⟩ : S84) : List (S84))).bind fun y184 => (laws_markPointS.l0 k (y184.set (x5 : Int).toNat (⟨(rd_T84 y184 x5).f0, wrap64 (x1 + 1)⟩ : S84)) (wrap64 ((wrap64 (x1 + 1)) + 1)) (wrap64 (x5 + 1)))) else (none)) else (some (x1, x0))
def laws_markPointS.f (k : Nat) (l0 : List (S84)) (a1 : Int) : Option (Int × (List (S84))) := laws_markPointS.l0 k l0 a1 0
theorem laws_markPointS.mono_l : ∀ k, (∀ y0 y1 y2, LeO (laws_markPointS.l0 k y0 y1 y2) (laws_markPointS.l0 (k + 1) y0 y1 y2))
  | 0 => fun _ _ _ r h => by simp [laws_markPointS.l0] at h
  | k + 1 => by
    have ih0 := laws_markPointS.mono_l k
    · intro y0 y1 y2
      unfold laws_markPointS.l0
      repeat' first
      | (with_reducible exact ih0 _ _ _)
      | (with_reducible exact LeO.refl _)
      | (with_reducible exact LeO.none _)
      | (with_reducible refine LeO.ite ?_ ?_)
      | (with_reducible refine LeO.bind ?_ (fun _ => ?_))
      | exact ih0 _ _ _
      | exact LeO.none _
      | refine LeO.ite ?_ ?_
      | refine LeO.bind ?_ (fun _ => ?_)
theorem laws_markPointS.mono : ∀ a0 a1 k, LeO (laws_markPointS.f k a0 a1) (laws_markPointS.f (k + 1) a0 a1) := by
  intro a0 a1 k
  have ih0 := laws_markPointS.mono_l k
  unfold laws_markPointS.f
  repeat' first
      | (with_reducible exact ih0 _ _ _)
      | (with_reducible exact LeO.refl _)
      | (with_reducible exact LeO.none _)
      | (with_reducible refine LeO.ite ?_ ?_)
      | (with_reducible refine LeO.bind ?_ (fun _ => ?_))
      | exact ih0 _ _ _
      | exact LeO.none _
      | refine LeO.ite ?_ ?_
      | refine LeO.bind ?_ (fun _ => ?_)
set_option maxHeartbeats 8000000 in
set_option maxRecDepth 100000 in
theorem laws_markPointS.calls (k : Nat) (P0_ : Nat → Prop) (u9000_ : Value) (l0 : List (S84)) (a1 : Int) (r1 : Int) (r2 : List (S84)) (w0 w : World) (hB : Below w0.heap.size w0 w) (ho0 : Kd.R k84 84 w w0.heap.size P0_ u9000_ l0) (h : laws_markPointS.f k l0 a1 = some (r1, r2)) :
    Calls Try.prog 62 #[u9000_, .int .i64 a1] w fun e w' => e = .returned (.int .i64 r1) ∧ Kd.R k84 84 w' w0.heap.size (fun k_ => (P0_ k_ ∨ w.heap.size ≤ k_)) u9000_ r2 ∧ Below w0.heap.size w0 w' ∧ Kept w w' (fun k_ => P0_ k_) := by
  have HO0 := Aside0.mk (show Kd.R k84 84 w w0.heap.size (fun k_ => (P0_ k_ ∨ w.heap.size ≤ k_)) u9000_ l0 from Kd.R_mono ho0 (fun k_ hk => (.inl hk)))
  have HK := Aside0.mk (Kept.refl w (fun k_ => P0_ k_))
  have HW0 := Aside0.mk hB.size
  have HB := Aside0.mk hB
  clear hB
  have H : (laws_markPointS.l0 k l0 a1 0) = some (r1, r2) := h
  clear h
  have H' := Aside0.mk H
  clear H
  go_enter Try.func62, Try.ntmps62
  go_wp2
  go_loopg [1, 5] k (fun kq v1 v5 w' => ∃ (x0_1 : List (S84)) (x1_1 : Int) (x5_1 : Int), v1 = .int .i64 x1_1 ∧ v5 = .int .i64 x5_1 ∧ Aside0 (laws_markPointS.l0 kq x0_1 x1_1 x5_1 = some (r1, r2)) ∧ Aside0 (kq ≤ k) ∧ Aside0 (Kd.R k84 84 w' w0.heap.size (fun k_ => (P0_ k_ ∨ w.heap.size ≤ k_)) u9000_ x0_1) ∧ Aside0 (Kept w w' (fun k_ => P0_ k_)) ∧ Aside0 (Below w0.heap.size w0 w'))
  case atStart => exact ⟨(l0), (a1), (0), (by first | rfl | (simp; done) | (simp [*]; done)), (by first | rfl | (simp; done) | (simp [*]; done)), H', ⟨Nat.le_refl _⟩, ⟨by (with_reducible repeat (first | apply Kd.R_alloc | apply Kd.R_drewN | apply Kd.R_drew)); exact HO0.out⟩, ⟨by repeat (first | (with_reducible first | exact HK.out | apply Kept.alloc | apply Kept.drewN | apply Kept.drew) | exact HK.out)⟩, ⟨by repeat (first | (with_reducible first | exact HB.out | apply below_alloc | apply pw_below_drewN | apply below_drew1) | exact HB.out)⟩⟩
  case round =>
    clear H'
    try clear p2
    obtain ⟨x0_1, x1_1, x5_1, rfl, rfl, HA, HK1, HO_0, HK, HB⟩ := hrel
    cases gk with
    | zero => exact absurd HA.out (by simp [laws_markPointS.l0])
    | succ k1 =>
      have H := HA.out
      clear HA
      simp only [laws_markPointS.l0] at H
      by_cases c3 : x5_1 < (x0_1.length : Int)
      · rw [if_pos c3] at H
        have c3b0 : decide (x5_1 < (x0_1.length : Int)) = true := decide_eq_true c3
        clear c3
        by_cases c4 : 0 ≤ x5_1
        · rw [if_pos c4] at H
          have c4b0 : decide (0 ≤ x5_1) = true := decide_eq_true c4
          clear c4
          obtain ⟨y184, hy184⟩ : ∃ y_ : List (S84), y_ = (x0_1.set (x5_1 : Int).toNat (⟨x1_1, (rd_T84 x0_1 x5_1).f1⟩ : S84)) := ⟨_, rfl⟩
          replace H : (laws_markPointS.l0 k1 (y184.set (x5_1 : Int).toNat (⟨(rd_T84 y184 x5_1).f0, wrap64 (x1_1 + 1)⟩ : S84)) (wrap64 ((wrap64 (x1_1 + 1)) + 1)) (wrap64 (x5_1 + 1))) = some (r1, r2) := by first | (rw [hy184]; with_reducible exact H) | (have H2_ := (Option.bind_some _ _).symm.trans H; rw [hy184]; with_reducible exact H2_) | (have H2_ := (Option.bind_some _ _).symm.trans H; with_reducible exact H2_) | with_reducible exact H | (rw [hy184]; exact H) | exact H
          have Ny184 := Aside0.mk hy184
          clear hy184
          obtain ⟨y185, hy185⟩ : ∃ y_ : List (S84), y_ = (y184.set (x5_1 : Int).toNat (⟨(rd_T84 y184 x5_1).f0, wrap64 (x1_1 + 1)⟩ : S84)) := ⟨_, rfl⟩
          replace H : (laws_markPointS.l0 k1 y185 (wrap64 ((wrap64 (x1_1 + 1)) + 1)) (wrap64 (x5_1 + 1))) = some (r1, r2) := by first | (rw [hy185]; with_reducible exact H) | (have H2_ := (Option.bind_some _ _).symm.trans H; rw [hy185]; with_reducible exact H2_) | (have H2_ := (Option.bind_some _ _).symm.trans H; with_reducible exact H2_) | with_reducible exact H | (rw [hy185]; exact H) | exact H
          have Ny185 := Aside0.mk hy185
          clear hy185
          have H' := Aside0.mk H
          clear H
          obtain ⟨Ao7, co7, eo7⟩ := Kd.R_slice HO_0.out
          subst eo7
          have p5 : 0 ≤ (x5_1 : Int) := of_decide_eq_true (by first | (with_reducible assumption) | assumption)
          have q5 : (x5_1 : Int) < ((x0_1.length : Int) : Int) := of_decide_eq_true (by first | (with_reducible assumption) | assumption)
          obtain ⟨go5, co5, eo5, gb5, gl5, cl5, HG5⟩ := Kd.R_form HO_0.out (by omega)
          (first | cases eo5 | (injection eo5 with ea_ en_ ec_; (first | subst ea_ | (injection ea_ with ea_; subst ea_)); subst ec_; clear en_))
          have GB5 := Aside0.mk gb5
          have GG5 := Aside0.mk HG5
          clear gb5 gl5 HG5
          have HMgo5 := Aside0.mk (show (P0_ go5 ∨ w.heap.size ≤ go5) from (HO_0.out.1 _ rfl))
          obtain ⟨ce5, hcl5, hM5, hcc5, hfr5⟩ := Kd.R_elem HO_0.out z84 (x5_1 : Int) p5 q5
          obtain rfl := k84_openM hM5
          have hx5_0 : wr.cell? ⟨go5, (x5_1 : Int).toNat * 2, none⟩ = some (.int .i64 ((rd_T84 x0_1 x5_1).f0)) := hcc5 0 _ rfl
          have hx5_1 : wr.cell? ⟨go5, (x5_1 : Int).toNat * 2 + 1, none⟩ = some (.int .i64 ((rd_T84 x0_1 x5_1).f1)) := hcc5 1 _ rfl
          have hf5_0 : wr.frozen? ⟨go5, (x5_1 : Int).toNat * 2, none⟩ = false := hfr5 0
          have hf5_1 : wr.frozen? ⟨go5, (x5_1 : Int).toNat * 2 + 1, none⟩ = false := hfr5 1
          clear hcl5 hcc5 hfr5 hM5
          replace p5 := eq_true p5
          replace q5 := eq_true q5
          have HX8 := Aside0.mk (show Kd.R k84 84 wr w0.heap.size (fun k_ => (P0_ k_ ∨ w.heap.size ≤ k_)) (.slice (some ⟨go5, 0, none⟩) x0_1.length co7) x0_1 from (by (with_reducible repeat (first | apply Kd.R_alloc | apply Kd.R_drewN | apply Kd.R_drew)); exact HO_0.out))
          obtain ⟨ce8, hcl8, hM8, hcc8, hfr8⟩ := Kd.R_elem HX8.out z84 (x5_1 : Int) (of_decide_eq_true (by first | (with_reducible assumption) | assumption)) (by have h_ : (x5_1 : Int) < ((x0_1.length : Int) : Int) := of_decide_eq_true (by first | (with_reducible assumption) | assumption); first | exact h_ | (have e_ := (Kd.R_reads' HO_0.out).1; omega) | simpa using h_)
          obtain rfl := k84_openM hM8
          have HP8 := Kd.R_seg HX8.out (x5_1 : Int) (of_decide_eq_true (by first | (with_reducible assumption) | assumption)) (by have h_ : (x5_1 : Int) < ((x0_1.length : Int) : Int) := of_decide_eq_true (by first | (with_reducible assumption) | assumption); first | exact h_ | (have e_ := (Kd.R_reads' HO_0.out).1; omega) | simpa using h_) (seg := [.int .i64 x1_1]) (j := 0) hcl8 hcc8 (show 1 ≤ 2 from by decide) (x' := (⟨x1_1, (rd_T84 x0_1 x5_1).f1⟩ : S84)) (k84_mkM _ _ _ (⟨x1_1, (rd_T84 x0_1 x5_1).f1⟩ : S84) ) (fun _ hk => hk)
          have hx8_0 := hcc8 0 _ rfl
          (try simp only [show (k84).sz = 2 from rfl, Nat.mul_one, Nat.add_zero] at hx8_0)
          have hf8_0 := hfr8 0
          (try simp only [show (k84).sz = 2 from rfl, Nat.mul_one, Nat.add_zero] at hf8_0)
          clear hcl8 hcc8 hfr8 hM8
          go_wp2_with (first | ((with_reducible refine gate_store (t := 3) (p := 16) rfl ?_); refine store_event (t := 3) (p := 16) (v := ?vo_w9) (w1 := (wr.setCell ⟨go5, (x5_1 : Int).toNat * 2, none⟩ (.int .i64 x1_1))) ?hg ?ho ?hn ?hr ?_; (case ho => rfl); (case hg => rfl); (case hn => rfl); (case hr => first | (go_simp; done) | (go_simp; rfl)); intro w9 hw; have hg : wr.grownBy w9 (some go5) := (by rw [hw]; exact HP8.2); have hp_ : Kd.R k84 84 w9 w0.heap.size (fun k_ => (P0_ k_ ∨ w.heap.size ≤ k_)) (.slice (some ⟨go5, 0, none⟩) x0_1.length co7) y184 := (by rw [hw, Ny184.out]; exact HP8.1); clear HP8; have n0_ := Aside0.mk (hp_); have n1_ := Aside0.mk ((by rw [hw]; exact below_set (HB.out) GB5.out : Below w0.heap.size w0 w9)); have n2_ := Aside0.mk (Kept.of_grown (S := (fun k_ => P0_ k_)) hg (by repeat (first | (with_reducible first | exact HK.out | apply Kept.alloc | apply Kept.drewN | apply Kept.drew) | exact HK.out)) (fun k_ e_ => (HO_0.out.1 k_ e_))); clear HO_0; clear HB; clear HK; have HO_0 := n0_; have HB := n1_; have HK := n2_; clear n0_ n1_ n2_; clear hg hw hp_; have p6 : 0 ≤ (x5_1 : Int) := of_decide_eq_true (by first | (with_reducible assumption) | assumption); have q6 : (x5_1 : Int) < ((x0_1.length : Int) : Int) := of_decide_eq_true (by first | (with_reducible assumption) | assumption); obtain ⟨ce6, hcl6, hM6, hcc6, hfr6⟩ := Kd.R_elem HO_0.out z84 (x5_1 : Int) p6 q6; obtain rfl := k84_openM hM6; have hx6_0 : w9.cell? ⟨go5, (x5_1 : Int).toNat * 2, none⟩ = some (.int .i64 ((rd_T84 y184 x5_1).f0)) := hcc6 0 _ rfl; have hx6_1 : w9.cell? ⟨go5, (x5_1 : Int).toNat * 2 + 1, none⟩ = some (.int .i64 ((rd_T84 y184 x5_1).f1)) := hcc6 1 _ rfl; have hf6_0 : w9.frozen? ⟨go5, (x5_1 : Int).toNat * 2, none⟩ = false := hfr6 0; have hf6_1 : w9.frozen? ⟨go5, (x5_1 : Int).toNat * 2 + 1, none⟩ = false := hfr6 1; clear hcl6 hcc6 hfr6 hM6; replace p6 := eq_true p6; replace q6 := eq_true q6; have HX10 := Aside0.mk (show Kd.R k84 84 w9 w0.heap.size (fun k_ => (P0_ k_ ∨ w.heap.size ≤ k_)) (.slice (some ⟨go5, 0, none⟩) x0_1.length co7) y184 from (by (with_reducible repeat (first | apply Kd.R_alloc | apply Kd.R_drewN | apply Kd.R_drew)); exact HO_0.out)); obtain ⟨ce10, hcl10, hM10, hcc10, hfr10⟩ := Kd.R_elem HX10.out z84 (x5_1 : Int) (of_decide_eq_true (by first | (with_reducible assumption) | assumption)) (by have h_ : (x5_1 : Int) < ((x0_1.length : Int) : Int) := of_decide_eq_true (by first | (with_reducible assumption) | assumption); first | exact h_ | (have e_ := (Kd.R_reads' HO_0.out).1; omega) | simpa using h_); obtain rfl := k84_openM hM10; have HP10 := Kd.R_seg HX10.out (x5_1 : Int) (of_decide_eq_true (by first | (with_reducible assumption) | assumption)) (by have h_ : (x5_1 : Int) < ((x0_1.length : Int) : Int) := of_decide_eq_true (by first | (with_reducible assumption) | assumption); first | exact h_ | (have e_ := (Kd.R_reads' HO_0.out).1; omega) | simpa using h_) (seg := [.int .i64 (wrap64 (x1_1 + 1))]) (j := 1) hcl10 hcc10 (show 2 ≤ 2 from by decide) (x' := (⟨(rd_T84 y184 x5_1).f0, wrap64 (x1_1 + 1)⟩ : S84)) (k84_mkM _ _ _ (⟨(rd_T84 y184 x5_1).f0, wrap64 (x1_1 + 1)⟩ : S84) ) (fun _ hk => hk); have hx10_1 := hcc10 1 _ rfl; (try simp only [show (k84).sz = 2 from rfl, Nat.mul_one, Nat.add_zero] at hx10_1); have hf10_1 := hfr10 1; (try simp only [show (k84).sz = 2 from rfl, Nat.mul_one, Nat.add_zero] at hf10_1); clear hcl10 hcc10 hfr10 hM10) | ((with_reducible refine gate_store (t := 3) (p := 23) rfl ?_); refine store_event (t := 3) (p := 23) (v := ?vo_w11) (w1 := (w9.setCell ⟨go5, (x5_1 : Int).toNat * 2 + 1, none⟩ (.int .i64 (wrap64 (x1_1 + 1))))) ?hg ?ho ?hn ?hr ?_; (case ho => rfl); (case hg => rfl); (case hn => rfl); (case hr => first | (go_simp; done) | (go_simp; rfl)); intro w11 hw; have hg : w9.grownBy w11 (some go5) := (by rw [hw]; exact HP10.2); have hp_ : Kd.R k84 84 w11 w0.heap.size (fun k_ => (P0_ k_ ∨ w.heap.size ≤ k_)) (.slice (some ⟨go5, 0, none⟩) x0_1.length co7) y185 := (by rw [hw, Ny185.out]; exact HP10.1); clear HP10; have n0_ := Aside0.mk (hp_); have n1_ := Aside0.mk ((by rw [hw]; exact below_set (HB.out) GB5.out : Below w0.heap.size w0 w11)); have n2_ := Aside0.mk (Kept.of_grown (S := (fun k_ => P0_ k_)) hg (by repeat (first | (with_reducible first | exact HK.out | apply Kept.alloc | apply Kept.drewN | apply Kept.drew) | exact HK.out)) (fun k_ e_ => (HO_0.out.1 k_ e_))); clear HO_0; clear HB; clear HK; have HO_0 := n0_; have HB := n1_; have HK := n2_; clear n0_ n1_ n2_; clear hg hw hp_))
          go_roundg k1
          case measure => have := HK1.out; omega
          case rel => exact ⟨(y185), (wrap64 ((wrap64 (x1_1 + 1)) + 1)), (wrap64 (x5_1 + 1)), (by first | rfl | (simp; done) | (simp [*]; done)), (by first | rfl | (simp; done) | (simp [*]; done)), H', ⟨by have := HK1.out; omega⟩, ⟨by (with_reducible repeat (first | apply Kd.R_alloc | apply Kd.R_drewN | apply Kd.R_drew)); exact HO_0.out⟩, ⟨by repeat (first | (with_reducible first | exact HK.out | apply Kept.alloc | apply Kept.drewN | apply Kept.drew) | exact HK.out)⟩, ⟨by repeat (first | (with_reducible first | exact HB.out | apply below_alloc | apply pw_below_drewN | apply below_drew1) | exact HB.out)⟩⟩
        · rw [if_neg c4] at H
          exact absurd H (by simp)
      · rw [if_neg c3] at H
        have c3b0 : decide (x5_1 < (x0_1.length : Int)) = false := decide_eq_false c3
        clear c3
        simp only [Option.some.injEq, Prod.mk.injEq] at H
        obtain ⟨rfl, rfl⟩ := H
        obtain ⟨Ao12, co12, eo12⟩ := Kd.R_slice HO_0.out
        subst eo12
        go_wp2
        go_ret
        exact ⟨by first | rfl | (simp [errW_none, errW_some] <;> rfl) | (simp [*, errW_none, errW_some] <;> rfl), by (with_reducible repeat (first | apply Kd.R_alloc | apply Kd.R_drewN | apply Kd.R_drew)); exact HO_0.out, by repeat (first | (with_reducible first | exact HB.out | apply below_alloc | apply pw_below_drewN | apply below_drew1) | exact HB.out), by repeat (first | (with_reducible first | exact HK.out | apply Kept.alloc | apply Kept.drewN | apply Kept.drew) | exact HK.out)⟩

/-! ### laws_markPointS_w: function 62 -/
def laws_markPointS_w.l0 : Nat → List (S84) → Int → Int → Option (Int × (List (S84)))
  | 0, _, _, _ => none
  | k + 1, x0, x1, x5 => if x5 < (x0.length : Int) then (if 0 ≤ x5 then ((some (x0.set (x5 : Int).toNat (⟨x1, (rd_T84 x0 x5).f1⟩ : S84) : List (S84))).bind fun y184 => (laws_markPointS_w.l0 k (y184.set (x5 : Int).toNat (⟨(rd_T84 y184 x5).f0, wrap64 (x1 + 1)⟩ : S84)) (wrap64 ((wrap64 (x1 + 1)) + 1)) (wrap64 (x5 + 1)))) else (none)) else (some (x1, x0))
def laws_markPointS_w.f (k : Nat) (l0 : List (S84)) (a1 : Int) : Option (Int × (List (S84))) := laws_markPointS_w.l0 k l0 a1 0
theorem laws_markPointS_w.mono_l : ∀ k, (∀ y0 y1 y2, LeO (laws_markPointS_w.l0 k y0 y1 y2) (laws_markPointS_w.l0 (k + 1) y0 y1 y2))
  | 0 => fun _ _ _ r h => by simp [laws_markPointS_w.l0] at h
  | k + 1 => by
    have ih0 := laws_markPointS_w.mono_l k
    · intro y0 y1 y2
      unfold laws_markPointS_w.l0
      repeat' first
      | (with_reducible exact ih0 _ _ _)
      | (with_reducible exact LeO.refl _)
      | (with_reducible exact LeO.none _)
      | (with_reducible refine LeO.ite ?_ ?_)
      | (with_reducible refine LeO.bind ?_ (fun _ => ?_))
      | exact ih0 _ _ _
      | exact LeO.none _
      | refine LeO.ite ?_ ?_
      | refine LeO.bind ?_ (fun _ => ?_)
theorem laws_markPointS_w.mono : ∀ a0 a1 k, LeO (laws_markPointS_w.f k a0 a1) (laws_markPointS_w.f (k + 1) a0 a1) := by
  intro a0 a1 k
  have ih0 := laws_markPointS_w.mono_l k
  unfold laws_markPointS_w.f
  repeat' first
      | (with_reducible exact ih0 _ _ _)
      | (with_reducible exact LeO.refl _)
      | (with_reducible exact LeO.none _)
      | (with_reducible refine LeO.ite ?_ ?_)
      | (with_reducible refine LeO.bind ?_ (fun _ => ?_))
      | exact ih0 _ _ _
      | exact LeO.none _
      | refine LeO.ite ?_ ?_
      | refine LeO.bind ?_ (fun _ => ?_)
set_option maxHeartbeats 8000000 in
set_option maxRecDepth 100000 in
theorem laws_markPointS_w.calls (k : Nat) (P0_ : Nat → Prop) (u9000_ : Value) (l0 : List (S84)) (a1 : Int) (r1 : Int) (r2 : List (S84)) (w0 w : World) (hB : Below w0.heap.size w0 w) (ho0 : Kd.W k84 84 w w0.heap.size P0_ u9000_ l0) (h : laws_markPointS_w.f k l0 a1 = some (r1, r2)) :
    Calls Try.prog 62 #[u9000_, .int .i64 a1] w fun e w' => e = .returned (.int .i64 r1) ∧ Kd.W k84 84 w' w0.heap.size (fun k_ => (P0_ k_ ∨ w.heap.size ≤ k_)) u9000_ r2 ∧ Below w0.heap.size w0 w' ∧ Kept w w' (fun k_ => P0_ k_) := by
  have HO0 := Aside0.mk (show Kd.W k84 84 w w0.heap.size (fun k_ => (P0_ k_ ∨ w.heap.size ≤ k_)) u9000_ l0 from Kd.Wr_mono ho0 (fun k_ hk => (.inl hk)))
  have HK := Aside0.mk (Kept.refl w (fun k_ => P0_ k_))
  have HW0 := Aside0.mk hB.size
  have HB := Aside0.mk hB
  clear hB
  have H : (laws_markPointS_w.l0 k l0 a1 0) = some (r1, r2) := h
  clear h
  have H' := Aside0.mk H
  clear H
  go_enter Try.func62, Try.ntmps62
  go_wp2
  go_loopg [1, 5] k (fun kq v1 v5 w' => ∃ (x0_1 : List (S84)) (x1_1 : Int) (x5_1 : Int), v1 = .int .i64 x1_1 ∧ v5 = .int .i64 x5_1 ∧ Aside0 (laws_markPointS_w.l0 kq x0_1 x1_1 x5_1 = some (r1, r2)) ∧ Aside0 (kq ≤ k) ∧ Aside0 (Kd.W k84 84 w' w0.heap.size (fun k_ => (P0_ k_ ∨ w.heap.size ≤ k_)) u9000_ x0_1) ∧ Aside0 (Kept w w' (fun k_ => P0_ k_)) ∧ Aside0 (Below w0.heap.size w0 w'))
  case atStart => exact ⟨(l0), (a1), (0), (by first | rfl | (simp; done) | (simp [*]; done)), (by first | rfl | (simp; done) | (simp [*]; done)), H', ⟨Nat.le_refl _⟩, ⟨by (with_reducible repeat (first | apply Kd.Wr_alloc | apply Kd.Wr_drewN | apply Kd.Wr_drew)); exact HO0.out⟩, ⟨by repeat (first | (with_reducible first | exact HK.out | apply Kept.alloc | apply Kept.drewN | apply Kept.drew) | exact HK.out)⟩, ⟨by repeat (first | (with_reducible first | exact HB.out | apply below_alloc | apply pw_below_drewN | apply below_drew1) | exact HB.out)⟩⟩
  case round =>
    clear H'
    try clear p2
    obtain ⟨x0_1, x1_1, x5_1, rfl, rfl, HA, HK1, HO_0, HK, HB⟩ := hrel
    cases gk with
    | zero => exact absurd HA.out (by simp [laws_markPointS_w.l0])
    | succ k1 =>
      have H := HA.out
      clear HA
      simp only [laws_markPointS_w.l0] at H
      by_cases c3 : x5_1 < (x0_1.length : Int)
      · rw [if_pos c3] at H
        have c3b0 : decide (x5_1 < (x0_1.length : Int)) = true := decide_eq_true c3
        clear c3
        by_cases c4 : 0 ≤ x5_1
        · rw [if_pos c4] at H
          have c4b0 : decide (0 ≤ x5_1) = true := decide_eq_true c4
          clear c4
          obtain ⟨y184, hy184⟩ : ∃ y_ : List (S84), y_ = (x0_1.set (x5_1 : Int).toNat (⟨x1_1, (rd_T84 x0_1 x5_1).f1⟩ : S84)) := ⟨_, rfl⟩
          replace H : (laws_markPointS_w.l0 k1 (y184.set (x5_1 : Int).toNat (⟨(rd_T84 y184 x5_1).f0, wrap64 (x1_1 + 1)⟩ : S84)) (wrap64 ((wrap64 (x1_1 + 1)) + 1)) (wrap64 (x5_1 + 1))) = some (r1, r2) := by first | (rw [hy184]; with_reducible exact H) | (have H2_ := (Option.bind_some _ _).symm.trans H; rw [hy184]; with_reducible exact H2_) | (have H2_ := (Option.bind_some _ _).symm.trans H; with_reducible exact H2_) | with_reducible exact H | (rw [hy184]; exact H) | exact H
          have Ny184 := Aside0.mk hy184
          clear hy184
          obtain ⟨y185, hy185⟩ : ∃ y_ : List (S84), y_ = (y184.set (x5_1 : Int).toNat (⟨(rd_T84 y184 x5_1).f0, wrap64 (x1_1 + 1)⟩ : S84)) := ⟨_, rfl⟩
          replace H : (laws_markPointS_w.l0 k1 y185 (wrap64 ((wrap64 (x1_1 + 1)) + 1)) (wrap64 (x5_1 + 1))) = some (r1, r2) := by first | (rw [hy185]; with_reducible exact H) | (have H2_ := (Option.bind_some _ _).symm.trans H; rw [hy185]; with_reducible exact H2_) | (have H2_ := (Option.bind_some _ _).symm.trans H; with_reducible exact H2_) | with_reducible exact H | (rw [hy185]; exact H) | exact H
          have Ny185 := Aside0.mk hy185
          clear hy185
          have H' := Aside0.mk H
          clear H
          obtain ⟨Ao7, co7, eo7⟩ := Kd.Wr_slice HO_0.out
          subst eo7
          have p5 : 0 ≤ (x5_1 : Int) := of_decide_eq_true (by first | (with_reducible assumption) | assumption)
          have q5 : (x5_1 : Int) < ((x0_1.length : Int) : Int) := of_decide_eq_true (by first | (with_reducible assumption) | assumption)
          obtain ⟨go5, co5, eo5, gb5, gl5, cl5, HG5⟩ := Kd.Wr_form HO_0.out (by omega)
          (first | cases eo5 | (injection eo5 with ea_ en_ ec_; (first | subst ea_ | (injection ea_ with ea_; subst ea_)); subst ec_; clear en_))
          have GB5 := Aside0.mk gb5
          have GG5 := Aside0.mk HG5
          clear gb5 gl5 HG5
          have HMgo5 := Aside0.mk (show (P0_ go5 ∨ w.heap.size ≤ go5) from (HO_0.out.1 _ rfl))
          obtain ⟨ce5, hcl5, hM5, hcc5, hfr5⟩ := Kd.Wr_elem HO_0.out z84 (x5_1 : Int) p5 q5
          obtain rfl := k84_openM hM5
          have hx5_0 : wr.cell? ⟨go5, (x5_1 : Int).toNat * 2, none⟩ = some (.int .i64 ((rd_T84 x0_1 x5_1).f0)) := hcc5 0 _ rfl
          have hx5_1 : wr.cell? ⟨go5, (x5_1 : Int).toNat * 2 + 1, none⟩ = some (.int .i64 ((rd_T84 x0_1 x5_1).f1)) := hcc5 1 _ rfl
          have hf5_0 : wr.frozen? ⟨go5, (x5_1 : Int).toNat * 2, none⟩ = false := hfr5 0
          have hf5_1 : wr.frozen? ⟨go5, (x5_1 : Int).toNat * 2 + 1, none⟩ = false := hfr5 1
          clear hcl5 hcc5 hfr5 hM5
          replace p5 := eq_true p5
          replace q5 := eq_true q5
          have HX8 := Aside0.mk (show Kd.W k84 84 wr w0.heap.size (fun k_ => (P0_ k_ ∨ w.heap.size ≤ k_)) (.slice (some ⟨go5, 0, none⟩) x0_1.length co7) x0_1 from (by (with_reducible repeat (first | apply Kd.Wr_alloc | apply Kd.Wr_drewN | apply Kd.Wr_drew)); exact HO_0.out))
          obtain ⟨ce8, hcl8, hM8, hcc8, hfr8⟩ := Kd.Wr_elem HX8.out z84 (x5_1 : Int) (of_decide_eq_true (by first | (with_reducible assumption) | assumption)) (by have h_ : (x5_1 : Int) < ((x0_1.length : Int) : Int) := of_decide_eq_true (by first | (with_reducible assumption) | assumption); first | exact h_ | (have e_ := (Kd.Wr_reads' HO_0.out).1; omega) | simpa using h_)
          obtain rfl := k84_openM hM8
          have HP8 := Kd.Wr_seg HX8.out (x5_1 : Int) (of_decide_eq_true (by first | (with_reducible assumption) | assumption)) (by have h_ : (x5_1 : Int) < ((x0_1.length : Int) : Int) := of_decide_eq_true (by first | (with_reducible assumption) | assumption); first | exact h_ | (have e_ := (Kd.Wr_reads' HO_0.out).1; omega) | simpa using h_) (seg := [.int .i64 x1_1]) (j := 0) hcl8 hcc8 (show 1 ≤ 2 from by decide) (x' := (⟨x1_1, (rd_T84 x0_1 x5_1).f1⟩ : S84)) (k84_mkM _ _ _ (⟨x1_1, (rd_T84 x0_1 x5_1).f1⟩ : S84) ) (fun _ hk => hk)
          have hx8_0 := hcc8 0 _ rfl
          (try simp only [show (k84).sz = 2 from rfl, Nat.mul_one, Nat.add_zero] at hx8_0)
          have hf8_0 := hfr8 0
          (try simp only [show (k84).sz = 2 from rfl, Nat.mul_one, Nat.add_zero] at hf8_0)
          clear hcl8 hcc8 hfr8 hM8
          go_wp2_with (first | ((with_reducible refine gate_store (t := 3) (p := 16) rfl ?_); refine store_event (t := 3) (p := 16) (v := ?vo_w9) (w1 := (wr.setCell ⟨go5, (x5_1 : Int).toNat * 2, none⟩ (.int .i64 x1_1))) ?hg ?ho ?hn ?hr ?_; (case ho => rfl); (case hg => rfl); (case hn => rfl); (case hr => first | (go_simp; done) | (go_simp; rfl)); intro w9 hw; have hg : wr.grownBy w9 (some go5) := (by rw [hw]; exact HP8.2); have hp_ : Kd.W k84 84 w9 w0.heap.size (fun k_ => (P0_ k_ ∨ w.heap.size ≤ k_)) (.slice (some ⟨go5, 0, none⟩) x0_1.length co7) y184 := (by rw [hw, Ny184.out]; exact HP8.1); clear HP8; have n0_ := Aside0.mk (hp_); have n1_ := Aside0.mk ((by rw [hw]; exact below_set (HB.out) GB5.out : Below w0.heap.size w0 w9)); have n2_ := Aside0.mk (Kept.of_grown (S := (fun k_ => P0_ k_)) hg (by repeat (first | (with_reducible first | exact HK.out | apply Kept.alloc | apply Kept.drewN | apply Kept.drew) | exact HK.out)) (fun k_ e_ => (HO_0.out.1 k_ e_))); clear HO_0; clear HB; clear HK; have HO_0 := n0_; have HB := n1_; have HK := n2_; clear n0_ n1_ n2_; clear hg hw hp_; have p6 : 0 ≤ (x5_1 : Int) := of_decide_eq_true (by first | (with_reducible assumption) | assumption); have q6 : (x5_1 : Int) < ((x0_1.length : Int) : Int) := of_decide_eq_true (by first | (with_reducible assumption) | assumption); obtain ⟨ce6, hcl6, hM6, hcc6, hfr6⟩ := Kd.Wr_elem HO_0.out z84 (x5_1 : Int) p6 q6; obtain rfl := k84_openM hM6; have hx6_0 : w9.cell? ⟨go5, (x5_1 : Int).toNat * 2, none⟩ = some (.int .i64 ((rd_T84 y184 x5_1).f0)) := hcc6 0 _ rfl; have hx6_1 : w9.cell? ⟨go5, (x5_1 : Int).toNat * 2 + 1, none⟩ = some (.int .i64 ((rd_T84 y184 x5_1).f1)) := hcc6 1 _ rfl; have hf6_0 : w9.frozen? ⟨go5, (x5_1 : Int).toNat * 2, none⟩ = false := hfr6 0; have hf6_1 : w9.frozen? ⟨go5, (x5_1 : Int).toNat * 2 + 1, none⟩ = false := hfr6 1; clear hcl6 hcc6 hfr6 hM6; replace p6 := eq_true p6; replace q6 := eq_true q6; have HX10 := Aside0.mk (show Kd.W k84 84 w9 w0.heap.size (fun k_ => (P0_ k_ ∨ w.heap.size ≤ k_)) (.slice (some ⟨go5, 0, none⟩) x0_1.length co7) y184 from (by (with_reducible repeat (first | apply Kd.Wr_alloc | apply Kd.Wr_drewN | apply Kd.Wr_drew)); exact HO_0.out)); obtain ⟨ce10, hcl10, hM10, hcc10, hfr10⟩ := Kd.Wr_elem HX10.out z84 (x5_1 : Int) (of_decide_eq_true (by first | (with_reducible assumption) | assumption)) (by have h_ : (x5_1 : Int) < ((x0_1.length : Int) : Int) := of_decide_eq_true (by first | (with_reducible assumption) | assumption); first | exact h_ | (have e_ := (Kd.Wr_reads' HO_0.out).1; omega) | simpa using h_); obtain rfl := k84_openM hM10; have HP10 := Kd.Wr_seg HX10.out (x5_1 : Int) (of_decide_eq_true (by first | (with_reducible assumption) | assumption)) (by have h_ : (x5_1 : Int) < ((x0_1.length : Int) : Int) := of_decide_eq_true (by first | (with_reducible assumption) | assumption); first | exact h_ | (have e_ := (Kd.Wr_reads' HO_0.out).1; omega) | simpa using h_) (seg := [.int .i64 (wrap64 (x1_1 + 1))]) (j := 1) hcl10 hcc10 (show 2 ≤ 2 from by decide) (x' := (⟨(rd_T84 y184 x5_1).f0, wrap64 (x1_1 + 1)⟩ : S84)) (k84_mkM _ _ _ (⟨(rd_T84 y184 x5_1).f0, wrap64 (x1_1 + 1)⟩ : S84) ) (fun _ hk => hk); have hx10_1 := hcc10 1 _ rfl; (try simp only [show (k84).sz = 2 from rfl, Nat.mul_one, Nat.add_zero] at hx10_1); have hf10_1 := hfr10 1; (try simp only [show (k84).sz = 2 from rfl, Nat.mul_one, Nat.add_zero] at hf10_1); clear hcl10 hcc10 hfr10 hM10) | ((with_reducible refine gate_store (t := 3) (p := 23) rfl ?_); refine store_event (t := 3) (p := 23) (v := ?vo_w11) (w1 := (w9.setCell ⟨go5, (x5_1 : Int).toNat * 2 + 1, none⟩ (.int .i64 (wrap64 (x1_1 + 1))))) ?hg ?ho ?hn ?hr ?_; (case ho => rfl); (case hg => rfl); (case hn => rfl); (case hr => first | (go_simp; done) | (go_simp; rfl)); intro w11 hw; have hg : w9.grownBy w11 (some go5) := (by rw [hw]; exact HP10.2); have hp_ : Kd.W k84 84 w11 w0.heap.size (fun k_ => (P0_ k_ ∨ w.heap.size ≤ k_)) (.slice (some ⟨go5, 0, none⟩) x0_1.length co7) y185 := (by rw [hw, Ny185.out]; exact HP10.1); clear HP10; have n0_ := Aside0.mk (hp_); have n1_ := Aside0.mk ((by rw [hw]; exact below_set (HB.out) GB5.out : Below w0.heap.size w0 w11)); have n2_ := Aside0.mk (Kept.of_grown (S := (fun k_ => P0_ k_)) hg (by repeat (first | (with_reducible first | exact HK.out | apply Kept.alloc | apply Kept.drewN | apply Kept.drew) | exact HK.out)) (fun k_ e_ => (HO_0.out.1 k_ e_))); clear HO_0; clear HB; clear HK; have HO_0 := n0_; have HB := n1_; have HK := n2_; clear n0_ n1_ n2_; clear hg hw hp_))
          go_roundg k1
          case measure => have := HK1.out; omega
          case rel => exact ⟨(y185), (wrap64 ((wrap64 (x1_1 + 1)) + 1)), (wrap64 (x5_1 + 1)), (by first | rfl | (simp; done) | (simp [*]; done)), (by first | rfl | (simp; done) | (simp [*]; done)), H', ⟨by have := HK1.out; omega⟩, ⟨by (with_reducible repeat (first | apply Kd.Wr_alloc | apply Kd.Wr_drewN | apply Kd.Wr_drew)); exact HO_0.out⟩, ⟨by repeat (first | (with_reducible first | exact HK.out | apply Kept.alloc | apply Kept.drewN | apply Kept.drew) | exact HK.out)⟩, ⟨by repeat (first | (with_reducible first | exact HB.out | apply below_alloc | apply pw_below_drewN | apply below_drew1) | exact HB.out)⟩⟩
        · rw [if_neg c4] at H
          exact absurd H (by simp)
      · rw [if_neg c3] at H
        have c3b0 : decide (x5_1 < (x0_1.length : Int)) = false := decide_eq_false c3
        clear c3
        simp only [Option.some.injEq, Prod.mk.injEq] at H
        obtain ⟨rfl, rfl⟩ := H
        obtain ⟨Ao12, co12, eo12⟩ := Kd.Wr_slice HO_0.out
        subst eo12
        go_wp2
        go_ret
        exact ⟨by first | rfl | (simp [errW_none, errW_some] <;> rfl) | (simp [*, errW_none, errW_some] <;> rfl), by (with_reducible repeat (first | apply Kd.Wr_alloc | apply Kd.Wr_drewN | apply Kd.Wr_drew)); exact HO_0.out, by repeat (first | (with_reducible first | exact HB.out | apply below_alloc | apply pw_below_drewN | apply below_drew1) | exact HB.out), by repeat (first | (with_reducible first | exact HK.out | apply Kept.alloc | apply Kept.drewN | apply Kept.drew) | exact HK.out)⟩

/-! ### laws_heldPointS: function 63 -/
def laws_heldPointS.l0 : Nat → List (S84) → Int → Int → Option (Int)
  | 0, _, _, _ => none
  | k + 1, x0, x1, x5 => if x5 < (x0.length : Int) then (if 0 ≤ x5 then (if ((rd_T84 x0 x5).f0) = x1 then (if ((rd_T84 x0 x5).f1) = (wrap64 (x1 + 1)) then (laws_heldPointS.l0 k x0 (wrap64 ((wrap64 (x1 + 1)) + 1)) (wrap64 (x5 + 1))) else (some (-1))) else (some (-1))) else (none)) else (some x1)
def laws_heldPointS.f (k : Nat) (l0 : List (S84)) (a1 : Int) : Option (Int) := laws_heldPointS.l0 k l0 a1 0
theorem laws_heldPointS.mono_l : ∀ k, (∀ y0 y1 y2, LeO (laws_heldPointS.l0 k y0 y1 y2) (laws_heldPointS.l0 (k + 1) y0 y1 y2))
  | 0 => fun _ _ _ r h => by simp [laws_heldPointS.l0] at h
  | k + 1 => by
    have ih0 := laws_heldPointS.mono_l k
    · intro y0 y1 y2
      unfold laws_heldPointS.l0
      repeat' first
      | (with_reducible exact ih0 _ _ _)
      | (with_reducible exact LeO.refl _)
      | (with_reducible exact LeO.none _)
      | (with_reducible refine LeO.ite ?_ ?_)
      | (with_reducible refine LeO.bind ?_ (fun _ => ?_))
      | exact ih0 _ _ _
      | exact LeO.none _
      | refine LeO.ite ?_ ?_
      | refine LeO.bind ?_ (fun _ => ?_)
theorem laws_heldPointS.mono : ∀ a0 a1 k, LeO (laws_heldPointS.f k a0 a1) (laws_heldPointS.f (k + 1) a0 a1) := by
  intro a0 a1 k
  have ih0 := laws_heldPointS.mono_l k
  unfold laws_heldPointS.f
  repeat' first
      | (with_reducible exact ih0 _ _ _)
      | (with_reducible exact LeO.refl _)
      | (with_reducible exact LeO.none _)
      | (with_reducible refine LeO.ite ?_ ?_)
      | (with_reducible refine LeO.bind ?_ (fun _ => ?_))
      | exact ih0 _ _ _
      | exact LeO.none _
      | refine LeO.ite ?_ ?_
      | refine LeO.bind ?_ (fun _ => ?_)
set_option maxHeartbeats 8000000 in
set_option maxRecDepth 100000 in
theorem laws_heldPointS.calls (k : Nat) (A0 : Option Addr) (c0 : Nat) (l0 : List (S84)) (a1 : Int) (r : Int) (w : World) (hr0 : Kd.C k84 w A0 l0.length l0) (hc0 : l0.length ≤ c0) (h : laws_heldPointS.f k l0 a1 = some r) :
    Calls Try.prog 63 #[.slice A0 l0.length c0, .int .i64 a1] w fun e w' => e = .returned (.int .i64 r) ∧ Drawn0 w w' := by
  have HR0 := Aside0.mk hr0
  have HC0 := Aside0.mk hc0
  clear hr0 hc0
  have H : (laws_heldPointS.l0 k l0 a1 0) = some r := h
  clear h
  have H' := Aside0.mk H
  clear H
  go_enter Try.func63, Try.ntmps63
  go_wp2
  go_loopg [1, 5] k (fun kq v1 v5 w' => ∃ (x1_1 : Int) (x5_1 : Int), v1 = .int .i64 x1_1 ∧ v5 = .int .i64 x5_1 ∧ Aside0 (laws_heldPointS.l0 kq l0 x1_1 x5_1 = some r) ∧ Aside0 (kq ≤ k) ∧ Drawn0 w w')
  case atStart => exact ⟨(a1), (0), (by first | rfl | (simp; done) | (simp [*]; done)), (by first | rfl | (simp; done) | (simp [*]; done)), H', ⟨Nat.le_refl _⟩, by repeat (first | exact Drawn0.refl _ | apply Drawn0.step)⟩
  case round =>
    clear H'
    try clear p2
    obtain ⟨x1_1, x5_1, rfl, rfl, HA, HK1, ⟨m1, rfl⟩⟩ := hrel
    cases gk with
    | zero => exact absurd HA.out (by simp [laws_heldPointS.l0])
    | succ k1 =>
      have H := HA.out
      clear HA
      simp only [laws_heldPointS.l0] at H
      by_cases c3 : x5_1 < (l0.length : Int)
      · rw [if_pos c3] at H
        have c3b0 : decide (x5_1 < (l0.length : Int)) = true := decide_eq_true c3
        clear c3
        by_cases c4 : 0 ≤ x5_1
        · rw [if_pos c4] at H
          have c4b0 : decide (0 ≤ x5_1) = true := decide_eq_true c4
          clear c4
          by_cases c5 : ((rd_T84 l0 x5_1).f0) = x1_1
          · rw [if_pos c5] at H
            have c5b0 : (((rd_T84 l0 x5_1).f0) == x1_1) = true := beq_iff_eq.mpr c5
            have c5b1 : (((rd_T84 l0 x5_1).f0) != x1_1) = false := bne_eq_false_iff_eq.mpr c5
            clear c5
            by_cases c6 : ((rd_T84 l0 x5_1).f1) = (wrap64 (x1_1 + 1))
            · rw [if_pos c6] at H
              have c6b0 : (((rd_T84 l0 x5_1).f1) == (wrap64 (x1_1 + 1))) = true := beq_iff_eq.mpr c6
              have c6b1 : (((rd_T84 l0 x5_1).f1) != (wrap64 (x1_1 + 1))) = false := bne_eq_false_iff_eq.mpr c6
              clear c6
              have H' := Aside0.mk H
              clear H
              have p186 : 0 ≤ (x5_1 : Int) := of_decide_eq_true (by first | (with_reducible assumption) | assumption)
              have q186 : x5_1 < (l0.length : Int) := of_decide_eq_true (by first | (with_reducible assumption) | assumption)
              obtain ⟨ad186, e186, hx186_0, hx186_1⟩ := at_T84 HR0.out x5_1 p186 q186
              cases e186
              replace p186 := eq_true p186
              replace q186 := eq_true q186
              have p187 : 0 ≤ (x5_1 : Int) := of_decide_eq_true (by first | (with_reducible assumption) | assumption)
              have q187 : x5_1 < (l0.length : Int) := of_decide_eq_true (by first | (with_reducible assumption) | assumption)
              obtain ⟨ad187, e187, hx187_0, hx187_1⟩ := at_T84 HR0.out x5_1 p187 q187
              obtain rfl : ad186 = ad187 := (by injection e187)
              replace p187 := eq_true p187
              replace q187 := eq_true q187
              go_wp2
              go_roundg k1
              case measure => have := HK1.out; omega
              case rel => exact ⟨(wrap64 ((wrap64 (x1_1 + 1)) + 1)), (wrap64 (x5_1 + 1)), (by first | rfl | (simp; done) | (simp [*]; done)), (by first | rfl | (simp; done) | (simp [*]; done)), H', ⟨by have := HK1.out; omega⟩, by repeat (first | exact Drawn0.refl _ | apply Drawn0.step)⟩
            · rw [if_neg c6] at H
              have c6b0 : (((rd_T84 l0 x5_1).f1) == (wrap64 (x1_1 + 1))) = false := beq_eq_false_iff_ne.mpr c6
              have c6b1 : (((rd_T84 l0 x5_1).f1) != (wrap64 (x1_1 + 1))) = true := bne_iff_ne.mpr c6
              obtain rfl := Option.some.inj H
              have p186 : 0 ≤ (x5_1 : Int) := of_decide_eq_true (by first | (with_reducible assumption) | assumption)
              have q186 : x5_1 < (l0.length : Int) := of_decide_eq_true (by first | (with_reducible assumption) | assumption)
              obtain ⟨ad186, e186, hx186_0, hx186_1⟩ := at_T84 HR0.out x5_1 p186 q186
              cases e186
              replace p186 := eq_true p186
              replace q186 := eq_true q186
              have p187 : 0 ≤ (x5_1 : Int) := of_decide_eq_true (by first | (with_reducible assumption) | assumption)
              have q187 : x5_1 < (l0.length : Int) := of_decide_eq_true (by first | (with_reducible assumption) | assumption)
              obtain ⟨ad187, e187, hx187_0, hx187_1⟩ := at_T84 HR0.out x5_1 p187 q187
              obtain rfl : ad186 = ad187 := (by injection e187)
              replace p187 := eq_true p187
              replace q187 := eq_true q187
              go_wp2
              go_ret
              exact ⟨by first | rfl | (simp; done) | (simp [*]; done), by repeat (first | exact Drawn0.refl _ | apply Drawn0.step)⟩
          · rw [if_neg c5] at H
            have c5b0 : (((rd_T84 l0 x5_1).f0) == x1_1) = false := beq_eq_false_iff_ne.mpr c5
            have c5b1 : (((rd_T84 l0 x5_1).f0) != x1_1) = true := bne_iff_ne.mpr c5
            obtain rfl := Option.some.inj H
            have p186 : 0 ≤ (x5_1 : Int) := of_decide_eq_true (by first | (with_reducible assumption) | assumption)
            have q186 : x5_1 < (l0.length : Int) := of_decide_eq_true (by first | (with_reducible assumption) | assumption)
            obtain ⟨ad186, e186, hx186_0, hx186_1⟩ := at_T84 HR0.out x5_1 p186 q186
            cases e186
            replace p186 := eq_true p186
            replace q186 := eq_true q186
            go_wp2
            go_ret
            exact ⟨by first | rfl | (simp; done) | (simp [*]; done), by repeat (first | exact Drawn0.refl _ | apply Drawn0.step)⟩
        · rw [if_neg c4] at H
          exact absurd H (by simp)
      · rw [if_neg c3] at H
        have c3b0 : decide (x5_1 < (l0.length : Int)) = false := decide_eq_false c3
        clear c3
        obtain rfl := Option.some.inj H
        go_wp2
        go_ret
        exact ⟨by first | rfl | (simp; done) | (simp [*]; done), by repeat (first | exact Drawn0.refl _ | apply Drawn0.step)⟩

end Go.Proofs.Ythbbhdadioiefaa.QFnExactCompressTrend
