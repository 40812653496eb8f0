-- Written by wip/pr2.py: a program of this session's own, which runs the kit's print over contracts of its own.
import Derived.Test.YthbbhdadioiefaaQFnExactWatchdogTripsx3
namespace Go.Proofs.Ythbbhdadioiefaa.QFnExactWatchdogTrips
open Go.RowKit Go.Proofs.YthbbhdadioiefaaW.PrintWords Go.Proofs.YthbbhdadioiefaaW.PrintLast Go.Proofs.YthbbhdadioiefaaW.PrintMore
attribute [local go_sem] max2_int min2_int max_two min_two max_three min_three max_four min_four   -- for this text's walks alone
set_option linter.unusedVariables false
set_option linter.unusedSimpArgs false

set_option maxHeartbeats 8000000 in
set_option maxRecDepth 100000 in
theorem impl_TaskSchedule.calls (k : Nat) (A0 : Option Addr) (c0 : Nat) (l0 : List (S96)) (a1 : Int) (r1 : List Int) (r2 : List Int) (w : World) (hr0 : Kd.C k96 w A0 l0.length l0) (hc0 : l0.length ≤ c0) (h : impl_TaskSchedule.f k l0 a1 = some (r1, r2)) :
    Calls Try.prog 67 #[.slice A0 l0.length c0, .int .i64 a1] w fun e w' => ∃ v0_ v1_ : Value, e = .returned (.tuple #[v0_, v1_]) ∧ Kd.R (Kd.int .i64) 3 w' w.heap.size (fun k_ => some k_ ≠ (v1_ : Value).ownBlock) v0_ r1 ∧ Kd.R (Kd.int .i64) 3 w' w.heap.size (fun k_ => some k_ ≠ (v0_ : Value).ownBlock) v1_ r2 ∧ Below w.heap.size w w' := by
  have hu96 := Try.underlying96
  have HR0 := Aside0.mk hr0
  have HC0 := Aside0.mk hc0
  clear hr0 hc0
  have HB := Aside0.mk (Below.refl w.heap.size w)
  have H : ((impl_TasksValid.f l0).bind fun t174 => (if t174 = true then ((impl_in.f a1 0 1000).bind fun t175 => (impl_TaskSchedule.j0 k l0 a1 (!t175))) else (impl_TaskSchedule.j0 k l0 a1 true))) = some (r1, r2) := h
  clear h
  have HC3 := Aside0.mk H
  clear H
  go_enter Try.func67, Try.ntmps67
  go_upto_region 1 with (fail)
  go_cut [20] (fun v20 wc => ∃ (kq : Nat) (x20_2 : Bool), v20 = .bool x20_2 ∧ Aside0 (impl_TaskSchedule.j0 kq l0 a1 x20_2 = some (r1, r2)) ∧ Aside0 (kq ≤ k) ∧ Aside0 (Below w.heap.size w wc))
  case first =>
    have H := HC3.out
    clear HC3
    replace H := Option.bind_eq_some_iff.mp H
    obtain ⟨t174, A40, H⟩ := H
    replace H : (if t174 = true then ((impl_in.f a1 0 1000).bind fun t175 => (impl_TaskSchedule.j0 k l0 a1 (!t175))) else (impl_TaskSchedule.j0 k l0 a1 true)) = some (r1, r2) := H
    have A4 := Aside0.mk A40
    clear A40
    by_cases c5 : t174 = true
    rotate_left
    · replace c5 := Bool.eq_false_iff.mpr c5
      subst c5
      have H1 : (impl_TaskSchedule.j0 k l0 a1 true) = some (r1, r2) := by rw [if_neg (show ¬ (false = true) by decide)] at H; exact H
      clear H
      have H := H1
      clear H1
      have H' := Aside0.mk H
      clear H
      go_wp2_with (first | ((with_reducible refine gate_callee (f := 30) rfl ?_); refine goesL_ (some 14) rfl rfl Try.func30 (by kernel_rfl) rfl #[.slice A0 l0.length c0] rfl (by (try simp only [List.map_toArray, List.map_cons, List.map_nil]); first | done | rfl | (simp only [List.length_drop, List.length_take]; rfl)) ?_; (with_reducible refine (impl_TasksValid.calls _ _ l0 false _ ?side1 ?side2 A4.out).mono ?_); (case side1 => repeat (first | exact (Kd.C_below HR0.out HB.out) | (with_reducible refine Kd.C_alloc ?_ _) | (with_reducible refine Kd.C_drewN ?_ _) | (with_reducible refine Kd.C_drew ?_))); (case side2 => exact HC0.out); rintro e w8 ⟨rfl, hb⟩; refine ⟨_, rfl, ?_⟩; have n0_ := Aside0.mk (below_step HB.out hb); clear HB; have HB := n0_; clear n0_; (try clear hb); (try clear hb2); (try clear hk); (try clear hi)))
      go_meet
      case rel => exact ⟨_, (true), (by first | rfl | (simp; done) | (simp [*]; done)), H', ⟨by first | omega | exact Nat.le_refl _⟩, ⟨by repeat (first | (with_reducible first | exact HB.out | apply below_alloc | apply pw_below_drewN | apply below_drew1) | exact HB.out)⟩⟩
    subst c5
    have H1 : ((impl_in.f a1 0 1000).bind fun t175 => (impl_TaskSchedule.j0 k l0 a1 (!t175))) = some (r1, r2) := by rw [if_pos rfl] at H; exact H
    clear H
    have H := H1
    clear H1
    replace H := Option.bind_eq_some_iff.mp H
    obtain ⟨t175, A60, H⟩ := H
    replace H : (impl_TaskSchedule.j0 k l0 a1 (!t175)) = some (r1, r2) := H
    have A6 := Aside0.mk A60
    clear A60
    have H' := Aside0.mk H
    clear H
    go_wp2_with (first | ((with_reducible refine gate_callee (f := 30) rfl ?_); refine goesL_ (some 14) rfl rfl Try.func30 (by kernel_rfl) rfl #[.slice A0 l0.length c0] rfl (by (try simp only [List.map_toArray, List.map_cons, List.map_nil]); first | done | rfl | (simp only [List.length_drop, List.length_take]; rfl)) ?_; (with_reducible refine (impl_TasksValid.calls _ _ l0 true _ ?side1 ?side2 A4.out).mono ?_); (case side1 => repeat (first | exact (Kd.C_below HR0.out HB.out) | (with_reducible refine Kd.C_alloc ?_ _) | (with_reducible refine Kd.C_drewN ?_ _) | (with_reducible refine Kd.C_drew ?_))); (case side2 => exact HC0.out); rintro e w7 ⟨rfl, hb⟩; refine ⟨_, rfl, ?_⟩; have n0_ := Aside0.mk (below_step HB.out hb); clear HB; have HB := n0_; clear n0_; (try clear hb); (try clear hb2); (try clear hk); (try clear hi)) | (go_at_call 74; (with_reducible refine (impl_in.calls a1 0 1000 t175 _ A6.out).mono ?_); rintro e w' ⟨rfl, ⟨nd, rfl⟩⟩))
    go_meet
    case rel => exact ⟨_, (!t175), (by first | rfl | (simp; done) | (simp [*]; done)), H', ⟨by first | omega | exact Nat.le_refl _⟩, ⟨by repeat (first | (with_reducible first | exact HB.out | apply below_alloc | apply pw_below_drewN | apply below_drew1) | exact HB.out)⟩⟩
  clear HC3
  try clear p2
  try clear c3
  try clear c5
  try clear c6
  obtain ⟨kq, x20_2, rfl, HA, HJ2, HB⟩ := hcut
  rcases kq with _ | kj2
  · exact absurd HA.out (by simp [impl_TaskSchedule.j0])
  have H := HA.out
  clear HA
  simp only [impl_TaskSchedule.j0] at H
  by_cases c9 : x20_2 = true
  · subst c9
    have H1 : (some (([] : List Int), ([] : List Int))) = some (r1, r2) := by rw [if_pos rfl] at H; exact H
    clear H
    have H := H1
    clear H1
    simp only [Option.some.injEq, Prod.mk.injEq] at H
    obtain ⟨rfl, rfl⟩ := H
    go_wp2
    go_ret2
    exact ⟨_, _, by first | rfl | (simp [errW_none, errW_some] <;> rfl) | (simp [*, errW_none, errW_some] <;> rfl), by first | exact Kd.R_nil _ _ _ _ _ | exact Kd.N_nil _ _ _ _ _ | exact Kd.V_nil _ _ _ _ _ | exact Kd.Q_nil _ _ _ _ _ | exact Kd.S_nil _ _ _ _ _, by first | exact Kd.R_nil _ _ _ _ _ | exact Kd.N_nil _ _ _ _ _ | exact Kd.V_nil _ _ _ _ _ | exact Kd.Q_nil _ _ _ _ _ | exact Kd.S_nil _ _ _ _ _, by repeat (first | (with_reducible first | exact HB.out | apply below_alloc | apply pw_below_drewN | apply below_drew1) | exact HB.out)⟩
  replace c9 := Bool.eq_false_iff.mpr c9
  subst c9
  have H1 : (if 0 ≤ a1 then (if (a1 : Int).toNat ≤ 35184372088832 then (if 0 ≤ (l0.length : Int) then (if ((l0.length : Int) : Int).toNat ≤ 35184372088832 then (impl_TaskSchedule.l0 kj2 l0 (List.replicate (a1 : Int).toNat 0) (List.replicate ((l0.length : Int) : Int).toNat 0) (List.replicate ((l0.length : Int) : Int).toNat 0) a1 0) else (none)) else (none)) else (none)) else (none)) = some (r1, r2) := by rw [if_neg (show ¬ (false = true) by decide)] at H; exact H
  clear H
  have H := H1
  clear H1
  by_cases c10 : 0 ≤ a1
  rotate_left
  · rw [if_neg c10] at H
    exact absurd H (by simp)
  rw [if_pos c10] at H
  have c10b0 := eq_true c10
  have c10b1 : decide (0 ≤ a1) = true := decide_eq_true c10
  clear c10
  by_cases c11 : (a1 : Int).toNat ≤ 35184372088832
  rotate_left
  · rw [if_neg c11] at H
    exact absurd H (by simp)
  rw [if_pos c11] at H
  have c11b0 := eq_true c11
  have c11b1 : decide ((a1 : Int).toNat ≤ 35184372088832) = true := decide_eq_true c11
  clear c11
  obtain ⟨y176, hy176⟩ : ∃ y_ : List Int, y_ = (List.replicate (a1 : Int).toNat 0) := ⟨_, rfl⟩
  replace H : (if 0 ≤ (l0.length : Int) then (if ((l0.length : Int) : Int).toNat ≤ 35184372088832 then (impl_TaskSchedule.l0 kj2 l0 y176 (List.replicate ((l0.length : Int) : Int).toNat 0) (List.replicate ((l0.length : Int) : Int).toNat 0) a1 0) else (none)) else (none)) = some (r1, r2) := by first | (rw [hy176]; with_reducible exact H) | (have H2_ := (Option.bind_some _ _).symm.trans H; rw [hy176]; with_reducible exact H2_) | (have H2_ := (Option.bind_some _ _).symm.trans H; with_reducible exact H2_) | with_reducible exact H | (rw [hy176]; exact H) | exact H
  have Ny176 := Aside0.mk hy176
  clear hy176
  by_cases c12 : 0 ≤ (l0.length : Int)
  rotate_left
  · rw [if_neg c12] at H
    exact absurd H (by simp)
  rw [if_pos c12] at H
  have c12b0 := eq_true c12
  have c12b1 : decide (0 ≤ (l0.length : Int)) = true := decide_eq_true c12
  clear c12
  by_cases c13 : ((l0.length : Int) : Int).toNat ≤ 35184372088832
  rotate_left
  · rw [if_neg c13] at H
    exact absurd H (by simp)
  rw [if_pos c13] at H
  have c13b0 := eq_true c13
  have c13b1 : decide (((l0.length : Int) : Int).toNat ≤ 35184372088832) = true := decide_eq_true c13
  clear c13
  obtain ⟨y179, hy179⟩ : ∃ y_ : List Int, y_ = (List.replicate ((l0.length : Int) : Int).toNat 0) := ⟨_, rfl⟩
  replace H : (impl_TaskSchedule.l0 kj2 l0 y176 y179 (List.replicate ((l0.length : Int) : Int).toNat 0) a1 0) = some (r1, r2) := by first | (rw [hy179]; with_reducible exact H) | (have H2_ := (Option.bind_some _ _).symm.trans H; rw [hy179]; with_reducible exact H2_) | (have H2_ := (Option.bind_some _ _).symm.trans H; with_reducible exact H2_) | with_reducible exact H | (rw [hy179]; exact H) | exact H
  have Ny179 := Aside0.mk hy179
  clear hy179
  obtain ⟨y182, hy182⟩ : ∃ y_ : List Int, y_ = (List.replicate ((l0.length : Int) : Int).toNat 0) := ⟨_, rfl⟩
  replace H : (impl_TaskSchedule.l0 kj2 l0 y176 y179 y182 a1 0) = some (r1, r2) := by first | (rw [hy182]; with_reducible exact H) | (have H2_ := (Option.bind_some _ _).symm.trans H; rw [hy182]; with_reducible exact H2_) | (have H2_ := (Option.bind_some _ _).symm.trans H; with_reducible exact H2_) | with_reducible exact H | (rw [hy182]; exact H) | exact H
  have Ny182 := Aside0.mk hy182
  clear hy182
  have H' := Aside0.mk H
  clear H
  try go_wp2
  have n0_ := Aside0.mk (below_drew1 HB.out)
  clear HB
  have HB := n0_
  clear n0_
  refine start_ (n := 7) (S := fun w' => True) (ds := []) #[oF,oF,oF,oF,oF,oF,oF] (by kernel_rfl) rfl rfl trivial (fun hHeld => ?_)
  generalize wc.drew = w14 at HB hHeld ⊢
  refine pure_ (i := 0) (N := some 21) (v := ?_) (a' := ?_) #[oT,oF,oF,oF,oF,oF,oF] rfl rfl (by kernel_rfl) (fun _ _ _ h => h) (Or.inl ⟨by rfl, ?_⟩) ?_ ?_
  rotate_left
  · intro w'
    go_simp
    with_reducible rfl
  rotate_left
  · simp only [Act.put, List.setIfInBounds_toArray, List.set_cons_zero, List.set_cons_succ, i64_w, i32_w]
    rfl
  refine pure_ (i := 2) (N := some 23) (v := ?_) (a' := ?_) #[oT,oF,oT,oF,oF,oF,oF] rfl rfl (by kernel_rfl) (fun _ _ _ h => h) (Or.inl ⟨by rfl, ?_⟩) ?_ ?_
  rotate_left
  · intro w'
    go_simp
    with_reducible rfl
  rotate_left
  · simp only [Act.put, List.setIfInBounds_toArray, List.set_cons_zero, List.set_cons_succ, i64_w, i32_w]
    rfl
  refine pure_ (i := 3) (N := some 24) (v := ?_) (a' := ?_) #[oT,oF,oT,oT,oF,oF,oF] rfl rfl (by kernel_rfl) (fun _ _ _ h => h) (Or.inl ⟨by rfl, ?_⟩) ?_ ?_
  rotate_left
  · intro w'
    go_simp
    with_reducible rfl
  rotate_left
  · simp only [Act.put, List.setIfInBounds_toArray, List.set_cons_zero, List.set_cons_succ, i64_w, i32_w]
    rfl
  refine join_ (σ := Value × Value) 1 #[true, true, true, true, true, true, false] (fun s_ => [(22, s_.1), (25, s_.2), (6, s_.1)]) (fun s_ w' => (Kd.R (Kd.int .i64) 3 w' w.heap.size (fun k_ => some k_ ≠ (s_.2 : Value).ownBlock) s_.1 y176) ∧ (Kd.R (Kd.int .i64) 3 w' w.heap.size (fun k_ => some k_ ≠ (s_.1 : Value).ownBlock) s_.2 y179) ∧ (Below w.heap.size w w')) ?_ ?_
  rotate_left
  · intro hCont
    refine two_ (i := 1) (j := 4) (Ni := some 22) (Nj := some 25) #[true, true, true, true, false, false, false] #[true, false, true, true, true, false, false] rfl rfl rfl rfl (by kernel_rfl) (by decide) (by decide) (fun K hK => ?_) (fun K hK => ?_)
    rotate_left
    · skip
      refine Kd.R_make_step (Kd.int .i64) _ 3 (by rfl) (N := 25) rfl 58 _ _ rfl (l0.length : Int) rfl rfl Try.underlying58 (.int .i64 0) 8 info3 rfl (by decide) (by omega) 0 (ok := fun _ => True) (okp := fun _ => True) rfl (fun _ hk => hk) trivial (of_decide_eq_true (by with_reducible assumption)) (Nat.le_trans (Nat.mul_le_mul_right _ (of_decide_eq_true (by with_reducible assumption) : (l0.length : Int).toNat ≤ 35184372088832)) (by omega)) (Below.refl _ _) (Nat.le_refl _) ?_
      intro v180 w15 ho16 hb hg_ hnew_
      clear hg_ hnew_
      (first | rw [← Ny179.out] at ho16 | (simp only [Int.reduceToNat] at ho16; rw [← Ny179.out] at ho16))
      have n0_ := Aside0.mk (Kd.R_lower ho16 (below_size HB.out))
      have n1_ := Aside0.mk (below_step HB.out hb)
      clear HB
      have HO181 := n0_
      have HB := n1_
      clear n0_ n1_
      clear hb ho16
      refine hK.out _ _ trivial (fun hHeld => ?_)
      clear hK K
      refine norm_ (a' := ?_) ?_ ?_
      rotate_left
      · show Act.put _ (some 25) _ = _
        simp only [Act.put, List.setIfInBounds_toArray, List.set_cons_zero, List.set_cons_succ, i64_w, i32_w]
        rfl
      refine one_ (i := 1) (N := some 22) #[true, true, true, true, true, false, false] rfl rfl (by kernel_rfl) (by decide) (fun K hK => ?_)
      refine Kd.R_make_step (Kd.int .i64) _ 3 (by rfl) (N := 22) rfl 58 _ _ rfl a1 rfl rfl Try.underlying58 (.int .i64 0) 8 info3 rfl (by decide) (by omega) 0 (ok := fun _ => True) (okp := fun _ => True) rfl (fun _ hk => hk) trivial (of_decide_eq_true (by with_reducible assumption)) (Nat.le_trans (Nat.mul_le_mul_right _ (of_decide_eq_true (by with_reducible assumption) : a1.toNat ≤ 35184372088832)) (by omega)) (Below.refl _ _) (Nat.le_refl _) ?_
      intro v177 w17 ho18 hb hg_ hnew_
      clear hg_ hnew_
      (first | rw [← Ny176.out] at ho18 | (simp only [Int.reduceToNat] at ho18; rw [← Ny176.out] at ho18))
      have n0_ := Aside0.mk (Kd.R_elder' HO181.out (Kd.R_base ho18) hb)
      have n1_ := Aside0.mk (Kd.R_lower (Kd.R_new' ho18 (Kd.R_lt HO181.out)) (below_size HB.out))
      have n2_ := Aside0.mk (below_step HB.out hb)
      clear HO181
      clear HB
      have HO181 := n0_
      have HO178 := n1_
      have HB := n2_
      clear n0_ n1_ n2_
      clear hb ho18
      refine hK.out _ _ trivial (fun hHeld => ?_)
      clear hK K
      refine norm_ (a' := ?_) ?_ ?_
      rotate_left
      · show Act.put _ (some 22) _ = _
        simp only [Act.put, List.setIfInBounds_toArray, List.set_cons_zero, List.set_cons_succ, i64_w, i32_w]
        rfl
      refine pure_ (i := 5) (N := some 6) (v := ?_) (a' := ?_) #[oT,oT,oT,oT,oT,oT,oF] rfl rfl (by kernel_rfl) (fun _ _ _ h => h) (Or.inl ⟨by rfl, ?_⟩) ?_ ?_
      rotate_left
      · intro w'
        go_simp
        with_reducible rfl
      rotate_left
      · simp only [Act.put, List.setIfInBounds_toArray, List.set_cons_zero, List.set_cons_succ, i64_w, i32_w]
        rfl
      exact norm_ (by simp only [putAll, Act.put, List.setIfInBounds_toArray, List.set_cons_zero, List.set_cons_succ]) (hCont (v177, v180) _ ⟨(by exact Kd.R_mono HO178.out (fun _ hk => hk.2)), (by exact Kd.R_mono HO181.out (fun _ hk => hk.2)), HB.out⟩)
    skip
    refine Kd.R_make_step (Kd.int .i64) _ 3 (by rfl) (N := 22) rfl 58 _ _ rfl a1 rfl rfl Try.underlying58 (.int .i64 0) 8 info3 rfl (by decide) (by omega) 0 (ok := fun _ => True) (okp := fun _ => True) rfl (fun _ hk => hk) trivial (of_decide_eq_true (by with_reducible assumption)) (Nat.le_trans (Nat.mul_le_mul_right _ (of_decide_eq_true (by with_reducible assumption) : a1.toNat ≤ 35184372088832)) (by omega)) (Below.refl _ _) (Nat.le_refl _) ?_
    intro v177 w15 ho16 hb hg_ hnew_
    clear hg_ hnew_
    (first | rw [← Ny176.out] at ho16 | (simp only [Int.reduceToNat] at ho16; rw [← Ny176.out] at ho16))
    have n0_ := Aside0.mk (Kd.R_lower ho16 (below_size HB.out))
    have n1_ := Aside0.mk (below_step HB.out hb)
    clear HB
    have HO178 := n0_
    have HB := n1_
    clear n0_ n1_
    clear hb ho16
    refine hK.out _ _ trivial (fun hHeld => ?_)
    clear hK K
    refine norm_ (a' := ?_) ?_ ?_
    rotate_left
    · show Act.put _ (some 22) _ = _
      simp only [Act.put, List.setIfInBounds_toArray, List.set_cons_zero, List.set_cons_succ, i64_w, i32_w]
      rfl
    refine pure_ (i := 5) (N := some 6) (v := ?_) (a' := ?_) #[oT,oT,oT,oT,oF,oT,oF] rfl rfl (by kernel_rfl) (fun _ _ _ h => h) (Or.inl ⟨by rfl, ?_⟩) ?_ ?_
    rotate_left
    · intro w'
      go_simp
      with_reducible rfl
    rotate_left
    · simp only [Act.put, List.setIfInBounds_toArray, List.set_cons_zero, List.set_cons_succ, i64_w, i32_w]
      rfl
    refine one_ (i := 4) (N := some 25) #[true, true, true, true, true, true, false] rfl rfl (by kernel_rfl) (by decide) (fun K hK => ?_)
    refine Kd.R_make_step (Kd.int .i64) _ 3 (by rfl) (N := 25) rfl 58 _ _ rfl (l0.length : Int) rfl rfl Try.underlying58 (.int .i64 0) 8 info3 rfl (by decide) (by omega) 0 (ok := fun _ => True) (okp := fun _ => True) rfl (fun _ hk => hk) trivial (of_decide_eq_true (by with_reducible assumption)) (Nat.le_trans (Nat.mul_le_mul_right _ (of_decide_eq_true (by with_reducible assumption) : (l0.length : Int).toNat ≤ 35184372088832)) (by omega)) (Below.refl _ _) (Nat.le_refl _) ?_
    intro v180 w17 ho18 hb hg_ hnew_
    clear hg_ hnew_
    (first | rw [← Ny179.out] at ho18 | (simp only [Int.reduceToNat] at ho18; rw [← Ny179.out] at ho18))
    have n0_ := Aside0.mk (Kd.R_elder' HO178.out (Kd.R_base ho18) hb)
    have n1_ := Aside0.mk (Kd.R_lower (Kd.R_new' ho18 (Kd.R_lt HO178.out)) (below_size HB.out))
    have n2_ := Aside0.mk (below_step HB.out hb)
    clear HO178
    clear HB
    have HO178 := n0_
    have HO181 := n1_
    have HB := n2_
    clear n0_ n1_ n2_
    clear hb ho18
    refine hK.out _ _ trivial (fun hHeld => ?_)
    clear hK K
    refine norm_ (a' := ?_) ?_ ?_
    rotate_left
    · show Act.put _ (some 25) _ = _
      simp only [Act.put, List.setIfInBounds_toArray, List.set_cons_zero, List.set_cons_succ, i64_w, i32_w]
      rfl
    exact norm_ (by simp only [putAll, Act.put, List.setIfInBounds_toArray, List.set_cons_zero, List.set_cons_succ]) (hCont (v177, v180) _ ⟨(by exact Kd.R_mono HO178.out (fun _ hk => hk.2)), (by exact Kd.R_mono HO181.out (fun _ hk => hk.2)), HB.out⟩)
  rintro ⟨v177, v180⟩ w19 ⟨h0_, h1_, h2_⟩
  have n0_ : Aside0 (Kd.R (Kd.int .i64) 3 w19 w.heap.size (fun k_ => some k_ ≠ (v180 : Value).ownBlock) v177 y176) := ⟨h0_⟩
  have n1_ : Aside0 (Kd.R (Kd.int .i64) 3 w19 w.heap.size (fun k_ => some k_ ≠ (v177 : Value).ownBlock) v180 y179) := ⟨h1_⟩
  have n2_ : Aside0 (Below w.heap.size w w19) := ⟨h2_⟩
  clear HB
  clear h0_ h1_ h2_
  have HO178 := n0_
  have HO181 := n1_
  have HB := n2_
  clear n0_ n1_ n2_
  have hHeld := trivial
  refine norm_ (a' := ?_) ?_ ?_
  rotate_left
  · simp only [putAll, Act.put, List.setIfInBounds_toArray, List.set_cons_zero, List.set_cons_succ]
    rfl
  refine pure_ (i := 6) (N := some 7) (v := ?_) (a' := ?_) #[oT,oT,oT,oT,oT,oT,oT] rfl rfl (by kernel_rfl) (fun _ _ _ h => h) (Or.inl ⟨by rfl, ?_⟩) ?_ ?_
  rotate_left
  · intro w'
    go_simp
    with_reducible rfl
  rotate_left
  · simp only [Act.put, List.setIfInBounds_toArray, List.set_cons_zero, List.set_cons_succ, i64_w, i32_w]
    rfl
  refine done_ (by kernel_rfl) ?_
  try go_wp2_with (first | ((with_reducible refine gate_dst (N := 28) rfl ?_); refine Kd.R_make (Kd.int .i64) _ 3 rfl (N := 28) rfl 58 _ _ rfl (l0.length : Int) rfl rfl Try.underlying58 (.int .i64 0) 8 info3 rfl (by decide) (by omega) 0 (ok := fun _ => True) (okp := fun _ => True) rfl (fun _ hk => hk) trivial (of_decide_eq_true (by with_reducible assumption)) (Nat.le_trans (Nat.mul_le_mul_right _ (of_decide_eq_true (by with_reducible assumption) : (l0.length : Int).toNat ≤ 35184372088832)) (by omega)) (Below.refl _ _) (Nat.le_refl _) ?_; intro v183 w20 ho21 hb hg_ hnew_; clear hg_ hnew_; (first | rw [← Ny182.out] at ho21 | (simp only [Int.reduceToNat] at ho21; rw [← Ny182.out] at ho21)); have n0_ := Aside0.mk (Kd.R_elder' HO178.out (Kd.R_base ho21) hb); have n1_ := Aside0.mk (Kd.R_elder' HO181.out (Kd.R_base ho21) hb); have n2_ := Aside0.mk (Kd.R_lower (Kd.R_new' (Kd.R_new' ho21 (Kd.R_lt HO178.out)) (Kd.R_lt HO181.out)) (below_size HB.out)); have n3_ := Aside0.mk (below_step HB.out hb); clear HO178; clear HO181; clear HB; have HO178 := n0_; have HO181 := n1_; have HO184 := n2_; have HB := n3_; clear n0_ n1_ n2_ n3_; clear hb ho21))
  go_loopg [30] kj2 (fun kq v30 w' => ∃ (x6_2 : List Int) (x7_2 : List Int) (x8_2 : List Int) (x30_2 : Int), v30 = .int .i64 x30_2 ∧ Aside0 (impl_TaskSchedule.l0 kq l0 x6_2 x7_2 x8_2 a1 x30_2 = some (r1, r2)) ∧ Aside0 (kq ≤ kj2) ∧ Aside0 (Kd.R (Kd.int .i64) 3 w' w.heap.size (fun k_ => some k_ ≠ (v180 : Value).ownBlock ∧ some k_ ≠ (v183 : Value).ownBlock) v177 x6_2) ∧ Aside0 (Kd.R (Kd.int .i64) 3 w' w.heap.size (fun k_ => some k_ ≠ (v177 : Value).ownBlock ∧ some k_ ≠ (v183 : Value).ownBlock) v180 x7_2) ∧ Aside0 (Kd.R (Kd.int .i64) 3 w' w.heap.size (fun k_ => some k_ ≠ (v177 : Value).ownBlock ∧ some k_ ≠ (v180 : Value).ownBlock) v183 x8_2) ∧ Aside0 (Below w.heap.size w w'))
  case atStart => exact ⟨(y176), (y179), (y182), (0), (by first | rfl | (simp; done) | (simp [*]; done)), H', ⟨Nat.le_refl _⟩, ⟨by (with_reducible repeat (first | apply Kd.R_alloc | apply Kd.R_drewN | apply Kd.R_drew)); exact HO178.out⟩, ⟨by (with_reducible repeat (first | apply Kd.R_alloc | apply Kd.R_drewN | apply Kd.R_drew)); exact HO181.out⟩, ⟨by (with_reducible repeat (first | apply Kd.R_alloc | apply Kd.R_drewN | apply Kd.R_drew)); exact Kd.R_mono HO184.out (fun _ hk => ⟨hk.1.2, hk.2⟩)⟩, ⟨by repeat (first | (with_reducible first | exact HB.out | apply below_alloc | apply pw_below_drewN | apply below_drew1) | exact HB.out)⟩⟩
  clear H'
  try clear c1
  try clear p2
  try clear c3
  try clear c5
  try clear c6
  try clear c9
  try clear c10
  try clear c10b0
  try clear c10b1
  try clear c11
  try clear c11b0
  try clear c11b1
  try clear c12
  try clear c12b0
  try clear c12b1
  try clear c13
  try clear c13b0
  try clear c13b1
  try clear p2
  obtain ⟨x6_2, x7_2, x8_2, x30_2, rfl, HA, HK2, HO_6, HO_7, HO_8, HB⟩ := hrel
  rcases gk with _ | k2
  · exact absurd HA.out (by simp [impl_TaskSchedule.l0])
  have H := HA.out
  clear HA
  simp only [impl_TaskSchedule.l0] at H
  by_cases c22 : x30_2 < a1
  rotate_left
  · rw [if_neg c22] at H
    have c22b0 : decide (x30_2 < a1) = false := decide_eq_false c22
    clear c22
    simp only [Option.some.injEq, Prod.mk.injEq] at H
    obtain ⟨rfl, rfl⟩ := H
    go_wp2
    go_ret2
    exact ⟨_, _, by first | rfl | (simp [errW_none, errW_some] <;> rfl) | (simp [*, errW_none, errW_some] <;> rfl), by (with_reducible repeat (first | apply Kd.R_alloc | apply Kd.R_drewN | apply Kd.R_drew)); exact Kd.R_mono HO_6.out (fun _ hk => hk.1), by (with_reducible repeat (first | apply Kd.R_alloc | apply Kd.R_drewN | apply Kd.R_drew)); exact Kd.R_mono HO_7.out (fun _ hk => hk.1), by repeat (first | (with_reducible first | exact HB.out | apply below_alloc | apply pw_below_drewN | apply below_drew1) | exact HB.out)⟩
  rw [if_pos c22] at H
  have c22b0 : decide (x30_2 < a1) = true := decide_eq_true c22
  clear c22
  have H' := Aside0.mk H
  clear H
  go_wp2
  go_loopg [10, 35] k2 (fun kq v10 v35 w' => ∃ (x7_3 : List Int) (x8_3 : List Int) (x10_3 : Int) (x35_3 : Int), v10 = .int .i64 x10_3 ∧ v35 = .int .i64 x35_3 ∧ Aside0 (impl_TaskSchedule.l1 kq l0 x6_2 x7_3 x8_3 x30_2 x10_3 a1 x30_2 l0 (l0.length : Int) x35_3 = some (r1, r2)) ∧ Aside0 (kq ≤ k2) ∧ Aside0 (Kd.R (Kd.int .i64) 3 w' w.heap.size (fun k_ => some k_ ≠ (v180 : Value).ownBlock ∧ some k_ ≠ (v183 : Value).ownBlock) v177 x6_2) ∧ Aside0 (Kd.R (Kd.int .i64) 3 w' w.heap.size (fun k_ => some k_ ≠ (v177 : Value).ownBlock ∧ some k_ ≠ (v183 : Value).ownBlock) v180 x7_3) ∧ Aside0 (Kd.R (Kd.int .i64) 3 w' w.heap.size (fun k_ => some k_ ≠ (v177 : Value).ownBlock ∧ some k_ ≠ (v180 : Value).ownBlock) v183 x8_3) ∧ Aside0 (Below w.heap.size w w'))
  case atStart => exact ⟨(x7_2), (x8_2), ((-1)), (0), (by first | rfl | (simp; done) | (simp [*]; done)), (by first | rfl | (simp; done) | (simp [*]; done)), H', ⟨Nat.le_refl _⟩, ⟨by (with_reducible repeat (first | apply Kd.R_alloc | apply Kd.R_drewN | apply Kd.R_drew)); exact HO_6.out⟩, ⟨by (with_reducible repeat (first | apply Kd.R_alloc | apply Kd.R_drewN | apply Kd.R_drew)); exact HO_7.out⟩, ⟨by (with_reducible repeat (first | apply Kd.R_alloc | apply Kd.R_drewN | apply Kd.R_drew)); exact HO_8.out⟩, ⟨by repeat (first | (with_reducible first | exact HB.out | apply below_alloc | apply pw_below_drewN | apply below_drew1) | exact HB.out)⟩⟩
  clear H'
  try clear c1
  try clear c2
  try clear p2
  try clear c3
  try clear c5
  try clear c6
  try clear c9
  try clear c10
  try clear c10b0
  try clear c10b1
  try clear c11
  try clear c11b0
  try clear c11b1
  try clear c12
  try clear c12b0
  try clear c12b1
  try clear c13
  try clear c13b0
  try clear c13b1
  try clear c22
  try clear c22b0
  try clear p2
  obtain ⟨x7_3, x8_3, x10_3, x35_3, rfl, rfl, HA, HK3, HO_6, HO_7, HO_8, HB⟩ := hrel
  rcases gk with _ | k3
  · exact absurd HA.out (by simp [impl_TaskSchedule.l1])
  have H := HA.out
  clear HA
  simp only [impl_TaskSchedule.l1] at H
  by_cases c23 : x35_3 < (l0.length : Int)
  rotate_left
  · rw [if_neg c23] at H
    have c23b0 : decide (x35_3 < (l0.length : Int)) = false := decide_eq_false c23
    clear c23
    by_cases c150 : 0 ≤ x30_2
    rotate_left
    · rw [if_neg c150] at H
      exact absurd H (by simp)
    rw [if_pos c150] at H
    have c150b0 : decide (0 ≤ x30_2) = true := decide_eq_true c150
    clear c150
    by_cases c151 : x30_2 < (x6_2.length : Int)
    rotate_left
    · rw [if_neg c151] at H
      exact absurd H (by simp)
    rw [if_pos c151] at H
    have c151b0 : decide (x30_2 < (x6_2.length : Int)) = true := decide_eq_true c151
    clear c151
    obtain ⟨y185, hy185⟩ : ∃ y_ : List Int, y_ = (x6_2.set (x30_2 : Int).toNat x10_3) := ⟨_, rfl⟩
    replace H : (if x10_3 ≥ 0 then (if 0 ≤ x10_3 then (if x10_3 < (x8_3.length : Int) then (impl_TaskSchedule.l0 k3 l0 y185 x7_3 (x8_3.set (x10_3 : Int).toNat (wrap64 ((rd x8_3 x10_3) - 1))) a1 (wrap64 (x30_2 + 1))) else (none)) else (none)) else (impl_TaskSchedule.l0 k3 l0 y185 x7_3 x8_3 a1 (wrap64 (x30_2 + 1)))) = some (r1, r2) := by first | (rw [hy185]; with_reducible exact H) | (have H2_ := (Option.bind_some _ _).symm.trans H; rw [hy185]; with_reducible exact H2_) | (have H2_ := (Option.bind_some _ _).symm.trans H; with_reducible exact H2_) | with_reducible exact H | (rw [hy185]; exact H) | exact H
    have Ny185 := Aside0.mk hy185
    clear hy185
    by_cases c153 : x10_3 ≥ 0
    rotate_left
    · rw [if_neg c153] at H
      have c153b0 : decide (0 ≤ x10_3) = false := decide_eq_false c153
      clear c153
      have H' := Aside0.mk H
      clear H
      have p152 : 0 ≤ (x30_2 : Int) := of_decide_eq_true (by with_reducible assumption)
      have q152 : (x30_2 : Int) < ((x6_2.length : Int) : Int) := of_decide_eq_true (by with_reducible assumption)
      obtain ⟨go152, co152, eo152, gb152, gl152, cl152, HG152⟩ := Kd.R_form HO_6.out (by omega)
      (first | cases eo152 | (injection eo152 with ea_ en_ ec_; (first | subst ea_ | (injection ea_ with ea_; subst ea_)); subst ec_; clear en_))
      have GB152 := Aside0.mk gb152
      have GG152 := Aside0.mk HG152
      clear gb152 gl152 HG152
      obtain ⟨hx152_0, hf152_0⟩ := Kd.R_celln 0 HO_6.out (x30_2 : Int) p152 q152
      replace p152 := eq_true p152
      replace q152 := eq_true q152
      have HP162 := Kd.R_putg HO_6.out (x30_2 : Int) x10_3
      go_wp2_with (first | ((with_reducible refine gate_store (t := 3) (p := 85) rfl ?_); refine store_event (t := 3) (p := 85) (v := ?vo_w163) (w1 := (wr.setCell ⟨go152, (x30_2 : Int).toNat, none⟩ (.int .i64 x10_3))) ?hg ?ho ?hn ?hr ?_; (case ho => rfl); (case hg => rfl); (case hn => rfl); (case hr => first | (go_simp; done) | (go_simp; rfl)); intro w163 hw; have hg : wr.grownBy w163 (some go152) := (by rw [hw]; exact HP162.2); have hp_ : Kd.R (Kd.int .i64) 3 w163 w.heap.size (fun k_ => some k_ ≠ (v180 : Value).ownBlock ∧ some k_ ≠ (v183 : Value).ownBlock) (.slice (some ⟨go152, 0, none⟩) x6_2.length co152) y185 := (by rw [hw, Ny185.out]; exact HP162.1); clear HP162; have n0_ := Aside0.mk (hp_); have n1_ := Aside0.mk (Kd.R_after (v := (.slice (some ⟨go152, 0, none⟩) x6_2.length co152)) (v1 := (.slice (some ⟨go152, 0, none⟩) x6_2.length co152)) (ok := (fun k_ => some k_ ≠ (v183 : Value).ownBlock)) (by exact Kd.R_mono HO_7.out (fun _ hk => ⟨hk.2, hk.1⟩)) hg (.inl rfl)); have n2_ := Aside0.mk (Kd.R_after (v := (.slice (some ⟨go152, 0, none⟩) x6_2.length co152)) (v1 := (.slice (some ⟨go152, 0, none⟩) x6_2.length co152)) (ok := (fun k_ => some k_ ≠ (v180 : Value).ownBlock)) (by exact Kd.R_mono HO_8.out (fun _ hk => ⟨hk.2, hk.1⟩)) hg (.inl rfl)); have n3_ := Aside0.mk ((by rw [hw]; exact below_set (HB.out) GB152.out : Below w.heap.size w w163)); clear HO_6; clear HO_7; clear HO_8; clear HB; have HO_6 := n0_; have HO_7 := n1_; have HO_8 := n2_; have HB := n3_; clear n0_ n1_ n2_ n3_; clear hg hw hp_))
      go_roundg k3
      case measure => have := HJ2.out; have := HK2.out; have := HK3.out; omega
      case rel => exact ⟨(y185), (x7_3), (x8_3), (wrap64 (x30_2 + 1)), (by first | rfl | (simp; done) | (simp [*]; done)), H', ⟨by have := HJ2.out; have := HK2.out; have := HK3.out; omega⟩, ⟨by (with_reducible repeat (first | apply Kd.R_alloc | apply Kd.R_drewN | apply Kd.R_drew)); exact HO_6.out⟩, ⟨by (with_reducible repeat (first | apply Kd.R_alloc | apply Kd.R_drewN | apply Kd.R_drew)); exact Kd.R_mono HO_7.out (fun _ hk => ⟨hk.2, hk.1⟩)⟩, ⟨by (with_reducible repeat (first | apply Kd.R_alloc | apply Kd.R_drewN | apply Kd.R_drew)); exact Kd.R_mono HO_8.out (fun _ hk => ⟨hk.2, hk.1⟩)⟩, ⟨by repeat (first | (with_reducible first | exact HB.out | apply below_alloc | apply pw_below_drewN | apply below_drew1) | exact HB.out)⟩⟩
    rw [if_pos c153] at H
    have c153b0 : decide (0 ≤ x10_3) = true := decide_eq_true c153
    clear c153
    by_cases c154 : 0 ≤ x10_3
    rotate_left
    · rw [if_neg c154] at H
      exact absurd H (by simp)
    rw [if_pos c154] at H
    have c154b0 : decide (0 ≤ x10_3) = true := decide_eq_true c154
    clear c154
    by_cases c155 : x10_3 < (x8_3.length : Int)
    rotate_left
    · rw [if_neg c155] at H
      exact absurd H (by simp)
    rw [if_pos c155] at H
    have c155b0 : decide (x10_3 < (x8_3.length : Int)) = true := decide_eq_true c155
    clear c155
    obtain ⟨y187, hy187⟩ : ∃ y_ : List Int, y_ = (x8_3.set (x10_3 : Int).toNat (wrap64 ((rd x8_3 x10_3) - 1))) := ⟨_, rfl⟩
    replace H : (impl_TaskSchedule.l0 k3 l0 y185 x7_3 y187 a1 (wrap64 (x30_2 + 1))) = some (r1, r2) := by first | (rw [hy187]; with_reducible exact H) | (have H2_ := (Option.bind_some _ _).symm.trans H; rw [hy187]; with_reducible exact H2_) | (have H2_ := (Option.bind_some _ _).symm.trans H; with_reducible exact H2_) | with_reducible exact H | (rw [hy187]; exact H) | exact H
    have Ny187 := Aside0.mk hy187
    clear hy187
    have H' := Aside0.mk H
    clear H
    have p152 : 0 ≤ (x30_2 : Int) := of_decide_eq_true (by with_reducible assumption)
    have q152 : (x30_2 : Int) < ((x6_2.length : Int) : Int) := of_decide_eq_true (by with_reducible assumption)
    obtain ⟨go152, co152, eo152, gb152, gl152, cl152, HG152⟩ := Kd.R_form HO_6.out (by omega)
    (first | cases eo152 | (injection eo152 with ea_ en_ ec_; (first | subst ea_ | (injection ea_ with ea_; subst ea_)); subst ec_; clear en_))
    have GB152 := Aside0.mk gb152
    have GG152 := Aside0.mk HG152
    clear gb152 gl152 HG152
    obtain ⟨hx152_0, hf152_0⟩ := Kd.R_celln 0 HO_6.out (x30_2 : Int) p152 q152
    replace p152 := eq_true p152
    replace q152 := eq_true q152
    have HP157 := Kd.R_putg HO_6.out (x30_2 : Int) x10_3
    go_wp2_with (first | ((with_reducible refine gate_store (t := 3) (p := 85) rfl ?_); refine store_event (t := 3) (p := 85) (v := ?vo_w158) (w1 := (wr.setCell ⟨go152, (x30_2 : Int).toNat, none⟩ (.int .i64 x10_3))) ?hg ?ho ?hn ?hr ?_; (case ho => rfl); (case hg => rfl); (case hn => rfl); (case hr => first | (go_simp; done) | (go_simp; rfl)); intro w158 hw; have hg : wr.grownBy w158 (some go152) := (by rw [hw]; exact HP157.2); have hp_ : Kd.R (Kd.int .i64) 3 w158 w.heap.size (fun k_ => some k_ ≠ (v180 : Value).ownBlock ∧ some k_ ≠ (v183 : Value).ownBlock) (.slice (some ⟨go152, 0, none⟩) x6_2.length co152) y185 := (by rw [hw, Ny185.out]; exact HP157.1); clear HP157; have n0_ := Aside0.mk (hp_); have n1_ := Aside0.mk (Kd.R_after (v := (.slice (some ⟨go152, 0, none⟩) x6_2.length co152)) (v1 := (.slice (some ⟨go152, 0, none⟩) x6_2.length co152)) (ok := (fun k_ => some k_ ≠ (v183 : Value).ownBlock)) (by exact Kd.R_mono HO_7.out (fun _ hk => ⟨hk.2, hk.1⟩)) hg (.inl rfl)); have n2_ := Aside0.mk (Kd.R_after (v := (.slice (some ⟨go152, 0, none⟩) x6_2.length co152)) (v1 := (.slice (some ⟨go152, 0, none⟩) x6_2.length co152)) (ok := (fun k_ => some k_ ≠ (v180 : Value).ownBlock)) (by exact Kd.R_mono HO_8.out (fun _ hk => ⟨hk.2, hk.1⟩)) hg (.inl rfl)); have n3_ := Aside0.mk ((by rw [hw]; exact below_set (HB.out) GB152.out : Below w.heap.size w w158)); clear HO_6; clear HO_7; clear HO_8; clear HB; have HO_6 := n0_; have HO_7 := n1_; have HO_8 := n2_; have HB := n3_; clear n0_ n1_ n2_ n3_; clear hg hw hp_; obtain ⟨Ao159, co159, eo159⟩ := Kd.R_slice HO_8.out; subst eo159; have p186 : 0 ≤ (x10_3 : Int) := of_decide_eq_true (by with_reducible assumption); have q186 : x10_3 < (x8_3.length : Int) := of_decide_eq_true (by with_reducible assumption); obtain ⟨ad186, e186, hx186_0⟩ := Kd.at_int (Kd.R_reads' HO_8.out).2.2 x10_3 p186 q186; cases e186; replace p186 := eq_true p186; replace q186 := eq_true q186; have p156 : 0 ≤ (x10_3 : Int) := of_decide_eq_true (by with_reducible assumption); have q156 : (x10_3 : Int) < ((x8_3.length : Int) : Int) := of_decide_eq_true (by with_reducible assumption); obtain ⟨go156, co156, eo156, gb156, gl156, cl156, HG156⟩ := Kd.R_form HO_8.out (by omega); (first | cases eo156 | (injection eo156 with ea_ en_ ec_; (first | subst ea_ | (injection ea_ with ea_; subst ea_)); subst ec_; clear en_)); have GB156 := Aside0.mk gb156; have GG156 := Aside0.mk HG156; clear gb156 gl156 HG156; (first | simp only [add_plain] at hx186_0 | skip); obtain ⟨hx156_0, hf156_0⟩ := Kd.R_celln 0 HO_8.out (x10_3 : Int) p156 q156; replace p156 := eq_true p156; replace q156 := eq_true q156; obtain ⟨hy160_, hz160_⟩ := Kd.R_celln 0 HO_8.out (x10_3 : Int) (of_decide_eq_true (by with_reducible assumption)) (of_decide_eq_true (by with_reducible assumption)); have HP160 := Kd.R_putg HO_8.out (x10_3 : Int) (wrap64 ((rd x8_3 x10_3) - 1))) | ((with_reducible refine gate_store (t := 3) (p := 93) rfl ?_); refine store_event (t := 3) (p := 93) (v := ?vo_w161) (w1 := (w158.setCell ⟨go156, (x10_3 : Int).toNat, none⟩ (.int .i64 (wrap64 ((rd x8_3 x10_3) - 1))))) ?hg ?ho ?hn ?hr ?_; (case ho => rfl); (case hg => rfl); (case hn => rfl); (case hr => first | (go_simp; done) | (go_simp; rfl)); intro w161 hw; have hg : w158.grownBy w161 (some go156) := (by rw [hw]; exact HP160.2); have hp_ : Kd.R (Kd.int .i64) 3 w161 w.heap.size (fun k_ => some k_ ≠ (v180 : Value).ownBlock ∧ some k_ ≠ (.slice (some ⟨go152, 0, none⟩) x6_2.length co152 : Value).ownBlock) (.slice (some ⟨go156, 0, none⟩) x8_3.length co159) y187 := (by rw [hw, Ny187.out]; exact HP160.1); clear HP160; have n0_ := Aside0.mk (Kd.R_after (v := (.slice (some ⟨go156, 0, none⟩) x8_3.length co159)) (v1 := (.slice (some ⟨go156, 0, none⟩) x8_3.length co159)) (ok := (fun k_ => some k_ ≠ (v180 : Value).ownBlock)) HO_6.out hg (.inl rfl)); have n1_ := Aside0.mk (Kd.R_after (v := (.slice (some ⟨go156, 0, none⟩) x8_3.length co159)) (v1 := (.slice (some ⟨go156, 0, none⟩) x8_3.length co159)) (ok := (fun k_ => some k_ ≠ (.slice (some ⟨go152, 0, none⟩) x6_2.length co152 : Value).ownBlock)) (by exact Kd.R_mono HO_7.out (fun _ hk => ⟨hk.2, hk.1⟩)) hg (.inl rfl)); have n2_ := Aside0.mk (hp_); have n3_ := Aside0.mk ((by rw [hw]; exact below_set (HB.out) GB156.out : Below w.heap.size w w161)); clear HO_6; clear HO_7; clear HO_8; clear HB; have HO_6 := n0_; have HO_7 := n1_; have HO_8 := n2_; have HB := n3_; clear n0_ n1_ n2_ n3_; clear hg hw hp_))
    go_roundg k3
    case measure => have := HJ2.out; have := HK2.out; have := HK3.out; omega
    case rel => exact ⟨(y185), (x7_3), (y187), (wrap64 (x30_2 + 1)), (by first | rfl | (simp; done) | (simp [*]; done)), H', ⟨by have := HJ2.out; have := HK2.out; have := HK3.out; omega⟩, ⟨by (with_reducible repeat (first | apply Kd.R_alloc | apply Kd.R_drewN | apply Kd.R_drew)); exact HO_6.out⟩, ⟨by (with_reducible repeat (first | apply Kd.R_alloc | apply Kd.R_drewN | apply Kd.R_drew)); exact HO_7.out⟩, ⟨by (with_reducible repeat (first | apply Kd.R_alloc | apply Kd.R_drewN | apply Kd.R_drew)); exact Kd.R_mono HO_8.out (fun _ hk => ⟨hk.2, hk.1⟩)⟩, ⟨by repeat (first | (with_reducible first | exact HB.out | apply below_alloc | apply pw_below_drewN | apply below_drew1) | exact HB.out)⟩⟩
  rw [if_pos c23] at H
  have c23b0 : decide (x35_3 < (l0.length : Int)) = true := decide_eq_true c23
  clear c23
  by_cases c24 : 0 ≤ x35_3
  rotate_left
  · rw [if_neg c24] at H
    exact absurd H (by simp)
  rw [if_pos c24] at H
  have c24b0 : decide (0 ≤ x35_3) = true := decide_eq_true c24
  clear c24
  by_cases c25 : x35_3 < (l0.length : Int)
  rotate_left
  · rw [if_neg c25] at H
    exact absurd H (by simp)
  rw [if_pos c25] at H
  have c25b0 : decide (x35_3 < (l0.length : Int)) = true := decide_eq_true c25
  clear c25
  by_cases c26 : ((rd_T96 l0 x35_3).f0) = 0
  · rw [if_pos c26] at H
    exact absurd H (by simp)
  rw [if_neg c26] at H
  have c26b0 : (((rd_T96 l0 x35_3).f0) == 0) = false := beq_eq_false_iff_ne.mpr c26
  have c26b1 : (((rd_T96 l0 x35_3).f0) != 0) = true := bne_iff_ne.mpr c26
  by_cases c27 : (Int.tmod x30_2 ((rd_T96 l0 x35_3).f0)) = 0
  rotate_left
  · rw [if_neg c27] at H
    have c27b0 : ((Int.tmod x30_2 ((rd_T96 l0 x35_3).f0)) == 0) = false := beq_eq_false_iff_ne.mpr c27
    have c27b1 : ((Int.tmod x30_2 ((rd_T96 l0 x35_3).f0)) != 0) = true := bne_iff_ne.mpr c27
    by_cases c124 : x35_3 < (x8_3.length : Int)
    rotate_left
    · rw [if_neg c124] at H
      exact absurd H (by simp)
    rw [if_pos c124] at H
    have c124b0 : decide (x35_3 < (x8_3.length : Int)) = true := decide_eq_true c124
    clear c124
    by_cases c125 : (rd x8_3 x35_3) > 0
    rotate_left
    · rw [if_neg c125] at H
      have c125b0 : decide (0 < (rd x8_3 x35_3)) = false := decide_eq_false c125
      clear c125
      have H' := Aside0.mk H
      clear H
      have p188 : 0 ≤ (x35_3 : Int) := of_decide_eq_true (by with_reducible assumption)
      have q188 : x35_3 < (l0.length : Int) := of_decide_eq_true (by with_reducible assumption)
      obtain ⟨ad188, e188, hx188_0, hx188_1, hx188_2⟩ := at_T96 HR0.out x35_3 p188 q188
      cases e188
      replace hx188_0 := (HB.out.cell (World.block_lt_of_cell? w _ hx188_0)).trans hx188_0
      replace hx188_1 := (HB.out.cell (World.block_lt_of_cell? w _ hx188_1)).trans hx188_1
      replace hx188_2 := (HB.out.cell (World.block_lt_of_cell? w _ hx188_2)).trans hx188_2
      replace p188 := eq_true p188
      replace q188 := eq_true q188
      try go_wp2_with (first | ((with_reducible refine gate_dst (N := 12) rfl ?_); refine box_event ?hg (N := 12) ?hd (cs := #[.int .i64 0, .int .i64 0, .int .i64 0]) (t := 96) ?hr ?_; (case hd => rfl); (case hg => rfl); (case hr => first | (go_simp; done) | (go_simp; rfl)); intro gb189 hg w145 hbox hb; have n0_ := Aside0.mk (Kd.R_below HO_6.out hb); have n1_ := Aside0.mk (Kd.R_below HO_7.out hb); have n2_ := Aside0.mk (Kd.R_below HO_8.out hb); have n3_ := Aside0.mk (below_step HB.out hb); have n4_ := Aside0.mk (hbox); have n5_ := Aside0.mk ((by rw [hg]; exact (below_size HB.out) : w.heap.size ≤ gb189)); have n6_ := Aside0.mk ((by rw [hg]; exact (below_size HB.out) : w.heap.size ≤ gb189)); clear HO_6; clear HO_7; clear HO_8; clear HB; have HO_6 := n0_; have HO_7 := n1_; have HO_8 := n2_; have HB := n3_; have BK189 := n4_; have GW189 := n5_; have GE189 := n6_; clear n0_ n1_ n2_ n3_ n4_ n5_ n6_; clear hb hbox hg; have hcz146_0 : w145.cell? ⟨gb189, 0, none⟩ = some (.int .i64 0) := (blk_cell BK189.out 0).trans rfl; have hcz146_1 : w145.cell? ⟨gb189, 1, none⟩ = some (.int .i64 0) := (blk_cell BK189.out 1).trans rfl; have hcz146_2 : w145.cell? ⟨gb189, 2, none⟩ = some (.int .i64 0) := (blk_cell BK189.out 2).trans rfl; have hfz146_0 := blk_frozen BK189.out 0; have hfz146_1 := blk_frozen BK189.out 1; have hfz146_2 := blk_frozen BK189.out 2))
      have n0_ : Aside0 (Kd.R (Kd.int .i64) 3 (((w145.setCell ⟨gb189, 0, none⟩ (.int .i64 ((rd_T96 l0 x35_3).f0))).setCell ⟨gb189, 1, none⟩ (.int .i64 ((rd_T96 l0 x35_3).f1))).setCell ⟨gb189, 2, none⟩ (.int .i64 ((rd_T96 l0 x35_3).f2))) w.heap.size (fun k_ => some k_ ≠ (v180 : Value).ownBlock ∧ some k_ ≠ (v183 : Value).ownBlock) v177 x6_2) := ⟨by (with_reducible repeat (first | apply Kd.R_alloc | apply Kd.R_drewN | apply Kd.R_drew)); exact Kd.R_mono (Kd.R_far (p := ⟨gb189, 2, none⟩) (Kd.R_far (p := ⟨gb189, 1, none⟩) (Kd.R_far (p := ⟨gb189, 0, none⟩) (Kd.R_types HO_6.out BK189.out (by decide)) (fun _ hk => hk.2) (.int .i64 ((rd_T96 l0 x35_3).f0))) (fun _ hk => hk.2) (.int .i64 ((rd_T96 l0 x35_3).f1))) (fun _ hk => hk.2) (.int .i64 ((rd_T96 l0 x35_3).f2))) (fun _ hk => ⟨hk.1.1, hk.1.2⟩)⟩
      have n1_ : Aside0 (Kd.R (Kd.int .i64) 3 (((w145.setCell ⟨gb189, 0, none⟩ (.int .i64 ((rd_T96 l0 x35_3).f0))).setCell ⟨gb189, 1, none⟩ (.int .i64 ((rd_T96 l0 x35_3).f1))).setCell ⟨gb189, 2, none⟩ (.int .i64 ((rd_T96 l0 x35_3).f2))) w.heap.size (fun k_ => some k_ ≠ (v177 : Value).ownBlock ∧ some k_ ≠ (v183 : Value).ownBlock) v180 x7_3) := ⟨by (with_reducible repeat (first | apply Kd.R_alloc | apply Kd.R_drewN | apply Kd.R_drew)); exact Kd.R_mono (Kd.R_far (p := ⟨gb189, 2, none⟩) (Kd.R_far (p := ⟨gb189, 1, none⟩) (Kd.R_far (p := ⟨gb189, 0, none⟩) (Kd.R_types HO_7.out BK189.out (by decide)) (fun _ hk => hk.2) (.int .i64 ((rd_T96 l0 x35_3).f0))) (fun _ hk => hk.2) (.int .i64 ((rd_T96 l0 x35_3).f1))) (fun _ hk => hk.2) (.int .i64 ((rd_T96 l0 x35_3).f2))) (fun _ hk => ⟨hk.1.1, hk.1.2⟩)⟩
      have n2_ : Aside0 (Kd.R (Kd.int .i64) 3 (((w145.setCell ⟨gb189, 0, none⟩ (.int .i64 ((rd_T96 l0 x35_3).f0))).setCell ⟨gb189, 1, none⟩ (.int .i64 ((rd_T96 l0 x35_3).f1))).setCell ⟨gb189, 2, none⟩ (.int .i64 ((rd_T96 l0 x35_3).f2))) w.heap.size (fun k_ => some k_ ≠ (v177 : Value).ownBlock ∧ some k_ ≠ (v180 : Value).ownBlock) v183 x8_3) := ⟨by (with_reducible repeat (first | apply Kd.R_alloc | apply Kd.R_drewN | apply Kd.R_drew)); exact Kd.R_mono (Kd.R_far (p := ⟨gb189, 2, none⟩) (Kd.R_far (p := ⟨gb189, 1, none⟩) (Kd.R_far (p := ⟨gb189, 0, none⟩) (Kd.R_types HO_8.out BK189.out (by decide)) (fun _ hk => hk.2) (.int .i64 ((rd_T96 l0 x35_3).f0))) (fun _ hk => hk.2) (.int .i64 ((rd_T96 l0 x35_3).f1))) (fun _ hk => hk.2) (.int .i64 ((rd_T96 l0 x35_3).f2))) (fun _ hk => ⟨hk.1.1, hk.1.2⟩)⟩
      have n3_ : Aside0 ((((w145.setCell ⟨gb189, 0, none⟩ (.int .i64 ((rd_T96 l0 x35_3).f0))).setCell ⟨gb189, 1, none⟩ (.int .i64 ((rd_T96 l0 x35_3).f1))).setCell ⟨gb189, 2, none⟩ (.int .i64 ((rd_T96 l0 x35_3).f2))).heap[gb189]? = some (.cells #[.int .i64 ((rd_T96 l0 x35_3).f0), .int .i64 ((rd_T96 l0 x35_3).f1), .int .i64 ((rd_T96 l0 x35_3).f2)] 96 (0, 0))) := ⟨by refine blk_put (cs := #[.int .i64 ((rd_T96 l0 x35_3).f0), .int .i64 ((rd_T96 l0 x35_3).f1), .int .i64 0]) ?_ 2 _ rfl; refine blk_put (cs := #[.int .i64 ((rd_T96 l0 x35_3).f0), .int .i64 0, .int .i64 0]) ?_ 1 _ rfl; refine blk_put (cs := #[.int .i64 0, .int .i64 0, .int .i64 0]) ?_ 0 _ rfl; exact BK189.out⟩
      have n4_ : Aside0 (Below w.heap.size w (((w145.setCell ⟨gb189, 0, none⟩ (.int .i64 ((rd_T96 l0 x35_3).f0))).setCell ⟨gb189, 1, none⟩ (.int .i64 ((rd_T96 l0 x35_3).f1))).setCell ⟨gb189, 2, none⟩ (.int .i64 ((rd_T96 l0 x35_3).f2)))) := ⟨by repeat (first | (with_reducible first | exact HB.out | apply below_alloc | apply pw_below_drewN | apply below_drew1 | refine below_set ?_ GE189.out) | exact HB.out)⟩
      (try clear HO_6)
      (try clear HO_7)
      (try clear HO_8)
      (try clear BK189)
      (try clear HB)
      generalize (((w145.setCell ⟨gb189, 0, none⟩ (.int .i64 ((rd_T96 l0 x35_3).f0))).setCell ⟨gb189, 1, none⟩ (.int .i64 ((rd_T96 l0 x35_3).f1))).setCell ⟨gb189, 2, none⟩ (.int .i64 ((rd_T96 l0 x35_3).f2))) = w147 at n0_ n1_ n2_ n3_ n4_ ⊢
      have HO_6 := n0_
      have HO_7 := n1_
      have HO_8 := n2_
      have BK189 := n3_
      have HB := n4_
      clear n0_ n1_ n2_ n3_ n4_
      have n0_ := Aside0.mk (Kd.R_drew HO_6.out)
      have n1_ := Aside0.mk (Kd.R_drew HO_7.out)
      have n2_ := Aside0.mk (Kd.R_drew HO_8.out)
      have n3_ := Aside0.mk (blk_drew BK189.out)
      have n4_ := Aside0.mk (below_drew1 HB.out)
      clear HO_6
      clear HO_7
      clear HO_8
      clear BK189
      clear HB
      have HO_6 := n0_
      have HO_7 := n1_
      have HO_8 := n2_
      have BK189 := n3_
      have HB := n4_
      clear n0_ n1_ n2_ n3_ n4_
      obtain ⟨Ao149, co149, eo149⟩ := Kd.R_slice HO_8.out
      (first | subst eo149 | (injection eo149 with f1_ f2_ f3_; have f4_ := f1_.symm; have f5_ := f3_.symm; clear f1_ f2_ f3_; subst f4_; subst f5_))
      have p199 : 0 ≤ (x35_3 : Int) := of_decide_eq_true (by with_reducible assumption)
      have q199 : x35_3 < (x8_3.length : Int) := of_decide_eq_true (by with_reducible assumption)
      obtain ⟨ad199, e199, hx199_0⟩ := Kd.at_int (Kd.R_reads' HO_8.out).2.2 x35_3 p199 q199
      cases e199
      replace p199 := eq_true p199
      replace q199 := eq_true q199
      refine start_ (n := 19) (S := fun w' => w'.cell? (ad199.add (x35_3).toNat) = some (.int .i64 (rd x8_3 x35_3))) (ds := []) #[oF,oF,oF,oF,oF,oF,oF,oF,oF,oF,oF,oF,oF,oF,oF,oF,oF,oF,oF] (by kernel_rfl) rfl rfl (hx199_0) (fun hHeld => ?_); refine with_tabW impl_TaskSchedule.tab16 impl_TaskSchedule.bits16 (fun HT_ HW_ => ?_)
      generalize w147.drew = w148 at HO_6 HO_7 HO_8 BK189 HB hx199_0 hHeld ⊢
      refine pure_ (i := 0) (N := some 61) (v := ?_) (a' := ?_) #[oT,oF,oF,oF,oF,oF,oF,oF,oF,oF,oF,oF,oF,oF,oF,oF,oF,oF,oF] rfl rfl (any_of HT_.out (by kernel_rfl)) (fun _ _ _ h => h) (Or.inl ⟨by rfl, ?_⟩) ?_ ?_
      rotate_left
      · intro w'
        go_simp
        with_reducible rfl
      rotate_left
      · simp only [Act.put, List.setIfInBounds_toArray, List.set_cons_zero, List.set_cons_succ, i64_w, i32_w]
        rfl
      refine pure_ (i := 1) (N := some 62) (v := ?_) (a' := ?_) #[oT,oT,oF,oF,oF,oF,oF,oF,oF,oF,oF,oF,oF,oF,oF,oF,oF,oF,oF] rfl rfl (any_of HT_.out (by kernel_rfl)) (fun _ _ _ h => h) (Or.inl ⟨by rfl, ?_⟩) ?_ ?_
      rotate_left
      · intro w'
        go_simp
        with_reducible rfl
      rotate_left
      · simp only [Act.put, List.setIfInBounds_toArray, List.set_cons_zero, List.set_cons_succ, i64_w, i32_w]
        rfl
      refine pure_ (i := 2) (N := some 63) (v := ?_) (a' := ?_) #[oT,oT,oT,oF,oF,oF,oF,oF,oF,oF,oF,oF,oF,oF,oF,oF,oF,oF,oF] rfl rfl (any_of HT_.out (by kernel_rfl)) (fun _ _ _ h => h) (Or.inl ⟨by rfl, ?_⟩) ?_ ?_
      rotate_left
      · intro w'
        go_simp
        with_reducible rfl
      rotate_left
      · simp only [Act.put, List.setIfInBounds_toArray, List.set_cons_zero, List.set_cons_succ, i64_w, i32_w]
        rfl
      refine take_ (i := 3) (N := some 64) (v := ?_) (a' := ?_) #[oT,oT,oT,oT,oF,oF,oF,oF,oF,oF,oF,oF,oF,oF,oF,oF,oF,oF,oF] rfl rfl (take_ofW HT_.out HW_.out (by kernel_rfl)) (fun _ _ _ h => h) (Or.inl ⟨by rfl, ?_⟩) hHeld ?_ ?_
      rotate_left
      · intro w' s0
        go_simp
        with_reducible rfl
      rotate_left
      · simp only [Act.put, List.setIfInBounds_toArray, List.set_cons_zero, List.set_cons_succ, i64_w, i32_w]
        rfl
      refine pure_ (i := 4) (N := some 65) (v := ?_) (a' := ?_) #[oT,oT,oT,oT,oT,oF,oF,oF,oF,oF,oF,oF,oF,oF,oF,oF,oF,oF,oF] rfl rfl (any_of HT_.out (by kernel_rfl)) (fun _ _ _ h => h) (Or.inl ⟨by rfl, ?_⟩) ?_ ?_
      rotate_left
      · intro w'
        go_simp
        with_reducible rfl
      rotate_left
      · simp only [Act.put, List.setIfInBounds_toArray, List.set_cons_zero, List.set_cons_succ, i64_w, i32_w]
        rfl
      refine pure_ (i := 5) (N := some 66) (v := ?_) (a' := ?_) #[oT,oT,oT,oT,oT,oT,oF,oF,oF,oF,oF,oF,oF,oF,oF,oF,oF,oF,oF] rfl rfl (any_of HT_.out (by kernel_rfl)) (fun _ _ _ h => h) (Or.inl ⟨by rfl, ?_⟩) ?_ ?_
      rotate_left
      · intro w'
        go_simp
        with_reducible rfl
      rotate_left
      · simp only [Act.put, List.setIfInBounds_toArray, List.set_cons_zero, List.set_cons_succ, i64_w, i32_w]
        rfl
      refine pure_ (i := 6) (N := some 67) (v := undef) (a' := ?_) #[oT,oT,oT,oT,oT,oT,oT,oF,oF,oF,oF,oF,oF,oF,oF,oF,oF,oF,oF] rfl rfl (any_of HT_.out (by kernel_rfl)) (fun _ _ _ h => h) (Or.inr ⟨by rfl, rfl⟩) ?_ ?_
      rotate_left
      · simp only [Act.put, List.setIfInBounds_toArray, List.set_cons_zero, List.set_cons_succ, i64_w, i32_w]
        rfl
      refine pure_ (i := 7) (N := some 68) (v := undef) (a' := ?_) #[oT,oT,oT,oT,oT,oT,oT,oT,oF,oF,oF,oF,oF,oF,oF,oF,oF,oF,oF] rfl rfl (any_of HT_.out (by kernel_rfl)) (fun _ _ _ h => h) (Or.inr ⟨by rfl, rfl⟩) ?_ ?_
      rotate_left
      · simp only [Act.put, List.setIfInBounds_toArray, List.set_cons_zero, List.set_cons_succ, i64_w, i32_w]
        rfl
      refine pure_ (i := 8) (N := some 69) (v := undef) (a' := ?_) #[oT,oT,oT,oT,oT,oT,oT,oT,oT,oF,oF,oF,oF,oF,oF,oF,oF,oF,oF] rfl rfl (any_of HT_.out (by kernel_rfl)) (fun _ _ _ h => h) (Or.inr ⟨by rfl, rfl⟩) ?_ ?_
      rotate_left
      · simp only [Act.put, List.setIfInBounds_toArray, List.set_cons_zero, List.set_cons_succ, i64_w, i32_w]
        rfl
      refine pure_ (i := 9) (N := some 70) (v := undef) (a' := ?_) #[oT,oT,oT,oT,oT,oT,oT,oT,oT,oT,oF,oF,oF,oF,oF,oF,oF,oF,oF] rfl rfl (any_of HT_.out (by kernel_rfl)) (fun _ _ _ h => h) (Or.inr ⟨by rfl, rfl⟩) ?_ ?_
      rotate_left
      · simp only [Act.put, List.setIfInBounds_toArray, List.set_cons_zero, List.set_cons_succ, i64_w, i32_w]
        rfl
      refine pure_ (i := 10) (N := some 71) (v := undef) (a' := ?_) #[oT,oT,oT,oT,oT,oT,oT,oT,oT,oT,oT,oF,oF,oF,oF,oF,oF,oF,oF] rfl rfl (any_of HT_.out (by kernel_rfl)) (fun _ _ _ h => h) (Or.inr ⟨by rfl, rfl⟩) ?_ ?_
      rotate_left
      · simp only [Act.put, List.setIfInBounds_toArray, List.set_cons_zero, List.set_cons_succ, i64_w, i32_w]
        rfl
      refine pure_ (i := 11) (N := some 72) (v := undef) (a' := ?_) #[oT,oT,oT,oT,oT,oT,oT,oT,oT,oT,oT,oT,oF,oF,oF,oF,oF,oF,oF] rfl rfl (any_of HT_.out (by kernel_rfl)) (fun _ _ _ h => h) (Or.inr ⟨by rfl, rfl⟩) ?_ ?_
      rotate_left
      · simp only [Act.put, List.setIfInBounds_toArray, List.set_cons_zero, List.set_cons_succ, i64_w, i32_w]
        rfl
      refine pure_ (i := 12) (N := some 73) (v := undef) (a' := ?_) #[oT,oT,oT,oT,oT,oT,oT,oT,oT,oT,oT,oT,oT,oF,oF,oF,oF,oF,oF] rfl rfl (any_of HT_.out (by kernel_rfl)) (fun _ _ _ h => h) (Or.inr ⟨by rfl, rfl⟩) ?_ ?_
      rotate_left
      · simp only [Act.put, List.setIfInBounds_toArray, List.set_cons_zero, List.set_cons_succ, i64_w, i32_w]
        rfl
      refine pure_ (i := 13) (N := some 74) (v := undef) (a' := ?_) #[oT,oT,oT,oT,oT,oT,oT,oT,oT,oT,oT,oT,oT,oT,oF,oF,oF,oF,oF] rfl rfl (any_of HT_.out (by kernel_rfl)) (fun _ _ _ h => h) (Or.inr ⟨by rfl, rfl⟩) ?_ ?_
      rotate_left
      · simp only [Act.put, List.setIfInBounds_toArray, List.set_cons_zero, List.set_cons_succ, i64_w, i32_w]
        rfl
      refine pure_ (i := 14) (N := some 75) (v := undef) (a' := ?_) #[oT,oT,oT,oT,oT,oT,oT,oT,oT,oT,oT,oT,oT,oT,oT,oF,oF,oF,oF] rfl rfl (any_of HT_.out (by kernel_rfl)) (fun _ _ _ h => h) (Or.inr ⟨by rfl, rfl⟩) ?_ ?_
      rotate_left
      · simp only [Act.put, List.setIfInBounds_toArray, List.set_cons_zero, List.set_cons_succ, i64_w, i32_w]
        rfl
      refine pure_ (i := 15) (N := some 76) (v := undef) (a' := ?_) #[oT,oT,oT,oT,oT,oT,oT,oT,oT,oT,oT,oT,oT,oT,oT,oT,oF,oF,oF] rfl rfl (any_of HT_.out (by kernel_rfl)) (fun _ _ _ h => h) (Or.inr ⟨by rfl, rfl⟩) ?_ ?_
      rotate_left
      · simp only [Act.put, List.setIfInBounds_toArray, List.set_cons_zero, List.set_cons_succ, i64_w, i32_w]
        rfl
      refine pure_ (i := 16) (N := some 77) (v := undef) (a' := ?_) #[oT,oT,oT,oT,oT,oT,oT,oT,oT,oT,oT,oT,oT,oT,oT,oT,oT,oF,oF] rfl rfl (any_of HT_.out (by kernel_rfl)) (fun _ _ _ h => h) (Or.inr ⟨by rfl, rfl⟩) ?_ ?_
      rotate_left
      · simp only [Act.put, List.setIfInBounds_toArray, List.set_cons_zero, List.set_cons_succ, i64_w, i32_w]
        rfl
      refine pure_ (i := 17) (N := some 78) (v := undef) (a' := ?_) #[oT,oT,oT,oT,oT,oT,oT,oT,oT,oT,oT,oT,oT,oT,oT,oT,oT,oT,oF] rfl rfl (any_of HT_.out (by kernel_rfl)) (fun _ _ _ h => h) (Or.inr ⟨by rfl, rfl⟩) ?_ ?_
      rotate_left
      · simp only [Act.put, List.setIfInBounds_toArray, List.set_cons_zero, List.set_cons_succ, i64_w, i32_w]
        rfl
      refine pure_ (i := 18) (N := some 79) (v := ?_) (a' := ?_) #[oT,oT,oT,oT,oT,oT,oT,oT,oT,oT,oT,oT,oT,oT,oT,oT,oT,oT,oT] rfl rfl (any_of HT_.out (by kernel_rfl)) (fun _ _ _ h => h) (Or.inl ⟨by rfl, ?_⟩) ?_ ?_
      rotate_left
      · intro w'
        go_simp
        with_reducible rfl
      rotate_left
      · simp only [Act.put, List.setIfInBounds_toArray, List.set_cons_zero, List.set_cons_succ, i64_w, i32_w]
        rfl
      refine done_ (done_of HT_.out (by kernel_rfl)) ?_
      try go_wp2
      go_roundg k3
      case measure => have := HJ2.out; have := HK2.out; have := HK3.out; omega
      case rel => exact ⟨(x7_3), (x8_3), (x10_3), (wrap64 (x35_3 + 1)), (by first | rfl | (simp; done) | (simp [*]; done)), (by first | rfl | (simp; done) | (simp [*]; done)), H', ⟨by have := HJ2.out; have := HK2.out; have := HK3.out; omega⟩, ⟨by (with_reducible repeat (first | apply Kd.R_alloc | apply Kd.R_drewN | apply Kd.R_drew)); exact HO_6.out⟩, ⟨by (with_reducible repeat (first | apply Kd.R_alloc | apply Kd.R_drewN | apply Kd.R_drew)); exact HO_7.out⟩, ⟨by (with_reducible repeat (first | apply Kd.R_alloc | apply Kd.R_drewN | apply Kd.R_drew)); exact HO_8.out⟩, ⟨by repeat (first | (with_reducible first | exact HB.out | apply below_alloc | apply pw_below_drewN | apply below_drew1 | refine below_set ?_ GE189.out) | exact HB.out)⟩⟩
    rw [if_pos c125] at H
    have c125b0 : decide (0 < (rd x8_3 x35_3)) = true := decide_eq_true c125
    clear c125
    by_cases c126 : x10_3 < 0
    · rw [if_pos c126] at H
      have c126b0 : decide (x10_3 < 0) = true := decide_eq_true c126
      clear c126
      have H' := Aside0.mk H
      clear H
      have p188 : 0 ≤ (x35_3 : Int) := of_decide_eq_true (by with_reducible assumption)
      have q188 : x35_3 < (l0.length : Int) := of_decide_eq_true (by with_reducible assumption)
      obtain ⟨ad188, e188, hx188_0, hx188_1, hx188_2⟩ := at_T96 HR0.out x35_3 p188 q188
      cases e188
      replace hx188_0 := (HB.out.cell (World.block_lt_of_cell? w _ hx188_0)).trans hx188_0
      replace hx188_1 := (HB.out.cell (World.block_lt_of_cell? w _ hx188_1)).trans hx188_1
      replace hx188_2 := (HB.out.cell (World.block_lt_of_cell? w _ hx188_2)).trans hx188_2
      replace p188 := eq_true p188
      replace q188 := eq_true q188
      try go_wp2_with (first | ((with_reducible refine gate_dst (N := 12) rfl ?_); refine box_event ?hg (N := 12) ?hd (cs := #[.int .i64 0, .int .i64 0, .int .i64 0]) (t := 96) ?hr ?_; (case hd => rfl); (case hg => rfl); (case hr => first | (go_simp; done) | (go_simp; rfl)); intro gb189 hg w127 hbox hb; have n0_ := Aside0.mk (Kd.R_below HO_6.out hb); have n1_ := Aside0.mk (Kd.R_below HO_7.out hb); have n2_ := Aside0.mk (Kd.R_below HO_8.out hb); have n3_ := Aside0.mk (below_step HB.out hb); have n4_ := Aside0.mk (hbox); have n5_ := Aside0.mk ((by rw [hg]; exact (below_size HB.out) : w.heap.size ≤ gb189)); have n6_ := Aside0.mk ((by rw [hg]; exact (below_size HB.out) : w.heap.size ≤ gb189)); clear HO_6; clear HO_7; clear HO_8; clear HB; have HO_6 := n0_; have HO_7 := n1_; have HO_8 := n2_; have HB := n3_; have BK189 := n4_; have GW189 := n5_; have GE189 := n6_; clear n0_ n1_ n2_ n3_ n4_ n5_ n6_; clear hb hbox hg; have hcz128_0 : w127.cell? ⟨gb189, 0, none⟩ = some (.int .i64 0) := (blk_cell BK189.out 0).trans rfl; have hcz128_1 : w127.cell? ⟨gb189, 1, none⟩ = some (.int .i64 0) := (blk_cell BK189.out 1).trans rfl; have hcz128_2 : w127.cell? ⟨gb189, 2, none⟩ = some (.int .i64 0) := (blk_cell BK189.out 2).trans rfl; have hfz128_0 := blk_frozen BK189.out 0; have hfz128_1 := blk_frozen BK189.out 1; have hfz128_2 := blk_frozen BK189.out 2))
      have n0_ : Aside0 (Kd.R (Kd.int .i64) 3 (((w127.setCell ⟨gb189, 0, none⟩ (.int .i64 ((rd_T96 l0 x35_3).f0))).setCell ⟨gb189, 1, none⟩ (.int .i64 ((rd_T96 l0 x35_3).f1))).setCell ⟨gb189, 2, none⟩ (.int .i64 ((rd_T96 l0 x35_3).f2))) w.heap.size (fun k_ => some k_ ≠ (v180 : Value).ownBlock ∧ some k_ ≠ (v183 : Value).ownBlock) v177 x6_2) := ⟨by (with_reducible repeat (first | apply Kd.R_alloc | apply Kd.R_drewN | apply Kd.R_drew)); exact Kd.R_mono (Kd.R_far (p := ⟨gb189, 2, none⟩) (Kd.R_far (p := ⟨gb189, 1, none⟩) (Kd.R_far (p := ⟨gb189, 0, none⟩) (Kd.R_types HO_6.out BK189.out (by decide)) (fun _ hk => hk.2) (.int .i64 ((rd_T96 l0 x35_3).f0))) (fun _ hk => hk.2) (.int .i64 ((rd_T96 l0 x35_3).f1))) (fun _ hk => hk.2) (.int .i64 ((rd_T96 l0 x35_3).f2))) (fun _ hk => ⟨hk.1.1, hk.1.2⟩)⟩
      have n1_ : Aside0 (Kd.R (Kd.int .i64) 3 (((w127.setCell ⟨gb189, 0, none⟩ (.int .i64 ((rd_T96 l0 x35_3).f0))).setCell ⟨gb189, 1, none⟩ (.int .i64 ((rd_T96 l0 x35_3).f1))).setCell ⟨gb189, 2, none⟩ (.int .i64 ((rd_T96 l0 x35_3).f2))) w.heap.size (fun k_ => some k_ ≠ (v177 : Value).ownBlock ∧ some k_ ≠ (v183 : Value).ownBlock) v180 x7_3) := ⟨by (with_reducible repeat (first | apply Kd.R_alloc | apply Kd.R_drewN | apply Kd.R_drew)); exact Kd.R_mono (Kd.R_far (p := ⟨gb189, 2, none⟩) (Kd.R_far (p := ⟨gb189, 1, none⟩) (Kd.R_far (p := ⟨gb189, 0, none⟩) (Kd.R_types HO_7.out BK189.out (by decide)) (fun _ hk => hk.2) (.int .i64 ((rd_T96 l0 x35_3).f0))) (fun _ hk => hk.2) (.int .i64 ((rd_T96 l0 x35_3).f1))) (fun _ hk => hk.2) (.int .i64 ((rd_T96 l0 x35_3).f2))) (fun _ hk => ⟨hk.1.1, hk.1.2⟩)⟩
      have n2_ : Aside0 (Kd.R (Kd.int .i64) 3 (((w127.setCell ⟨gb189, 0, none⟩ (.int .i64 ((rd_T96 l0 x35_3).f0))).setCell ⟨gb189, 1, none⟩ (.int .i64 ((rd_T96 l0 x35_3).f1))).setCell ⟨gb189, 2, none⟩ (.int .i64 ((rd_T96 l0 x35_3).f2))) w.heap.size (fun k_ => some k_ ≠ (v177 : Value).ownBlock ∧ some k_ ≠ (v180 : Value).ownBlock) v183 x8_3) := ⟨by (with_reducible repeat (first | apply Kd.R_alloc | apply Kd.R_drewN | apply Kd.R_drew)); exact Kd.R_mono (Kd.R_far (p := ⟨gb189, 2, none⟩) (Kd.R_far (p := ⟨gb189, 1, none⟩) (Kd.R_far (p := ⟨gb189, 0, none⟩) (Kd.R_types HO_8.out BK189.out (by decide)) (fun _ hk => hk.2) (.int .i64 ((rd_T96 l0 x35_3).f0))) (fun _ hk => hk.2) (.int .i64 ((rd_T96 l0 x35_3).f1))) (fun _ hk => hk.2) (.int .i64 ((rd_T96 l0 x35_3).f2))) (fun _ hk => ⟨hk.1.1, hk.1.2⟩)⟩
      have n3_ : Aside0 ((((w127.setCell ⟨gb189, 0, none⟩ (.int .i64 ((rd_T96 l0 x35_3).f0))).setCell ⟨gb189, 1, none⟩ (.int .i64 ((rd_T96 l0 x35_3).f1))).setCell ⟨gb189, 2, none⟩ (.int .i64 ((rd_T96 l0 x35_3).f2))).heap[gb189]? = some (.cells #[.int .i64 ((rd_T96 l0 x35_3).f0), .int .i64 ((rd_T96 l0 x35_3).f1), .int .i64 ((rd_T96 l0 x35_3).f2)] 96 (0, 0))) := ⟨by refine blk_put (cs := #[.int .i64 ((rd_T96 l0 x35_3).f0), .int .i64 ((rd_T96 l0 x35_3).f1), .int .i64 0]) ?_ 2 _ rfl; refine blk_put (cs := #[.int .i64 ((rd_T96 l0 x35_3).f0), .int .i64 0, .int .i64 0]) ?_ 1 _ rfl; refine blk_put (cs := #[.int .i64 0, .int .i64 0, .int .i64 0]) ?_ 0 _ rfl; exact BK189.out⟩
      have n4_ : Aside0 (Below w.heap.size w (((w127.setCell ⟨gb189, 0, none⟩ (.int .i64 ((rd_T96 l0 x35_3).f0))).setCell ⟨gb189, 1, none⟩ (.int .i64 ((rd_T96 l0 x35_3).f1))).setCell ⟨gb189, 2, none⟩ (.int .i64 ((rd_T96 l0 x35_3).f2)))) := ⟨by repeat (first | (with_reducible first | exact HB.out | apply below_alloc | apply pw_below_drewN | apply below_drew1 | refine below_set ?_ GE189.out) | exact HB.out)⟩
      (try clear HO_6)
      (try clear HO_7)
      (try clear HO_8)
      (try clear BK189)
      (try clear HB)
      generalize (((w127.setCell ⟨gb189, 0, none⟩ (.int .i64 ((rd_T96 l0 x35_3).f0))).setCell ⟨gb189, 1, none⟩ (.int .i64 ((rd_T96 l0 x35_3).f1))).setCell ⟨gb189, 2, none⟩ (.int .i64 ((rd_T96 l0 x35_3).f2))) = w129 at n0_ n1_ n2_ n3_ n4_ ⊢
      have HO_6 := n0_
      have HO_7 := n1_
      have HO_8 := n2_
      have BK189 := n3_
      have HB := n4_
      clear n0_ n1_ n2_ n3_ n4_
      have n0_ := Aside0.mk (Kd.R_drew HO_6.out)
      have n1_ := Aside0.mk (Kd.R_drew HO_7.out)
      have n2_ := Aside0.mk (Kd.R_drew HO_8.out)
      have n3_ := Aside0.mk (blk_drew BK189.out)
      have n4_ := Aside0.mk (below_drew1 HB.out)
      clear HO_6
      clear HO_7
      clear HO_8
      clear BK189
      clear HB
      have HO_6 := n0_
      have HO_7 := n1_
      have HO_8 := n2_
      have BK189 := n3_
      have HB := n4_
      clear n0_ n1_ n2_ n3_ n4_
      obtain ⟨Ao131, co131, eo131⟩ := Kd.R_slice HO_8.out
      (first | subst eo131 | (injection eo131 with f1_ f2_ f3_; have f4_ := f1_.symm; have f5_ := f3_.symm; clear f1_ f2_ f3_; subst f4_; subst f5_))
      have p199 : 0 ≤ (x35_3 : Int) := of_decide_eq_true (by with_reducible assumption)
      have q199 : x35_3 < (x8_3.length : Int) := of_decide_eq_true (by with_reducible assumption)
      obtain ⟨ad199, e199, hx199_0⟩ := Kd.at_int (Kd.R_reads' HO_8.out).2.2 x35_3 p199 q199
      cases e199
      replace p199 := eq_true p199
      replace q199 := eq_true q199
      refine start_ (n := 19) (S := fun w' => w'.cell? (ad199.add (x35_3).toNat) = some (.int .i64 (rd x8_3 x35_3))) (ds := []) #[oF,oF,oF,oF,oF,oF,oF,oF,oF,oF,oF,oF,oF,oF,oF,oF,oF,oF,oF] (by kernel_rfl) rfl rfl (hx199_0) (fun hHeld => ?_); refine with_tabW impl_TaskSchedule.tab16 impl_TaskSchedule.bits16 (fun HT_ HW_ => ?_)
      generalize w129.drew = w130 at HO_6 HO_7 HO_8 BK189 HB hx199_0 hHeld ⊢
      refine pure_ (i := 0) (N := some 61) (v := ?_) (a' := ?_) #[oT,oF,oF,oF,oF,oF,oF,oF,oF,oF,oF,oF,oF,oF,oF,oF,oF,oF,oF] rfl rfl (any_of HT_.out (by kernel_rfl)) (fun _ _ _ h => h) (Or.inl ⟨by rfl, ?_⟩) ?_ ?_
      rotate_left
      · intro w'
        go_simp
        with_reducible rfl
      rotate_left
      · simp only [Act.put, List.setIfInBounds_toArray, List.set_cons_zero, List.set_cons_succ, i64_w, i32_w]
        rfl
      refine pure_ (i := 1) (N := some 62) (v := ?_) (a' := ?_) #[oT,oT,oF,oF,oF,oF,oF,oF,oF,oF,oF,oF,oF,oF,oF,oF,oF,oF,oF] rfl rfl (any_of HT_.out (by kernel_rfl)) (fun _ _ _ h => h) (Or.inl ⟨by rfl, ?_⟩) ?_ ?_
      rotate_left
      · intro w'
        go_simp
        with_reducible rfl
      rotate_left
      · simp only [Act.put, List.setIfInBounds_toArray, List.set_cons_zero, List.set_cons_succ, i64_w, i32_w]
        rfl
      refine pure_ (i := 2) (N := some 63) (v := ?_) (a' := ?_) #[oT,oT,oT,oF,oF,oF,oF,oF,oF,oF,oF,oF,oF,oF,oF,oF,oF,oF,oF] rfl rfl (any_of HT_.out (by kernel_rfl)) (fun _ _ _ h => h) (Or.inl ⟨by rfl, ?_⟩) ?_ ?_
      rotate_left
      · intro w'
        go_simp
        with_reducible rfl
      rotate_left
      · simp only [Act.put, List.setIfInBounds_toArray, List.set_cons_zero, List.set_cons_succ, i64_w, i32_w]
        rfl
      refine take_ (i := 3) (N := some 64) (v := ?_) (a' := ?_) #[oT,oT,oT,oT,oF,oF,oF,oF,oF,oF,oF,oF,oF,oF,oF,oF,oF,oF,oF] rfl rfl (take_ofW HT_.out HW_.out (by kernel_rfl)) (fun _ _ _ h => h) (Or.inl ⟨by rfl, ?_⟩) hHeld ?_ ?_
      rotate_left
      · intro w' s0
        go_simp
        with_reducible rfl
      rotate_left
      · simp only [Act.put, List.setIfInBounds_toArray, List.set_cons_zero, List.set_cons_succ, i64_w, i32_w]
        rfl
      refine pure_ (i := 4) (N := some 65) (v := ?_) (a' := ?_) #[oT,oT,oT,oT,oT,oF,oF,oF,oF,oF,oF,oF,oF,oF,oF,oF,oF,oF,oF] rfl rfl (any_of HT_.out (by kernel_rfl)) (fun _ _ _ h => h) (Or.inl ⟨by rfl, ?_⟩) ?_ ?_
      rotate_left
      · intro w'
        go_simp
        with_reducible rfl
      rotate_left
      · simp only [Act.put, List.setIfInBounds_toArray, List.set_cons_zero, List.set_cons_succ, i64_w, i32_w]
        rfl
      refine pure_ (i := 5) (N := some 66) (v := ?_) (a' := ?_) #[oT,oT,oT,oT,oT,oT,oF,oF,oF,oF,oF,oF,oF,oF,oF,oF,oF,oF,oF] rfl rfl (any_of HT_.out (by kernel_rfl)) (fun _ _ _ h => h) (Or.inl ⟨by rfl, ?_⟩) ?_ ?_
      rotate_left
      · intro w'
        go_simp
        with_reducible rfl
      rotate_left
      · simp only [Act.put, List.setIfInBounds_toArray, List.set_cons_zero, List.set_cons_succ, i64_w, i32_w]
        rfl
      refine pure_ (i := 6) (N := some 67) (v := ?_) (a' := ?_) #[oT,oT,oT,oT,oT,oT,oT,oF,oF,oF,oF,oF,oF,oF,oF,oF,oF,oF,oF] rfl rfl (any_of HT_.out (by kernel_rfl)) (fun _ _ _ h => h) (Or.inl ⟨by rfl, ?_⟩) ?_ ?_
      rotate_left
      · intro w'
        go_simp
        with_reducible rfl
      rotate_left
      · simp only [Act.put, List.setIfInBounds_toArray, List.set_cons_zero, List.set_cons_succ, i64_w, i32_w]
        rfl
      refine pure_ (i := 7) (N := some 68) (v := ?_) (a' := ?_) #[oT,oT,oT,oT,oT,oT,oT,oT,oF,oF,oF,oF,oF,oF,oF,oF,oF,oF,oF] rfl rfl (any_of HT_.out (by kernel_rfl)) (fun _ _ _ h => h) (Or.inl ⟨by rfl, ?_⟩) ?_ ?_
      rotate_left
      · intro w'
        go_simp
        with_reducible rfl
      rotate_left
      · simp only [Act.put, List.setIfInBounds_toArray, List.set_cons_zero, List.set_cons_succ, i64_w, i32_w]
        rfl
      refine pure_ (i := 8) (N := some 69) (v := ?_) (a' := ?_) #[oT,oT,oT,oT,oT,oT,oT,oT,oT,oF,oF,oF,oF,oF,oF,oF,oF,oF,oF] rfl rfl (any_of HT_.out (by kernel_rfl)) (fun _ _ _ h => h) (Or.inl ⟨by rfl, ?_⟩) ?_ ?_
      rotate_left
      · intro w'
        go_simp
        with_reducible rfl
      rotate_left
      · simp only [Act.put, List.setIfInBounds_toArray, List.set_cons_zero, List.set_cons_succ, i64_w, i32_w]
        rfl
      refine pure_ (i := 9) (N := some 70) (v := undef) (a' := ?_) #[oT,oT,oT,oT,oT,oT,oT,oT,oT,oT,oF,oF,oF,oF,oF,oF,oF,oF,oF] rfl rfl (any_of HT_.out (by kernel_rfl)) (fun _ _ _ h => h) (Or.inr ⟨by rfl, rfl⟩) ?_ ?_
      rotate_left
      · simp only [Act.put, List.setIfInBounds_toArray, List.set_cons_zero, List.set_cons_succ, i64_w, i32_w]
        rfl
      refine pure_ (i := 10) (N := some 71) (v := undef) (a' := ?_) #[oT,oT,oT,oT,oT,oT,oT,oT,oT,oT,oT,oF,oF,oF,oF,oF,oF,oF,oF] rfl rfl (any_of HT_.out (by kernel_rfl)) (fun _ _ _ h => h) (Or.inr ⟨by rfl, rfl⟩) ?_ ?_
      rotate_left
      · simp only [Act.put, List.setIfInBounds_toArray, List.set_cons_zero, List.set_cons_succ, i64_w, i32_w]
        rfl
      refine pure_ (i := 11) (N := some 72) (v := undef) (a' := ?_) #[oT,oT,oT,oT,oT,oT,oT,oT,oT,oT,oT,oT,oF,oF,oF,oF,oF,oF,oF] rfl rfl (any_of HT_.out (by kernel_rfl)) (fun _ _ _ h => h) (Or.inr ⟨by rfl, rfl⟩) ?_ ?_
      rotate_left
      · simp only [Act.put, List.setIfInBounds_toArray, List.set_cons_zero, List.set_cons_succ, i64_w, i32_w]
        rfl
      refine pure_ (i := 12) (N := some 73) (v := undef) (a' := ?_) #[oT,oT,oT,oT,oT,oT,oT,oT,oT,oT,oT,oT,oT,oF,oF,oF,oF,oF,oF] rfl rfl (any_of HT_.out (by kernel_rfl)) (fun _ _ _ h => h) (Or.inr ⟨by rfl, rfl⟩) ?_ ?_
      rotate_left
      · simp only [Act.put, List.setIfInBounds_toArray, List.set_cons_zero, List.set_cons_succ, i64_w, i32_w]
        rfl
      refine pure_ (i := 13) (N := some 74) (v := undef) (a' := ?_) #[oT,oT,oT,oT,oT,oT,oT,oT,oT,oT,oT,oT,oT,oT,oF,oF,oF,oF,oF] rfl rfl (any_of HT_.out (by kernel_rfl)) (fun _ _ _ h => h) (Or.inr ⟨by rfl, rfl⟩) ?_ ?_
      rotate_left
      · simp only [Act.put, List.setIfInBounds_toArray, List.set_cons_zero, List.set_cons_succ, i64_w, i32_w]
        rfl
      refine pure_ (i := 14) (N := some 75) (v := undef) (a' := ?_) #[oT,oT,oT,oT,oT,oT,oT,oT,oT,oT,oT,oT,oT,oT,oT,oF,oF,oF,oF] rfl rfl (any_of HT_.out (by kernel_rfl)) (fun _ _ _ h => h) (Or.inr ⟨by rfl, rfl⟩) ?_ ?_
      rotate_left
      · simp only [Act.put, List.setIfInBounds_toArray, List.set_cons_zero, List.set_cons_succ, i64_w, i32_w]
        rfl
      refine pure_ (i := 15) (N := some 76) (v := undef) (a' := ?_) #[oT,oT,oT,oT,oT,oT,oT,oT,oT,oT,oT,oT,oT,oT,oT,oT,oF,oF,oF] rfl rfl (any_of HT_.out (by kernel_rfl)) (fun _ _ _ h => h) (Or.inr ⟨by rfl, rfl⟩) ?_ ?_
      rotate_left
      · simp only [Act.put, List.setIfInBounds_toArray, List.set_cons_zero, List.set_cons_succ, i64_w, i32_w]
        rfl
      refine pure_ (i := 16) (N := some 77) (v := undef) (a' := ?_) #[oT,oT,oT,oT,oT,oT,oT,oT,oT,oT,oT,oT,oT,oT,oT,oT,oT,oF,oF] rfl rfl (any_of HT_.out (by kernel_rfl)) (fun _ _ _ h => h) (Or.inr ⟨by rfl, rfl⟩) ?_ ?_
      rotate_left
      · simp only [Act.put, List.setIfInBounds_toArray, List.set_cons_zero, List.set_cons_succ, i64_w, i32_w]
        rfl
      refine pure_ (i := 17) (N := some 78) (v := ?_) (a' := ?_) #[oT,oT,oT,oT,oT,oT,oT,oT,oT,oT,oT,oT,oT,oT,oT,oT,oT,oT,oF] rfl rfl (any_of HT_.out (by kernel_rfl)) (fun _ _ _ h => h) (Or.inl ⟨by rfl, ?_⟩) ?_ ?_
      rotate_left
      · intro w'
        go_simp
        with_reducible rfl
      rotate_left
      · simp only [Act.put, List.setIfInBounds_toArray, List.set_cons_zero, List.set_cons_succ, i64_w, i32_w]
        rfl
      refine pure_ (i := 18) (N := some 79) (v := ?_) (a' := ?_) #[oT,oT,oT,oT,oT,oT,oT,oT,oT,oT,oT,oT,oT,oT,oT,oT,oT,oT,oT] rfl rfl (any_of HT_.out (by kernel_rfl)) (fun _ _ _ h => h) (Or.inl ⟨by rfl, ?_⟩) ?_ ?_
      rotate_left
      · intro w'
        go_simp
        with_reducible rfl
      rotate_left
      · simp only [Act.put, List.setIfInBounds_toArray, List.set_cons_zero, List.set_cons_succ, i64_w, i32_w]
        rfl
      refine done_ (done_of HT_.out (by kernel_rfl)) ?_
      try go_wp2
      go_roundg k3
      case measure => have := HJ2.out; have := HK2.out; have := HK3.out; omega
      case rel => exact ⟨(x7_3), (x8_3), (x35_3), (wrap64 (x35_3 + 1)), (by first | rfl | (simp; done) | (simp [*]; done)), (by first | rfl | (simp; done) | (simp [*]; done)), H', ⟨by have := HJ2.out; have := HK2.out; have := HK3.out; omega⟩, ⟨by (with_reducible repeat (first | apply Kd.R_alloc | apply Kd.R_drewN | apply Kd.R_drew)); exact HO_6.out⟩, ⟨by (with_reducible repeat (first | apply Kd.R_alloc | apply Kd.R_drewN | apply Kd.R_drew)); exact HO_7.out⟩, ⟨by (with_reducible repeat (first | apply Kd.R_alloc | apply Kd.R_drewN | apply Kd.R_drew)); exact HO_8.out⟩, ⟨by repeat (first | (with_reducible first | exact HB.out | apply below_alloc | apply pw_below_drewN | apply below_drew1 | refine below_set ?_ GE189.out) | exact HB.out)⟩⟩
    rw [if_neg c126] at H
    have c126b0 : decide (x10_3 < 0) = false := decide_eq_false c126
    clear c126
    by_cases c132 : 0 ≤ x10_3
    rotate_left
    · rw [if_neg c132] at H
      exact absurd H (by simp)
    rw [if_pos c132] at H
    have c132b0 : decide (0 ≤ x10_3) = true := decide_eq_true c132
    clear c132
    by_cases c133 : x10_3 < (l0.length : Int)
    rotate_left
    · rw [if_neg c133] at H
      exact absurd H (by simp)
    rw [if_pos c133] at H
    have c133b0 : decide (x10_3 < (l0.length : Int)) = true := decide_eq_true c133
    clear c133
    by_cases c134 : ((rd_T96 l0 x35_3).f2) < ((rd_T96 l0 x10_3).f2)
    · rw [if_pos c134] at H
      have c134b0 : decide (((rd_T96 l0 x35_3).f2) < ((rd_T96 l0 x10_3).f2)) = true := decide_eq_true c134
      clear c134
      have H' := Aside0.mk H
      clear H
      have p188 : 0 ≤ (x35_3 : Int) := of_decide_eq_true (by with_reducible assumption)
      have q188 : x35_3 < (l0.length : Int) := of_decide_eq_true (by with_reducible assumption)
      obtain ⟨ad188, e188, hx188_0, hx188_1, hx188_2⟩ := at_T96 HR0.out x35_3 p188 q188
      cases e188
      replace hx188_0 := (HB.out.cell (World.block_lt_of_cell? w _ hx188_0)).trans hx188_0
      replace hx188_1 := (HB.out.cell (World.block_lt_of_cell? w _ hx188_1)).trans hx188_1
      replace hx188_2 := (HB.out.cell (World.block_lt_of_cell? w _ hx188_2)).trans hx188_2
      replace p188 := eq_true p188
      replace q188 := eq_true q188
      try go_wp2_with (first | ((with_reducible refine gate_dst (N := 12) rfl ?_); refine box_event ?hg (N := 12) ?hd (cs := #[.int .i64 0, .int .i64 0, .int .i64 0]) (t := 96) ?hr ?_; (case hd => rfl); (case hg => rfl); (case hr => first | (go_simp; done) | (go_simp; rfl)); intro gb189 hg w135 hbox hb; have n0_ := Aside0.mk (Kd.R_below HO_6.out hb); have n1_ := Aside0.mk (Kd.R_below HO_7.out hb); have n2_ := Aside0.mk (Kd.R_below HO_8.out hb); have n3_ := Aside0.mk (below_step HB.out hb); have n4_ := Aside0.mk (hbox); have n5_ := Aside0.mk ((by rw [hg]; exact (below_size HB.out) : w.heap.size ≤ gb189)); have n6_ := Aside0.mk ((by rw [hg]; exact (below_size HB.out) : w.heap.size ≤ gb189)); clear HO_6; clear HO_7; clear HO_8; clear HB; have HO_6 := n0_; have HO_7 := n1_; have HO_8 := n2_; have HB := n3_; have BK189 := n4_; have GW189 := n5_; have GE189 := n6_; clear n0_ n1_ n2_ n3_ n4_ n5_ n6_; clear hb hbox hg; have hcz136_0 : w135.cell? ⟨gb189, 0, none⟩ = some (.int .i64 0) := (blk_cell BK189.out 0).trans rfl; have hcz136_1 : w135.cell? ⟨gb189, 1, none⟩ = some (.int .i64 0) := (blk_cell BK189.out 1).trans rfl; have hcz136_2 : w135.cell? ⟨gb189, 2, none⟩ = some (.int .i64 0) := (blk_cell BK189.out 2).trans rfl; have hfz136_0 := blk_frozen BK189.out 0; have hfz136_1 := blk_frozen BK189.out 1; have hfz136_2 := blk_frozen BK189.out 2))
      have n0_ : Aside0 (Kd.R (Kd.int .i64) 3 (((w135.setCell ⟨gb189, 0, none⟩ (.int .i64 ((rd_T96 l0 x35_3).f0))).setCell ⟨gb189, 1, none⟩ (.int .i64 ((rd_T96 l0 x35_3).f1))).setCell ⟨gb189, 2, none⟩ (.int .i64 ((rd_T96 l0 x35_3).f2))) w.heap.size (fun k_ => some k_ ≠ (v180 : Value).ownBlock ∧ some k_ ≠ (v183 : Value).ownBlock) v177 x6_2) := ⟨by (with_reducible repeat (first | apply Kd.R_alloc | apply Kd.R_drewN | apply Kd.R_drew)); exact Kd.R_mono (Kd.R_far (p := ⟨gb189, 2, none⟩) (Kd.R_far (p := ⟨gb189, 1, none⟩) (Kd.R_far (p := ⟨gb189, 0, none⟩) (Kd.R_types HO_6.out BK189.out (by decide)) (fun _ hk => hk.2) (.int .i64 ((rd_T96 l0 x35_3).f0))) (fun _ hk => hk.2) (.int .i64 ((rd_T96 l0 x35_3).f1))) (fun _ hk => hk.2) (.int .i64 ((rd_T96 l0 x35_3).f2))) (fun _ hk => ⟨hk.1.1, hk.1.2⟩)⟩
      have n1_ : Aside0 (Kd.R (Kd.int .i64) 3 (((w135.setCell ⟨gb189, 0, none⟩ (.int .i64 ((rd_T96 l0 x35_3).f0))).setCell ⟨gb189, 1, none⟩ (.int .i64 ((rd_T96 l0 x35_3).f1))).setCell ⟨gb189, 2, none⟩ (.int .i64 ((rd_T96 l0 x35_3).f2))) w.heap.size (fun k_ => some k_ ≠ (v177 : Value).ownBlock ∧ some k_ ≠ (v183 : Value).ownBlock) v180 x7_3) := ⟨by (with_reducible repeat (first | apply Kd.R_alloc | apply Kd.R_drewN | apply Kd.R_drew)); exact Kd.R_mono (Kd.R_far (p := ⟨gb189, 2, none⟩) (Kd.R_far (p := ⟨gb189, 1, none⟩) (Kd.R_far (p := ⟨gb189, 0, none⟩) (Kd.R_types HO_7.out BK189.out (by decide)) (fun _ hk => hk.2) (.int .i64 ((rd_T96 l0 x35_3).f0))) (fun _ hk => hk.2) (.int .i64 ((rd_T96 l0 x35_3).f1))) (fun _ hk => hk.2) (.int .i64 ((rd_T96 l0 x35_3).f2))) (fun _ hk => ⟨hk.1.1, hk.1.2⟩)⟩
      have n2_ : Aside0 (Kd.R (Kd.int .i64) 3 (((w135.setCell ⟨gb189, 0, none⟩ (.int .i64 ((rd_T96 l0 x35_3).f0))).setCell ⟨gb189, 1, none⟩ (.int .i64 ((rd_T96 l0 x35_3).f1))).setCell ⟨gb189, 2, none⟩ (.int .i64 ((rd_T96 l0 x35_3).f2))) w.heap.size (fun k_ => some k_ ≠ (v177 : Value).ownBlock ∧ some k_ ≠ (v180 : Value).ownBlock) v183 x8_3) := ⟨by (with_reducible repeat (first | apply Kd.R_alloc | apply Kd.R_drewN | apply Kd.R_drew)); exact Kd.R_mono (Kd.R_far (p := ⟨gb189, 2, none⟩) (Kd.R_far (p := ⟨gb189, 1, none⟩) (Kd.R_far (p := ⟨gb189, 0, none⟩) (Kd.R_types HO_8.out BK189.out (by decide)) (fun _ hk => hk.2) (.int .i64 ((rd_T96 l0 x35_3).f0))) (fun _ hk => hk.2) (.int .i64 ((rd_T96 l0 x35_3).f1))) (fun _ hk => hk.2) (.int .i64 ((rd_T96 l0 x35_3).f2))) (fun _ hk => ⟨hk.1.1, hk.1.2⟩)⟩
      have n3_ : Aside0 ((((w135.setCell ⟨gb189, 0, none⟩ (.int .i64 ((rd_T96 l0 x35_3).f0))).setCell ⟨gb189, 1, none⟩ (.int .i64 ((rd_T96 l0 x35_3).f1))).setCell ⟨gb189, 2, none⟩ (.int .i64 ((rd_T96 l0 x35_3).f2))).heap[gb189]? = some (.cells #[.int .i64 ((rd_T96 l0 x35_3).f0), .int .i64 ((rd_T96 l0 x35_3).f1), .int .i64 ((rd_T96 l0 x35_3).f2)] 96 (0, 0))) := ⟨by refine blk_put (cs := #[.int .i64 ((rd_T96 l0 x35_3).f0), .int .i64 ((rd_T96 l0 x35_3).f1), .int .i64 0]) ?_ 2 _ rfl; refine blk_put (cs := #[.int .i64 ((rd_T96 l0 x35_3).f0), .int .i64 0, .int .i64 0]) ?_ 1 _ rfl; refine blk_put (cs := #[.int .i64 0, .int .i64 0, .int .i64 0]) ?_ 0 _ rfl; exact BK189.out⟩
      have n4_ : Aside0 (Below w.heap.size w (((w135.setCell ⟨gb189, 0, none⟩ (.int .i64 ((rd_T96 l0 x35_3).f0))).setCell ⟨gb189, 1, none⟩ (.int .i64 ((rd_T96 l0 x35_3).f1))).setCell ⟨gb189, 2, none⟩ (.int .i64 ((rd_T96 l0 x35_3).f2)))) := ⟨by repeat (first | (with_reducible first | exact HB.out | apply below_alloc | apply pw_below_drewN | apply below_drew1 | refine below_set ?_ GE189.out) | exact HB.out)⟩
      (try clear HO_6)
      (try clear HO_7)
      (try clear HO_8)
      (try clear BK189)
      (try clear HB)
      generalize (((w135.setCell ⟨gb189, 0, none⟩ (.int .i64 ((rd_T96 l0 x35_3).f0))).setCell ⟨gb189, 1, none⟩ (.int .i64 ((rd_T96 l0 x35_3).f1))).setCell ⟨gb189, 2, none⟩ (.int .i64 ((rd_T96 l0 x35_3).f2))) = w137 at n0_ n1_ n2_ n3_ n4_ ⊢
      have HO_6 := n0_
      have HO_7 := n1_
      have HO_8 := n2_
      have BK189 := n3_
      have HB := n4_
      clear n0_ n1_ n2_ n3_ n4_
      have n0_ := Aside0.mk (Kd.R_drew HO_6.out)
      have n1_ := Aside0.mk (Kd.R_drew HO_7.out)
      have n2_ := Aside0.mk (Kd.R_drew HO_8.out)
      have n3_ := Aside0.mk (blk_drew BK189.out)
      have n4_ := Aside0.mk (below_drew1 HB.out)
      clear HO_6
      clear HO_7
      clear HO_8
      clear BK189
      clear HB
      have HO_6 := n0_
      have HO_7 := n1_
      have HO_8 := n2_
      have BK189 := n3_
      have HB := n4_
      clear n0_ n1_ n2_ n3_ n4_
      obtain ⟨Ao139, co139, eo139⟩ := Kd.R_slice HO_8.out
      (first | subst eo139 | (injection eo139 with f1_ f2_ f3_; have f4_ := f1_.symm; have f5_ := f3_.symm; clear f1_ f2_ f3_; subst f4_; subst f5_))
      have p199 : 0 ≤ (x35_3 : Int) := of_decide_eq_true (by with_reducible assumption)
      have q199 : x35_3 < (x8_3.length : Int) := of_decide_eq_true (by with_reducible assumption)
      obtain ⟨ad199, e199, hx199_0⟩ := Kd.at_int (Kd.R_reads' HO_8.out).2.2 x35_3 p199 q199
      cases e199
      replace p199 := eq_true p199
      replace q199 := eq_true q199
      have p200 : 0 ≤ (x10_3 : Int) := of_decide_eq_true (by with_reducible assumption)
      have q200 : x10_3 < (l0.length : Int) := of_decide_eq_true (by with_reducible assumption)
      obtain ⟨ad200, e200, hx200_0, hx200_1, hx200_2⟩ := at_T96 HR0.out x10_3 p200 q200
      have hw200_2 := hx200_2
      have hw200_1 := hx200_1
      have hw200_0 := hx200_0
      obtain rfl : ad188 = ad200 := (by injection e200)
      replace hx200_0 := (HB.out.cell (World.block_lt_of_cell? w _ hx200_0)).trans hx200_0
      replace hx200_1 := (HB.out.cell (World.block_lt_of_cell? w _ hx200_1)).trans hx200_1
      replace hx200_2 := (HB.out.cell (World.block_lt_of_cell? w _ hx200_2)).trans hx200_2
      replace p200 := eq_true p200
      replace q200 := eq_true q200
      refine start_ (n := 19) (S := fun w' => w'.cell? ⟨gb189, 0, none⟩ = some (.int .i64 ((rd_T96 l0 x35_3).f0)) ∧ w'.cell? ⟨gb189, 1, none⟩ = some (.int .i64 ((rd_T96 l0 x35_3).f1)) ∧ w'.cell? ⟨gb189, 2, none⟩ = some (.int .i64 ((rd_T96 l0 x35_3).f2)) ∧ w'.cell? (ad199.add (x35_3).toNat) = some (.int .i64 (rd x8_3 x35_3)) ∧ w'.cell? (ad188.add ((x10_3).toNat * 3)) = some (.int .i64 ((rd_T96 l0 x10_3).f0)) ∧ w'.cell? ⟨(ad188.add ((x10_3).toNat * 3)).block, (ad188.add ((x10_3).toNat * 3)).off + 1, none⟩ = some (.int .i64 ((rd_T96 l0 x10_3).f1)) ∧ w'.cell? ⟨(ad188.add ((x10_3).toNat * 3)).block, (ad188.add ((x10_3).toNat * 3)).off + 2, none⟩ = some (.int .i64 ((rd_T96 l0 x10_3).f2))) (ds := []) #[oF,oF,oF,oF,oF,oF,oF,oF,oF,oF,oF,oF,oF,oF,oF,oF,oF,oF,oF] (by kernel_rfl) rfl rfl ⟨(blk_cell BK189.out 0).trans rfl, (blk_cell BK189.out 1).trans rfl, (blk_cell BK189.out 2).trans rfl, hx199_0, ((HB.out.cell (World.block_lt_of_cell? w _ hw200_0)).trans hw200_0), ((HB.out.cell (World.block_lt_of_cell? w _ hw200_1)).trans hw200_1), ((HB.out.cell (World.block_lt_of_cell? w _ hw200_2)).trans hw200_2)⟩ (fun hHeld => ?_); refine with_tabW impl_TaskSchedule.tab16 impl_TaskSchedule.bits16 (fun HT_ HW_ => ?_)
      generalize w137.drew = w138 at HO_6 HO_7 HO_8 BK189 HB hx199_0 hx200_0 hx200_1 hx200_2 hHeld ⊢
      refine pure_ (i := 0) (N := some 61) (v := ?_) (a' := ?_) #[oT,oF,oF,oF,oF,oF,oF,oF,oF,oF,oF,oF,oF,oF,oF,oF,oF,oF,oF] rfl rfl (any_of HT_.out (by kernel_rfl)) (fun _ _ _ h => h) (Or.inl ⟨by rfl, ?_⟩) ?_ ?_
      rotate_left
      · intro w'
        go_simp
        with_reducible rfl
      rotate_left
      · simp only [Act.put, List.setIfInBounds_toArray, List.set_cons_zero, List.set_cons_succ, i64_w, i32_w]
        rfl
      refine pure_ (i := 1) (N := some 62) (v := ?_) (a' := ?_) #[oT,oT,oF,oF,oF,oF,oF,oF,oF,oF,oF,oF,oF,oF,oF,oF,oF,oF,oF] rfl rfl (any_of HT_.out (by kernel_rfl)) (fun _ _ _ h => h) (Or.inl ⟨by rfl, ?_⟩) ?_ ?_
      rotate_left
      · intro w'
        go_simp
        with_reducible rfl
      rotate_left
      · simp only [Act.put, List.setIfInBounds_toArray, List.set_cons_zero, List.set_cons_succ, i64_w, i32_w]
        rfl
      refine pure_ (i := 2) (N := some 63) (v := ?_) (a' := ?_) #[oT,oT,oT,oF,oF,oF,oF,oF,oF,oF,oF,oF,oF,oF,oF,oF,oF,oF,oF] rfl rfl (any_of HT_.out (by kernel_rfl)) (fun _ _ _ h => h) (Or.inl ⟨by rfl, ?_⟩) ?_ ?_
      rotate_left
      · intro w'
        go_simp
        with_reducible rfl
      rotate_left
      · simp only [Act.put, List.setIfInBounds_toArray, List.set_cons_zero, List.set_cons_succ, i64_w, i32_w]
        rfl
      refine take_ (i := 3) (N := some 64) (v := ?_) (a' := ?_) #[oT,oT,oT,oT,oF,oF,oF,oF,oF,oF,oF,oF,oF,oF,oF,oF,oF,oF,oF] rfl rfl (take_ofW HT_.out HW_.out (by kernel_rfl)) (fun _ _ _ h => h) (Or.inl ⟨by rfl, ?_⟩) hHeld ?_ ?_
      rotate_left
      · rintro w' ⟨s0, s1, s2, s3, s4, s5, s6⟩
        go_simp
        with_reducible rfl
      rotate_left
      · simp only [Act.put, List.setIfInBounds_toArray, List.set_cons_zero, List.set_cons_succ, i64_w, i32_w]
        rfl
      refine pure_ (i := 4) (N := some 65) (v := ?_) (a' := ?_) #[oT,oT,oT,oT,oT,oF,oF,oF,oF,oF,oF,oF,oF,oF,oF,oF,oF,oF,oF] rfl rfl (any_of HT_.out (by kernel_rfl)) (fun _ _ _ h => h) (Or.inl ⟨by rfl, ?_⟩) ?_ ?_
      rotate_left
      · intro w'
        go_simp
        with_reducible rfl
      rotate_left
      · simp only [Act.put, List.setIfInBounds_toArray, List.set_cons_zero, List.set_cons_succ, i64_w, i32_w]
        rfl
      refine pure_ (i := 5) (N := some 66) (v := ?_) (a' := ?_) #[oT,oT,oT,oT,oT,oT,oF,oF,oF,oF,oF,oF,oF,oF,oF,oF,oF,oF,oF] rfl rfl (any_of HT_.out (by kernel_rfl)) (fun _ _ _ h => h) (Or.inl ⟨by rfl, ?_⟩) ?_ ?_
      rotate_left
      · intro w'
        go_simp
        with_reducible rfl
      rotate_left
      · simp only [Act.put, List.setIfInBounds_toArray, List.set_cons_zero, List.set_cons_succ, i64_w, i32_w]
        rfl
      refine pure_ (i := 6) (N := some 67) (v := ?_) (a' := ?_) #[oT,oT,oT,oT,oT,oT,oT,oF,oF,oF,oF,oF,oF,oF,oF,oF,oF,oF,oF] rfl rfl (any_of HT_.out (by kernel_rfl)) (fun _ _ _ h => h) (Or.inl ⟨by rfl, ?_⟩) ?_ ?_
      rotate_left
      · intro w'
        go_simp
        with_reducible rfl
      rotate_left
      · simp only [Act.put, List.setIfInBounds_toArray, List.set_cons_zero, List.set_cons_succ, i64_w, i32_w]
        rfl
      refine pure_ (i := 7) (N := some 68) (v := ?_) (a' := ?_) #[oT,oT,oT,oT,oT,oT,oT,oT,oF,oF,oF,oF,oF,oF,oF,oF,oF,oF,oF] rfl rfl (any_of HT_.out (by kernel_rfl)) (fun _ _ _ h => h) (Or.inl ⟨by rfl, ?_⟩) ?_ ?_
      rotate_left
      · intro w'
        go_simp
        with_reducible rfl
      rotate_left
      · simp only [Act.put, List.setIfInBounds_toArray, List.set_cons_zero, List.set_cons_succ, i64_w, i32_w]
        rfl
      refine pure_ (i := 8) (N := some 69) (v := ?_) (a' := ?_) #[oT,oT,oT,oT,oT,oT,oT,oT,oT,oF,oF,oF,oF,oF,oF,oF,oF,oF,oF] rfl rfl (any_of HT_.out (by kernel_rfl)) (fun _ _ _ h => h) (Or.inl ⟨by rfl, ?_⟩) ?_ ?_
      rotate_left
      · intro w'
        go_simp
        with_reducible rfl
      rotate_left
      · simp only [Act.put, List.setIfInBounds_toArray, List.set_cons_zero, List.set_cons_succ, i64_w, i32_w]
        rfl
      refine pure_ (i := 9) (N := some 70) (v := ?_) (a' := ?_) #[oT,oT,oT,oT,oT,oT,oT,oT,oT,oT,oF,oF,oF,oF,oF,oF,oF,oF,oF] rfl rfl (any_of HT_.out (by kernel_rfl)) (fun _ _ _ h => h) (Or.inl ⟨by rfl, ?_⟩) ?_ ?_
      rotate_left
      · intro w'
        go_simp
        with_reducible rfl
      rotate_left
      · simp only [Act.put, List.setIfInBounds_toArray, List.set_cons_zero, List.set_cons_succ, i64_w, i32_w]
        rfl
      refine pure_ (i := 11) (N := some 72) (v := ?_) (a' := ?_) #[oT,oT,oT,oT,oT,oT,oT,oT,oT,oT,oF,oT,oF,oF,oF,oF,oF,oF,oF] rfl rfl (any_of HT_.out (by kernel_rfl)) (fun _ _ _ h => h) (Or.inl ⟨by rfl, ?_⟩) ?_ ?_
      rotate_left
      · intro w'
        go_simp
        with_reducible rfl
      rotate_left
      · simp only [Act.put, List.setIfInBounds_toArray, List.set_cons_zero, List.set_cons_succ, i64_w, i32_w]
        rfl
      refine pure_ (i := 12) (N := some 73) (v := ?_) (a' := ?_) #[oT,oT,oT,oT,oT,oT,oT,oT,oT,oT,oF,oT,oT,oF,oF,oF,oF,oF,oF] rfl rfl (any_of HT_.out (by kernel_rfl)) (fun _ _ _ h => h) (Or.inl ⟨by rfl, ?_⟩) ?_ ?_
      rotate_left
      · intro w'
        go_simp
        with_reducible rfl
      rotate_left
      · simp only [Act.put, List.setIfInBounds_toArray, List.set_cons_zero, List.set_cons_succ, i64_w, i32_w]
        rfl
      refine pure_ (i := 13) (N := some 74) (v := ?_) (a' := ?_) #[oT,oT,oT,oT,oT,oT,oT,oT,oT,oT,oF,oT,oT,oT,oF,oF,oF,oF,oF] rfl rfl (any_of HT_.out (by kernel_rfl)) (fun _ _ _ h => h) (Or.inl ⟨by rfl, ?_⟩) ?_ ?_
      rotate_left
      · intro w'
        go_simp
        with_reducible rfl
      rotate_left
      · simp only [Act.put, List.setIfInBounds_toArray, List.set_cons_zero, List.set_cons_succ, i64_w, i32_w]
        rfl
      refine pure_ (i := 14) (N := some 75) (v := ?_) (a' := ?_) #[oT,oT,oT,oT,oT,oT,oT,oT,oT,oT,oF,oT,oT,oT,oT,oF,oF,oF,oF] rfl rfl (any_of HT_.out (by kernel_rfl)) (fun _ _ _ h => h) (Or.inl ⟨by rfl, ?_⟩) ?_ ?_
      rotate_left
      · intro w'
        go_simp
        with_reducible rfl
      rotate_left
      · simp only [Act.put, List.setIfInBounds_toArray, List.set_cons_zero, List.set_cons_succ, i64_w, i32_w]
        rfl
      refine take_ (i := 10) (N := some 71) (v := ?_) (a' := ?_) #[oT,oT,oT,oT,oT,oT,oT,oT,oT,oT,oT,oT,oT,oT,oT,oF,oF,oF,oF] rfl rfl (take_ofW HT_.out HW_.out (by kernel_rfl)) (fun _ _ _ h => h) (Or.inl ⟨by rfl, ?_⟩) hHeld ?_ ?_
      rotate_left
      · rintro w' ⟨s0, s1, s2, s3, s4, s5, s6⟩
        go_simp
        with_reducible rfl
      rotate_left
      · simp only [Act.put, List.setIfInBounds_toArray, List.set_cons_zero, List.set_cons_succ, i64_w, i32_w]
        rfl
      refine take_ (i := 15) (N := some 76) (v := ?_) (a' := ?_) #[oT,oT,oT,oT,oT,oT,oT,oT,oT,oT,oT,oT,oT,oT,oT,oT,oF,oF,oF] rfl rfl (take_ofW HT_.out HW_.out (by kernel_rfl)) (fun _ _ _ h => h) (Or.inl ⟨by rfl, ?_⟩) hHeld ?_ ?_
      rotate_left
      · rintro w' ⟨s0, s1, s2, s3, s4, s5, s6⟩
        go_simp
        with_reducible rfl
      rotate_left
      · simp only [Act.put, List.setIfInBounds_toArray, List.set_cons_zero, List.set_cons_succ, i64_w, i32_w]
        rfl
      refine pure_ (i := 16) (N := some 77) (v := ?_) (a' := ?_) #[oT,oT,oT,oT,oT,oT,oT,oT,oT,oT,oT,oT,oT,oT,oT,oT,oT,oF,oF] rfl rfl (any_of HT_.out (by kernel_rfl)) (fun _ _ _ h => h) (Or.inl ⟨by rfl, ?_⟩) ?_ ?_
      rotate_left
      · intro w'
        go_simp
        with_reducible rfl
      rotate_left
      · simp only [Act.put, List.setIfInBounds_toArray, List.set_cons_zero, List.set_cons_succ, i64_w, i32_w]
        rfl
      refine pure_ (i := 17) (N := some 78) (v := ?_) (a' := ?_) #[oT,oT,oT,oT,oT,oT,oT,oT,oT,oT,oT,oT,oT,oT,oT,oT,oT,oT,oF] rfl rfl (any_of HT_.out (by kernel_rfl)) (fun _ _ _ h => h) (Or.inl ⟨by rfl, ?_⟩) ?_ ?_
      rotate_left
      · intro w'
        go_simp
        with_reducible rfl
      rotate_left
      · simp only [Act.put, List.setIfInBounds_toArray, List.set_cons_zero, List.set_cons_succ, i64_w, i32_w]
        rfl
      refine pure_ (i := 18) (N := some 79) (v := ?_) (a' := ?_) #[oT,oT,oT,oT,oT,oT,oT,oT,oT,oT,oT,oT,oT,oT,oT,oT,oT,oT,oT] rfl rfl (any_of HT_.out (by kernel_rfl)) (fun _ _ _ h => h) (Or.inl ⟨by rfl, ?_⟩) ?_ ?_
      rotate_left
      · intro w'
        go_simp
        with_reducible rfl
      rotate_left
      · simp only [Act.put, List.setIfInBounds_toArray, List.set_cons_zero, List.set_cons_succ, i64_w, i32_w]
        rfl
      refine done_ (done_of HT_.out (by kernel_rfl)) ?_
      try go_wp2
      go_roundg k3
      case measure => have := HJ2.out; have := HK2.out; have := HK3.out; omega
      case rel => exact ⟨(x7_3), (x8_3), (x35_3), (wrap64 (x35_3 + 1)), (by first | rfl | (simp; done) | (simp [*]; done)), (by first | rfl | (simp; done) | (simp [*]; done)), H', ⟨by have := HJ2.out; have := HK2.out; have := HK3.out; omega⟩, ⟨by (with_reducible repeat (first | apply Kd.R_alloc | apply Kd.R_drewN | apply Kd.R_drew)); exact HO_6.out⟩, ⟨by (with_reducible repeat (first | apply Kd.R_alloc | apply Kd.R_drewN | apply Kd.R_drew)); exact HO_7.out⟩, ⟨by (with_reducible repeat (first | apply Kd.R_alloc | apply Kd.R_drewN | apply Kd.R_drew)); exact HO_8.out⟩, ⟨by repeat (first | (with_reducible first | exact HB.out | apply below_alloc | apply pw_below_drewN | apply below_drew1 | refine below_set ?_ GE189.out) | exact HB.out)⟩⟩
    rw [if_neg c134] at H
    have c134b0 : decide (((rd_T96 l0 x35_3).f2) < ((rd_T96 l0 x10_3).f2)) = false := decide_eq_false c134
    clear c134
    have H' := Aside0.mk H
    clear H
    have p188 : 0 ≤ (x35_3 : Int) := of_decide_eq_true (by with_reducible assumption)
    have q188 : x35_3 < (l0.length : Int) := of_decide_eq_true (by with_reducible assumption)
    obtain ⟨ad188, e188, hx188_0, hx188_1, hx188_2⟩ := at_T96 HR0.out x35_3 p188 q188
    cases e188
    replace hx188_0 := (HB.out.cell (World.block_lt_of_cell? w _ hx188_0)).trans hx188_0
    replace hx188_1 := (HB.out.cell (World.block_lt_of_cell? w _ hx188_1)).trans hx188_1
    replace hx188_2 := (HB.out.cell (World.block_lt_of_cell? w _ hx188_2)).trans hx188_2
    replace p188 := eq_true p188
    replace q188 := eq_true q188
    try go_wp2_with (first | ((with_reducible refine gate_dst (N := 12) rfl ?_); refine box_event ?hg (N := 12) ?hd (cs := #[.int .i64 0, .int .i64 0, .int .i64 0]) (t := 96) ?hr ?_; (case hd => rfl); (case hg => rfl); (case hr => first | (go_simp; done) | (go_simp; rfl)); intro gb189 hg w140 hbox hb; have n0_ := Aside0.mk (Kd.R_below HO_6.out hb); have n1_ := Aside0.mk (Kd.R_below HO_7.out hb); have n2_ := Aside0.mk (Kd.R_below HO_8.out hb); have n3_ := Aside0.mk (below_step HB.out hb); have n4_ := Aside0.mk (hbox); have n5_ := Aside0.mk ((by rw [hg]; exact (below_size HB.out) : w.heap.size ≤ gb189)); have n6_ := Aside0.mk ((by rw [hg]; exact (below_size HB.out) : w.heap.size ≤ gb189)); clear HO_6; clear HO_7; clear HO_8; clear HB; have HO_6 := n0_; have HO_7 := n1_; have HO_8 := n2_; have HB := n3_; have BK189 := n4_; have GW189 := n5_; have GE189 := n6_; clear n0_ n1_ n2_ n3_ n4_ n5_ n6_; clear hb hbox hg; have hcz141_0 : w140.cell? ⟨gb189, 0, none⟩ = some (.int .i64 0) := (blk_cell BK189.out 0).trans rfl; have hcz141_1 : w140.cell? ⟨gb189, 1, none⟩ = some (.int .i64 0) := (blk_cell BK189.out 1).trans rfl; have hcz141_2 : w140.cell? ⟨gb189, 2, none⟩ = some (.int .i64 0) := (blk_cell BK189.out 2).trans rfl; have hfz141_0 := blk_frozen BK189.out 0; have hfz141_1 := blk_frozen BK189.out 1; have hfz141_2 := blk_frozen BK189.out 2))
    have n0_ : Aside0 (Kd.R (Kd.int .i64) 3 (((w140.setCell ⟨gb189, 0, none⟩ (.int .i64 ((rd_T96 l0 x35_3).f0))).setCell ⟨gb189, 1, none⟩ (.int .i64 ((rd_T96 l0 x35_3).f1))).setCell ⟨gb189, 2, none⟩ (.int .i64 ((rd_T96 l0 x35_3).f2))) w.heap.size (fun k_ => some k_ ≠ (v180 : Value).ownBlock ∧ some k_ ≠ (v183 : Value).ownBlock) v177 x6_2) := ⟨by (with_reducible repeat (first | apply Kd.R_alloc | apply Kd.R_drewN | apply Kd.R_drew)); exact Kd.R_mono (Kd.R_far (p := ⟨gb189, 2, none⟩) (Kd.R_far (p := ⟨gb189, 1, none⟩) (Kd.R_far (p := ⟨gb189, 0, none⟩) (Kd.R_types HO_6.out BK189.out (by decide)) (fun _ hk => hk.2) (.int .i64 ((rd_T96 l0 x35_3).f0))) (fun _ hk => hk.2) (.int .i64 ((rd_T96 l0 x35_3).f1))) (fun _ hk => hk.2) (.int .i64 ((rd_T96 l0 x35_3).f2))) (fun _ hk => ⟨hk.1.1, hk.1.2⟩)⟩
    have n1_ : Aside0 (Kd.R (Kd.int .i64) 3 (((w140.setCell ⟨gb189, 0, none⟩ (.int .i64 ((rd_T96 l0 x35_3).f0))).setCell ⟨gb189, 1, none⟩ (.int .i64 ((rd_T96 l0 x35_3).f1))).setCell ⟨gb189, 2, none⟩ (.int .i64 ((rd_T96 l0 x35_3).f2))) w.heap.size (fun k_ => some k_ ≠ (v177 : Value).ownBlock ∧ some k_ ≠ (v183 : Value).ownBlock) v180 x7_3) := ⟨by (with_reducible repeat (first | apply Kd.R_alloc | apply Kd.R_drewN | apply Kd.R_drew)); exact Kd.R_mono (Kd.R_far (p := ⟨gb189, 2, none⟩) (Kd.R_far (p := ⟨gb189, 1, none⟩) (Kd.R_far (p := ⟨gb189, 0, none⟩) (Kd.R_types HO_7.out BK189.out (by decide)) (fun _ hk => hk.2) (.int .i64 ((rd_T96 l0 x35_3).f0))) (fun _ hk => hk.2) (.int .i64 ((rd_T96 l0 x35_3).f1))) (fun _ hk => hk.2) (.int .i64 ((rd_T96 l0 x35_3).f2))) (fun _ hk => ⟨hk.1.1, hk.1.2⟩)⟩
    have n2_ : Aside0 (Kd.R (Kd.int .i64) 3 (((w140.setCell ⟨gb189, 0, none⟩ (.int .i64 ((rd_T96 l0 x35_3).f0))).setCell ⟨gb189, 1, none⟩ (.int .i64 ((rd_T96 l0 x35_3).f1))).setCell ⟨gb189, 2, none⟩ (.int .i64 ((rd_T96 l0 x35_3).f2))) w.heap.size (fun k_ => some k_ ≠ (v177 : Value).ownBlock ∧ some k_ ≠ (v180 : Value).ownBlock) v183 x8_3) := ⟨by (with_reducible repeat (first | apply Kd.R_alloc | apply Kd.R_drewN | apply Kd.R_drew)); exact Kd.R_mono (Kd.R_far (p := ⟨gb189, 2, none⟩) (Kd.R_far (p := ⟨gb189, 1, none⟩) (Kd.R_far (p := ⟨gb189, 0, none⟩) (Kd.R_types HO_8.out BK189.out (by decide)) (fun _ hk => hk.2) (.int .i64 ((rd_T96 l0 x35_3).f0))) (fun _ hk => hk.2) (.int .i64 ((rd_T96 l0 x35_3).f1))) (fun _ hk => hk.2) (.int .i64 ((rd_T96 l0 x35_3).f2))) (fun _ hk => ⟨hk.1.1, hk.1.2⟩)⟩
    have n3_ : Aside0 ((((w140.setCell ⟨gb189, 0, none⟩ (.int .i64 ((rd_T96 l0 x35_3).f0))).setCell ⟨gb189, 1, none⟩ (.int .i64 ((rd_T96 l0 x35_3).f1))).setCell ⟨gb189, 2, none⟩ (.int .i64 ((rd_T96 l0 x35_3).f2))).heap[gb189]? = some (.cells #[.int .i64 ((rd_T96 l0 x35_3).f0), .int .i64 ((rd_T96 l0 x35_3).f1), .int .i64 ((rd_T96 l0 x35_3).f2)] 96 (0, 0))) := ⟨by refine blk_put (cs := #[.int .i64 ((rd_T96 l0 x35_3).f0), .int .i64 ((rd_T96 l0 x35_3).f1), .int .i64 0]) ?_ 2 _ rfl; refine blk_put (cs := #[.int .i64 ((rd_T96 l0 x35_3).f0), .int .i64 0, .int .i64 0]) ?_ 1 _ rfl; refine blk_put (cs := #[.int .i64 0, .int .i64 0, .int .i64 0]) ?_ 0 _ rfl; exact BK189.out⟩
    have n4_ : Aside0 (Below w.heap.size w (((w140.setCell ⟨gb189, 0, none⟩ (.int .i64 ((rd_T96 l0 x35_3).f0))).setCell ⟨gb189, 1, none⟩ (.int .i64 ((rd_T96 l0 x35_3).f1))).setCell ⟨gb189, 2, none⟩ (.int .i64 ((rd_T96 l0 x35_3).f2)))) := ⟨by repeat (first | (with_reducible first | exact HB.out | apply below_alloc | apply pw_below_drewN | apply below_drew1 | refine below_set ?_ GE189.out) | exact HB.out)⟩
    (try clear HO_6)
    (try clear HO_7)
    (try clear HO_8)
    (try clear BK189)
    (try clear HB)
    generalize (((w140.setCell ⟨gb189, 0, none⟩ (.int .i64 ((rd_T96 l0 x35_3).f0))).setCell ⟨gb189, 1, none⟩ (.int .i64 ((rd_T96 l0 x35_3).f1))).setCell ⟨gb189, 2, none⟩ (.int .i64 ((rd_T96 l0 x35_3).f2))) = w142 at n0_ n1_ n2_ n3_ n4_ ⊢
    have HO_6 := n0_
    have HO_7 := n1_
    have HO_8 := n2_
    have BK189 := n3_
    have HB := n4_
    clear n0_ n1_ n2_ n3_ n4_
    have n0_ := Aside0.mk (Kd.R_drew HO_6.out)
    have n1_ := Aside0.mk (Kd.R_drew HO_7.out)
    have n2_ := Aside0.mk (Kd.R_drew HO_8.out)
    have n3_ := Aside0.mk (blk_drew BK189.out)
    have n4_ := Aside0.mk (below_drew1 HB.out)
    clear HO_6
    clear HO_7
    clear HO_8
    clear BK189
    clear HB
    have HO_6 := n0_
    have HO_7 := n1_
    have HO_8 := n2_
    have BK189 := n3_
    have HB := n4_
    clear n0_ n1_ n2_ n3_ n4_
    obtain ⟨Ao144, co144, eo144⟩ := Kd.R_slice HO_8.out
    (first | subst eo144 | (injection eo144 with f1_ f2_ f3_; have f4_ := f1_.symm; have f5_ := f3_.symm; clear f1_ f2_ f3_; subst f4_; subst f5_))
    have p199 : 0 ≤ (x35_3 : Int) := of_decide_eq_true (by with_reducible assumption)
    have q199 : x35_3 < (x8_3.length : Int) := of_decide_eq_true (by with_reducible assumption)
    obtain ⟨ad199, e199, hx199_0⟩ := Kd.at_int (Kd.R_reads' HO_8.out).2.2 x35_3 p199 q199
    cases e199
    replace p199 := eq_true p199
    replace q199 := eq_true q199
    have p200 : 0 ≤ (x10_3 : Int) := of_decide_eq_true (by with_reducible assumption)
    have q200 : x10_3 < (l0.length : Int) := of_decide_eq_true (by with_reducible assumption)
    obtain ⟨ad200, e200, hx200_0, hx200_1, hx200_2⟩ := at_T96 HR0.out x10_3 p200 q200
    have hw200_2 := hx200_2
    have hw200_1 := hx200_1
    have hw200_0 := hx200_0
    obtain rfl : ad188 = ad200 := (by injection e200)
    replace hx200_0 := (HB.out.cell (World.block_lt_of_cell? w _ hx200_0)).trans hx200_0
    replace hx200_1 := (HB.out.cell (World.block_lt_of_cell? w _ hx200_1)).trans hx200_1
    replace hx200_2 := (HB.out.cell (World.block_lt_of_cell? w _ hx200_2)).trans hx200_2
    replace p200 := eq_true p200
    replace q200 := eq_true q200
    refine start_ (n := 19) (S := fun w' => w'.cell? ⟨gb189, 0, none⟩ = some (.int .i64 ((rd_T96 l0 x35_3).f0)) ∧ w'.cell? ⟨gb189, 1, none⟩ = some (.int .i64 ((rd_T96 l0 x35_3).f1)) ∧ w'.cell? ⟨gb189, 2, none⟩ = some (.int .i64 ((rd_T96 l0 x35_3).f2)) ∧ w'.cell? (ad199.add (x35_3).toNat) = some (.int .i64 (rd x8_3 x35_3)) ∧ w'.cell? (ad188.add ((x10_3).toNat * 3)) = some (.int .i64 ((rd_T96 l0 x10_3).f0)) ∧ w'.cell? ⟨(ad188.add ((x10_3).toNat * 3)).block, (ad188.add ((x10_3).toNat * 3)).off + 1, none⟩ = some (.int .i64 ((rd_T96 l0 x10_3).f1)) ∧ w'.cell? ⟨(ad188.add ((x10_3).toNat * 3)).block, (ad188.add ((x10_3).toNat * 3)).off + 2, none⟩ = some (.int .i64 ((rd_T96 l0 x10_3).f2))) (ds := []) #[oF,oF,oF,oF,oF,oF,oF,oF,oF,oF,oF,oF,oF,oF,oF,oF,oF,oF,oF] (by kernel_rfl) rfl rfl ⟨(blk_cell BK189.out 0).trans rfl, (blk_cell BK189.out 1).trans rfl, (blk_cell BK189.out 2).trans rfl, hx199_0, ((HB.out.cell (World.block_lt_of_cell? w _ hw200_0)).trans hw200_0), ((HB.out.cell (World.block_lt_of_cell? w _ hw200_1)).trans hw200_1), ((HB.out.cell (World.block_lt_of_cell? w _ hw200_2)).trans hw200_2)⟩ (fun hHeld => ?_); refine with_tabW impl_TaskSchedule.tab16 impl_TaskSchedule.bits16 (fun HT_ HW_ => ?_)
    generalize w142.drew = w143 at HO_6 HO_7 HO_8 BK189 HB hx199_0 hx200_0 hx200_1 hx200_2 hHeld ⊢
    refine pure_ (i := 0) (N := some 61) (v := ?_) (a' := ?_) #[oT,oF,oF,oF,oF,oF,oF,oF,oF,oF,oF,oF,oF,oF,oF,oF,oF,oF,oF] rfl rfl (any_of HT_.out (by kernel_rfl)) (fun _ _ _ h => h) (Or.inl ⟨by rfl, ?_⟩) ?_ ?_
    rotate_left
    · intro w'
      go_simp
      with_reducible rfl
    rotate_left
    · simp only [Act.put, List.setIfInBounds_toArray, List.set_cons_zero, List.set_cons_succ, i64_w, i32_w]
      rfl
    refine pure_ (i := 1) (N := some 62) (v := ?_) (a' := ?_) #[oT,oT,oF,oF,oF,oF,oF,oF,oF,oF,oF,oF,oF,oF,oF,oF,oF,oF,oF] rfl rfl (any_of HT_.out (by kernel_rfl)) (fun _ _ _ h => h) (Or.inl ⟨by rfl, ?_⟩) ?_ ?_
    rotate_left
    · intro w'
      go_simp
      with_reducible rfl
    rotate_left
    · simp only [Act.put, List.setIfInBounds_toArray, List.set_cons_zero, List.set_cons_succ, i64_w, i32_w]
      rfl
    refine pure_ (i := 2) (N := some 63) (v := ?_) (a' := ?_) #[oT,oT,oT,oF,oF,oF,oF,oF,oF,oF,oF,oF,oF,oF,oF,oF,oF,oF,oF] rfl rfl (any_of HT_.out (by kernel_rfl)) (fun _ _ _ h => h) (Or.inl ⟨by rfl, ?_⟩) ?_ ?_
    rotate_left
    · intro w'
      go_simp
      with_reducible rfl
    rotate_left
    · simp only [Act.put, List.setIfInBounds_toArray, List.set_cons_zero, List.set_cons_succ, i64_w, i32_w]
      rfl
    refine take_ (i := 3) (N := some 64) (v := ?_) (a' := ?_) #[oT,oT,oT,oT,oF,oF,oF,oF,oF,oF,oF,oF,oF,oF,oF,oF,oF,oF,oF] rfl rfl (take_ofW HT_.out HW_.out (by kernel_rfl)) (fun _ _ _ h => h) (Or.inl ⟨by rfl, ?_⟩) hHeld ?_ ?_
    rotate_left
    · rintro w' ⟨s0, s1, s2, s3, s4, s5, s6⟩
      go_simp
      with_reducible rfl
    rotate_left
    · simp only [Act.put, List.setIfInBounds_toArray, List.set_cons_zero, List.set_cons_succ, i64_w, i32_w]
      rfl
    refine pure_ (i := 4) (N := some 65) (v := ?_) (a' := ?_) #[oT,oT,oT,oT,oT,oF,oF,oF,oF,oF,oF,oF,oF,oF,oF,oF,oF,oF,oF] rfl rfl (any_of HT_.out (by kernel_rfl)) (fun _ _ _ h => h) (Or.inl ⟨by rfl, ?_⟩) ?_ ?_
    rotate_left
    · intro w'
      go_simp
      with_reducible rfl
    rotate_left
    · simp only [Act.put, List.setIfInBounds_toArray, List.set_cons_zero, List.set_cons_succ, i64_w, i32_w]
      rfl
    refine pure_ (i := 5) (N := some 66) (v := ?_) (a' := ?_) #[oT,oT,oT,oT,oT,oT,oF,oF,oF,oF,oF,oF,oF,oF,oF,oF,oF,oF,oF] rfl rfl (any_of HT_.out (by kernel_rfl)) (fun _ _ _ h => h) (Or.inl ⟨by rfl, ?_⟩) ?_ ?_
    rotate_left
    · intro w'
      go_simp
      with_reducible rfl
    rotate_left
    · simp only [Act.put, List.setIfInBounds_toArray, List.set_cons_zero, List.set_cons_succ, i64_w, i32_w]
      rfl
    refine pure_ (i := 6) (N := some 67) (v := ?_) (a' := ?_) #[oT,oT,oT,oT,oT,oT,oT,oF,oF,oF,oF,oF,oF,oF,oF,oF,oF,oF,oF] rfl rfl (any_of HT_.out (by kernel_rfl)) (fun _ _ _ h => h) (Or.inl ⟨by rfl, ?_⟩) ?_ ?_
    rotate_left
    · intro w'
      go_simp
      with_reducible rfl
    rotate_left
    · simp only [Act.put, List.setIfInBounds_toArray, List.set_cons_zero, List.set_cons_succ, i64_w, i32_w]
      rfl
    refine pure_ (i := 7) (N := some 68) (v := ?_) (a' := ?_) #[oT,oT,oT,oT,oT,oT,oT,oT,oF,oF,oF,oF,oF,oF,oF,oF,oF,oF,oF] rfl rfl (any_of HT_.out (by kernel_rfl)) (fun _ _ _ h => h) (Or.inl ⟨by rfl, ?_⟩) ?_ ?_
    rotate_left
    · intro w'
      go_simp
      with_reducible rfl
    rotate_left
    · simp only [Act.put, List.setIfInBounds_toArray, List.set_cons_zero, List.set_cons_succ, i64_w, i32_w]
      rfl
    refine pure_ (i := 8) (N := some 69) (v := ?_) (a' := ?_) #[oT,oT,oT,oT,oT,oT,oT,oT,oT,oF,oF,oF,oF,oF,oF,oF,oF,oF,oF] rfl rfl (any_of HT_.out (by kernel_rfl)) (fun _ _ _ h => h) (Or.inl ⟨by rfl, ?_⟩) ?_ ?_
    rotate_left
    · intro w'
      go_simp
      with_reducible rfl
    rotate_left
    · simp only [Act.put, List.setIfInBounds_toArray, List.set_cons_zero, List.set_cons_succ, i64_w, i32_w]
      rfl
    refine pure_ (i := 9) (N := some 70) (v := ?_) (a' := ?_) #[oT,oT,oT,oT,oT,oT,oT,oT,oT,oT,oF,oF,oF,oF,oF,oF,oF,oF,oF] rfl rfl (any_of HT_.out (by kernel_rfl)) (fun _ _ _ h => h) (Or.inl ⟨by rfl, ?_⟩) ?_ ?_
    rotate_left
    · intro w'
      go_simp
      with_reducible rfl
    rotate_left
    · simp only [Act.put, List.setIfInBounds_toArray, List.set_cons_zero, List.set_cons_succ, i64_w, i32_w]
      rfl
    refine pure_ (i := 11) (N := some 72) (v := ?_) (a' := ?_) #[oT,oT,oT,oT,oT,oT,oT,oT,oT,oT,oF,oT,oF,oF,oF,oF,oF,oF,oF] rfl rfl (any_of HT_.out (by kernel_rfl)) (fun _ _ _ h => h) (Or.inl ⟨by rfl, ?_⟩) ?_ ?_
    rotate_left
    · intro w'
      go_simp
      with_reducible rfl
    rotate_left
    · simp only [Act.put, List.setIfInBounds_toArray, List.set_cons_zero, List.set_cons_succ, i64_w, i32_w]
      rfl
    refine pure_ (i := 12) (N := some 73) (v := ?_) (a' := ?_) #[oT,oT,oT,oT,oT,oT,oT,oT,oT,oT,oF,oT,oT,oF,oF,oF,oF,oF,oF] rfl rfl (any_of HT_.out (by kernel_rfl)) (fun _ _ _ h => h) (Or.inl ⟨by rfl, ?_⟩) ?_ ?_
    rotate_left
    · intro w'
      go_simp
      with_reducible rfl
    rotate_left
    · simp only [Act.put, List.setIfInBounds_toArray, List.set_cons_zero, List.set_cons_succ, i64_w, i32_w]
      rfl
    refine pure_ (i := 13) (N := some 74) (v := ?_) (a' := ?_) #[oT,oT,oT,oT,oT,oT,oT,oT,oT,oT,oF,oT,oT,oT,oF,oF,oF,oF,oF] rfl rfl (any_of HT_.out (by kernel_rfl)) (fun _ _ _ h => h) (Or.inl ⟨by rfl, ?_⟩) ?_ ?_
    rotate_left
    · intro w'
      go_simp
      with_reducible rfl
    rotate_left
    · simp only [Act.put, List.setIfInBounds_toArray, List.set_cons_zero, List.set_cons_succ, i64_w, i32_w]
      rfl
    refine pure_ (i := 14) (N := some 75) (v := ?_) (a' := ?_) #[oT,oT,oT,oT,oT,oT,oT,oT,oT,oT,oF,oT,oT,oT,oT,oF,oF,oF,oF] rfl rfl (any_of HT_.out (by kernel_rfl)) (fun _ _ _ h => h) (Or.inl ⟨by rfl, ?_⟩) ?_ ?_
    rotate_left
    · intro w'
      go_simp
      with_reducible rfl
    rotate_left
    · simp only [Act.put, List.setIfInBounds_toArray, List.set_cons_zero, List.set_cons_succ, i64_w, i32_w]
      rfl
    refine take_ (i := 10) (N := some 71) (v := ?_) (a' := ?_) #[oT,oT,oT,oT,oT,oT,oT,oT,oT,oT,oT,oT,oT,oT,oT,oF,oF,oF,oF] rfl rfl (take_ofW HT_.out HW_.out (by kernel_rfl)) (fun _ _ _ h => h) (Or.inl ⟨by rfl, ?_⟩) hHeld ?_ ?_
    rotate_left
    · rintro w' ⟨s0, s1, s2, s3, s4, s5, s6⟩
      go_simp
      with_reducible rfl
    rotate_left
    · simp only [Act.put, List.setIfInBounds_toArray, List.set_cons_zero, List.set_cons_succ, i64_w, i32_w]
      rfl
    refine take_ (i := 15) (N := some 76) (v := ?_) (a' := ?_) #[oT,oT,oT,oT,oT,oT,oT,oT,oT,oT,oT,oT,oT,oT,oT,oT,oF,oF,oF] rfl rfl (take_ofW HT_.out HW_.out (by kernel_rfl)) (fun _ _ _ h => h) (Or.inl ⟨by rfl, ?_⟩) hHeld ?_ ?_
    rotate_left
    · rintro w' ⟨s0, s1, s2, s3, s4, s5, s6⟩
      go_simp
      with_reducible rfl
    rotate_left
    · simp only [Act.put, List.setIfInBounds_toArray, List.set_cons_zero, List.set_cons_succ, i64_w, i32_w]
      rfl
    refine pure_ (i := 16) (N := some 77) (v := ?_) (a' := ?_) #[oT,oT,oT,oT,oT,oT,oT,oT,oT,oT,oT,oT,oT,oT,oT,oT,oT,oF,oF] rfl rfl (any_of HT_.out (by kernel_rfl)) (fun _ _ _ h => h) (Or.inl ⟨by rfl, ?_⟩) ?_ ?_
    rotate_left
    · intro w'
      go_simp
      with_reducible rfl
    rotate_left
    · simp only [Act.put, List.setIfInBounds_toArray, List.set_cons_zero, List.set_cons_succ, i64_w, i32_w]
      rfl
    refine pure_ (i := 17) (N := some 78) (v := ?_) (a' := ?_) #[oT,oT,oT,oT,oT,oT,oT,oT,oT,oT,oT,oT,oT,oT,oT,oT,oT,oT,oF] rfl rfl (any_of HT_.out (by kernel_rfl)) (fun _ _ _ h => h) (Or.inl ⟨by rfl, ?_⟩) ?_ ?_
    rotate_left
    · intro w'
      go_simp
      with_reducible rfl
    rotate_left
    · simp only [Act.put, List.setIfInBounds_toArray, List.set_cons_zero, List.set_cons_succ, i64_w, i32_w]
      rfl
    refine pure_ (i := 18) (N := some 79) (v := ?_) (a' := ?_) #[oT,oT,oT,oT,oT,oT,oT,oT,oT,oT,oT,oT,oT,oT,oT,oT,oT,oT,oT] rfl rfl (any_of HT_.out (by kernel_rfl)) (fun _ _ _ h => h) (Or.inl ⟨by rfl, ?_⟩) ?_ ?_
    rotate_left
    · intro w'
      go_simp
      with_reducible rfl
    rotate_left
    · simp only [Act.put, List.setIfInBounds_toArray, List.set_cons_zero, List.set_cons_succ, i64_w, i32_w]
      rfl
    refine done_ (done_of HT_.out (by kernel_rfl)) ?_
    try go_wp2
    go_roundg k3
    case measure => have := HJ2.out; have := HK2.out; have := HK3.out; omega
    case rel => exact ⟨(x7_3), (x8_3), (x10_3), (wrap64 (x35_3 + 1)), (by first | rfl | (simp; done) | (simp [*]; done)), (by first | rfl | (simp; done) | (simp [*]; done)), H', ⟨by have := HJ2.out; have := HK2.out; have := HK3.out; omega⟩, ⟨by (with_reducible repeat (first | apply Kd.R_alloc | apply Kd.R_drewN | apply Kd.R_drew)); exact HO_6.out⟩, ⟨by (with_reducible repeat (first | apply Kd.R_alloc | apply Kd.R_drewN | apply Kd.R_drew)); exact HO_7.out⟩, ⟨by (with_reducible repeat (first | apply Kd.R_alloc | apply Kd.R_drewN | apply Kd.R_drew)); exact HO_8.out⟩, ⟨by repeat (first | (with_reducible first | exact HB.out | apply below_alloc | apply pw_below_drewN | apply below_drew1 | refine below_set ?_ GE189.out) | exact HB.out)⟩⟩
  rw [if_pos c27] at H
  have c27b0 : ((Int.tmod x30_2 ((rd_T96 l0 x35_3).f0)) == 0) = true := beq_iff_eq.mpr c27
  have c27b1 : ((Int.tmod x30_2 ((rd_T96 l0 x35_3).f0)) != 0) = false := bne_eq_false_iff_eq.mpr c27
  clear c27
  by_cases c28 : x35_3 < (x8_3.length : Int)
  rotate_left
  · rw [if_neg c28] at H
    exact absurd H (by simp)
  rw [if_pos c28] at H
  have c28b0 : decide (x35_3 < (x8_3.length : Int)) = true := decide_eq_true c28
  clear c28
  by_cases c29 : (rd x8_3 x35_3) > 0
  rotate_left
  · rw [if_neg c29] at H
    have c29b0 : decide (0 < (rd x8_3 x35_3)) = false := decide_eq_false c29
    clear c29
    obtain ⟨y196, hy196⟩ : ∃ y_ : List Int, y_ = (x8_3.set (x35_3 : Int).toNat ((rd_T96 l0 x35_3).f1)) := ⟨_, rfl⟩
    replace H : (if (rd y196 x35_3) > 0 then (if x10_3 < 0 then (impl_TaskSchedule.l1 k3 l0 x6_2 x7_3 y196 x30_2 x35_3 a1 x30_2 l0 (l0.length : Int) (wrap64 (x35_3 + 1))) else (if 0 ≤ x10_3 then (if x10_3 < (l0.length : Int) then (if ((rd_T96 l0 x35_3).f2) < ((rd_T96 l0 x10_3).f2) then (impl_TaskSchedule.l1 k3 l0 x6_2 x7_3 y196 x30_2 x35_3 a1 x30_2 l0 (l0.length : Int) (wrap64 (x35_3 + 1))) else (impl_TaskSchedule.l1 k3 l0 x6_2 x7_3 y196 x30_2 x10_3 a1 x30_2 l0 (l0.length : Int) (wrap64 (x35_3 + 1)))) else (none)) else (none))) else (impl_TaskSchedule.l1 k3 l0 x6_2 x7_3 y196 x30_2 x10_3 a1 x30_2 l0 (l0.length : Int) (wrap64 (x35_3 + 1)))) = some (r1, r2) := by first | (rw [hy196]; with_reducible exact H) | (have H2_ := (Option.bind_some _ _).symm.trans H; rw [hy196]; with_reducible exact H2_) | (have H2_ := (Option.bind_some _ _).symm.trans H; with_reducible exact H2_) | with_reducible exact H | (rw [hy196]; exact H) | exact H
    have Ny196 := Aside0.mk hy196
    clear hy196
    by_cases c87 : (rd y196 x35_3) > 0
    rotate_left
    · rw [if_neg c87] at H
      have c87b0 : decide (0 < (rd y196 x35_3)) = false := decide_eq_false c87
      clear c87
      have H' := Aside0.mk H
      clear H
      have p188 : 0 ≤ (x35_3 : Int) := of_decide_eq_true (by with_reducible assumption)
      have q188 : x35_3 < (l0.length : Int) := of_decide_eq_true (by with_reducible assumption)
      obtain ⟨ad188, e188, hx188_0, hx188_1, hx188_2⟩ := at_T96 HR0.out x35_3 p188 q188
      cases e188
      replace hx188_0 := (HB.out.cell (World.block_lt_of_cell? w _ hx188_0)).trans hx188_0
      replace hx188_1 := (HB.out.cell (World.block_lt_of_cell? w _ hx188_1)).trans hx188_1
      replace hx188_2 := (HB.out.cell (World.block_lt_of_cell? w _ hx188_2)).trans hx188_2
      replace p188 := eq_true p188
      replace q188 := eq_true q188
      try go_wp2_with (first | ((with_reducible refine gate_dst (N := 12) rfl ?_); refine box_event ?hg (N := 12) ?hd (cs := #[.int .i64 0, .int .i64 0, .int .i64 0]) (t := 96) ?hr ?_; (case hd => rfl); (case hg => rfl); (case hr => first | (go_simp; done) | (go_simp; rfl)); intro gb189 hg w116 hbox hb; have n0_ := Aside0.mk (Kd.R_below HO_6.out hb); have n1_ := Aside0.mk (Kd.R_below HO_7.out hb); have n2_ := Aside0.mk (Kd.R_below HO_8.out hb); have n3_ := Aside0.mk (below_step HB.out hb); have n4_ := Aside0.mk (hbox); have n5_ := Aside0.mk ((by rw [hg]; exact (below_size HB.out) : w.heap.size ≤ gb189)); have n6_ := Aside0.mk ((by rw [hg]; exact (below_size HB.out) : w.heap.size ≤ gb189)); clear HO_6; clear HO_7; clear HO_8; clear HB; have HO_6 := n0_; have HO_7 := n1_; have HO_8 := n2_; have HB := n3_; have BK189 := n4_; have GW189 := n5_; have GE189 := n6_; clear n0_ n1_ n2_ n3_ n4_ n5_ n6_; clear hb hbox hg; have hcz117_0 : w116.cell? ⟨gb189, 0, none⟩ = some (.int .i64 0) := (blk_cell BK189.out 0).trans rfl; have hcz117_1 : w116.cell? ⟨gb189, 1, none⟩ = some (.int .i64 0) := (blk_cell BK189.out 1).trans rfl; have hcz117_2 : w116.cell? ⟨gb189, 2, none⟩ = some (.int .i64 0) := (blk_cell BK189.out 2).trans rfl; have hfz117_0 := blk_frozen BK189.out 0; have hfz117_1 := blk_frozen BK189.out 1; have hfz117_2 := blk_frozen BK189.out 2) | ((with_reducible refine gate_store (t := 96) (p := 12) rfl ?_); refine store_event (t := 96) (p := 12) (v := ?vo_w118) (w1 := (((w116.setCell ⟨gb189, 0, none⟩ (.int .i64 ((rd_T96 l0 x35_3).f0))).setCell ⟨gb189, 1, none⟩ (.int .i64 ((rd_T96 l0 x35_3).f1))).setCell ⟨gb189, 2, none⟩ (.int .i64 ((rd_T96 l0 x35_3).f2)))) ?hg ?ho ?hn ?hr ?_; (case ho => rfl); (case hg => rfl); (case hn => rfl); (case hr => first | (go_simp; done) | (go_simp; rfl)); intro w118 hw; have n0_ : Aside0 (Kd.R (Kd.int .i64) 3 w118 w.heap.size (fun k_ => some k_ ≠ (v180 : Value).ownBlock ∧ some k_ ≠ (v183 : Value).ownBlock) v177 x6_2) := ⟨(by rw [hw]; exact (by exact Kd.R_mono (Kd.R_far (p := ⟨gb189, 2, none⟩) (Kd.R_far (p := ⟨gb189, 1, none⟩) (Kd.R_far (p := ⟨gb189, 0, none⟩) (Kd.R_types HO_6.out BK189.out (by decide)) (fun _ hk => hk.2) (.int .i64 ((rd_T96 l0 x35_3).f0))) (fun _ hk => hk.2) (.int .i64 ((rd_T96 l0 x35_3).f1))) (fun _ hk => hk.2) (.int .i64 ((rd_T96 l0 x35_3).f2))) (fun _ hk => ⟨hk.1.1, hk.1.2⟩)))⟩; have n1_ : Aside0 (Kd.R (Kd.int .i64) 3 w118 w.heap.size (fun k_ => some k_ ≠ (v177 : Value).ownBlock ∧ some k_ ≠ (v183 : Value).ownBlock) v180 x7_3) := ⟨(by rw [hw]; exact (by exact Kd.R_mono (Kd.R_far (p := ⟨gb189, 2, none⟩) (Kd.R_far (p := ⟨gb189, 1, none⟩) (Kd.R_far (p := ⟨gb189, 0, none⟩) (Kd.R_types HO_7.out BK189.out (by decide)) (fun _ hk => hk.2) (.int .i64 ((rd_T96 l0 x35_3).f0))) (fun _ hk => hk.2) (.int .i64 ((rd_T96 l0 x35_3).f1))) (fun _ hk => hk.2) (.int .i64 ((rd_T96 l0 x35_3).f2))) (fun _ hk => ⟨hk.1.1, hk.1.2⟩)))⟩; have n2_ : Aside0 (Kd.R (Kd.int .i64) 3 w118 w.heap.size (fun k_ => some k_ ≠ (v177 : Value).ownBlock ∧ some k_ ≠ (v180 : Value).ownBlock) v183 x8_3) := ⟨(by rw [hw]; exact (by exact Kd.R_mono (Kd.R_far (p := ⟨gb189, 2, none⟩) (Kd.R_far (p := ⟨gb189, 1, none⟩) (Kd.R_far (p := ⟨gb189, 0, none⟩) (Kd.R_types HO_8.out BK189.out (by decide)) (fun _ hk => hk.2) (.int .i64 ((rd_T96 l0 x35_3).f0))) (fun _ hk => hk.2) (.int .i64 ((rd_T96 l0 x35_3).f1))) (fun _ hk => hk.2) (.int .i64 ((rd_T96 l0 x35_3).f2))) (fun _ hk => ⟨hk.1.1, hk.1.2⟩)))⟩; have n3_ : Aside0 (w118.heap[gb189]? = some (.cells #[.int .i64 ((rd_T96 l0 x35_3).f0), .int .i64 ((rd_T96 l0 x35_3).f1), .int .i64 ((rd_T96 l0 x35_3).f2)] 96 (0, 0))) := ⟨(by rw [hw]; exact (by refine blk_put (cs := #[.int .i64 ((rd_T96 l0 x35_3).f0), .int .i64 ((rd_T96 l0 x35_3).f1), .int .i64 0]) ?_ 2 _ rfl; refine blk_put (cs := #[.int .i64 ((rd_T96 l0 x35_3).f0), .int .i64 0, .int .i64 0]) ?_ 1 _ rfl; refine blk_put (cs := #[.int .i64 0, .int .i64 0, .int .i64 0]) ?_ 0 _ rfl; exact BK189.out))⟩; have n4_ : Aside0 (Below w.heap.size w w118) := ⟨(by rw [hw]; exact (by repeat (first | (with_reducible first | exact HB.out | apply below_alloc | apply pw_below_drewN | apply below_drew1 | refine below_set ?_ GE189.out) | exact HB.out)))⟩; clear hw; clear HO_6; clear HO_7; clear HO_8; clear BK189; clear HB; have HO_6 := n0_; have HO_7 := n1_; have HO_8 := n2_; have BK189 := n3_; have HB := n4_; clear n0_ n1_ n2_ n3_ n4_; have hcz119_0 : w118.cell? ⟨gb189, 0, none⟩ = some (.int .i64 ((rd_T96 l0 x35_3).f0)) := (blk_cell BK189.out 0).trans rfl; have hcz119_1 : w118.cell? ⟨gb189, 1, none⟩ = some (.int .i64 ((rd_T96 l0 x35_3).f1)) := (blk_cell BK189.out 1).trans rfl; have hcz119_2 : w118.cell? ⟨gb189, 2, none⟩ = some (.int .i64 ((rd_T96 l0 x35_3).f2)) := (blk_cell BK189.out 2).trans rfl; have hfz119_0 := blk_frozen BK189.out 0; have hfz119_1 := blk_frozen BK189.out 1; have hfz119_2 := blk_frozen BK189.out 2; obtain ⟨Ao120, co120, eo120⟩ := Kd.R_slice HO_8.out; subst eo120; have p190 : 0 ≤ (x35_3 : Int) := of_decide_eq_true (by with_reducible assumption); have q190 : x35_3 < (x8_3.length : Int) := of_decide_eq_true (by with_reducible assumption); obtain ⟨ad190, e190, hx190_0⟩ := Kd.at_int (Kd.R_reads' HO_8.out).2.2 x35_3 p190 q190; cases e190; replace p190 := eq_true p190; replace q190 := eq_true q190; have p86 : 0 ≤ (x35_3 : Int) := of_decide_eq_true (by with_reducible assumption); have q86 : (x35_3 : Int) < ((x8_3.length : Int) : Int) := of_decide_eq_true (by with_reducible assumption); obtain ⟨go86, co86, eo86, gb86, gl86, cl86, HG86⟩ := Kd.R_form HO_8.out (by omega); (first | cases eo86 | (injection eo86 with ea_ en_ ec_; (first | subst ea_ | (injection ea_ with ea_; subst ea_)); subst ec_; clear en_)); have GB86 := Aside0.mk gb86; have GG86 := Aside0.mk HG86; clear gb86 gl86 HG86; (first | simp only [add_plain] at hx190_0 | skip); obtain ⟨hx86_0, hf86_0⟩ := Kd.R_celln 0 HO_8.out (x35_3 : Int) p86 q86; replace p86 := eq_true p86; replace q86 := eq_true q86; obtain ⟨hy121_, hz121_⟩ := Kd.R_celln 0 HO_8.out (x35_3 : Int) (of_decide_eq_true (by with_reducible assumption)) (of_decide_eq_true (by with_reducible assumption)); have HP121 := Kd.R_putg HO_8.out (x35_3 : Int) ((rd_T96 l0 x35_3).f1)) | ((with_reducible refine gate_store (t := 3) (p := 60) rfl ?_); refine store_event (t := 3) (p := 60) (v := ?vo_w122) (w1 := (w118.setCell ⟨go86, (x35_3 : Int).toNat, none⟩ (.int .i64 ((rd_T96 l0 x35_3).f1)))) ?hg ?ho ?hn ?hr ?_; (case ho => rfl); (case hg => rfl); (case hn => rfl); (case hr => first | (go_simp; done) | (go_simp; rfl)); intro w122 hw; have hg : w118.grownBy w122 (some go86) := (by rw [hw]; exact HP121.2); have hp_ : Kd.R (Kd.int .i64) 3 w122 w.heap.size (fun k_ => some k_ ≠ (v177 : Value).ownBlock ∧ some k_ ≠ (v180 : Value).ownBlock) (.slice (some ⟨go86, 0, none⟩) x8_3.length co120) y196 := (by rw [hw, Ny196.out]; exact HP121.1); clear HP121; have n0_ := Aside0.mk (Kd.R_after (v := (.slice (some ⟨go86, 0, none⟩) x8_3.length co120)) (v1 := (.slice (some ⟨go86, 0, none⟩) x8_3.length co120)) (ok := (fun k_ => some k_ ≠ (v180 : Value).ownBlock)) HO_6.out hg (.inl rfl)); have n1_ := Aside0.mk (Kd.R_after (v := (.slice (some ⟨go86, 0, none⟩) x8_3.length co120)) (v1 := (.slice (some ⟨go86, 0, none⟩) x8_3.length co120)) (ok := (fun k_ => some k_ ≠ (v177 : Value).ownBlock)) HO_7.out hg (.inl rfl)); have n2_ := Aside0.mk (hp_); have n3_ := Aside0.mk (blk_grown (g := gb189) (o := .cells #[.int .i64 ((rd_T96 l0 x35_3).f0), .int .i64 ((rd_T96 l0 x35_3).f1), .int .i64 ((rd_T96 l0 x35_3).f2)] 96 (0, 0)) (by exact BK189.out) hg (Kd.R_ne HO_8.out BK189.out (by decide))); have n4_ := Aside0.mk ((by rw [hw]; exact below_set (HB.out) GB86.out : Below w.heap.size w w122)); clear HO_6; clear HO_7; clear HO_8; clear BK189; clear HB; have HO_6 := n0_; have HO_7 := n1_; have HO_8 := n2_; have BK189 := n3_; have HB := n4_; clear n0_ n1_ n2_ n3_ n4_; clear hg hw hp_))
      have n0_ := Aside0.mk (Kd.R_drew HO_6.out)
      have n1_ := Aside0.mk (Kd.R_drew HO_7.out)
      have n2_ := Aside0.mk (Kd.R_drew HO_8.out)
      have n3_ := Aside0.mk (blk_drew BK189.out)
      have n4_ := Aside0.mk (below_drew1 HB.out)
      clear HO_6
      clear HO_7
      clear HO_8
      clear BK189
      clear HB
      have HO_6 := n0_
      have HO_7 := n1_
      have HO_8 := n2_
      have BK189 := n3_
      have HB := n4_
      clear n0_ n1_ n2_ n3_ n4_
      have p197 : 0 ≤ (x35_3 : Int) := of_decide_eq_true (by with_reducible assumption)
      have q197 : x35_3 < (y196.length : Int) := (by have h_ : (x35_3 : Int) < ((x8_3.length : Int) : Int) := of_decide_eq_true (by with_reducible assumption); first | (have e_ := (Kd.R_reads' HO_8.out).1; omega) | simpa only [Ny196.out, List.length_set] using h_)
      have ql197 : ((x35_3 : Int) < ((x8_3.length : Int) : Int)) = True := eq_true (of_decide_eq_true (by with_reducible assumption))
      obtain ⟨ad197, e197, hx197_0⟩ := Kd.at_int (Kd.R_reads' HO_8.out).2.2 x35_3 p197 q197
      obtain rfl : (⟨go86, 0, none⟩ : Addr) = ad197 := (by injection e197)
      (first | simp only [add_plain] at hx197_0 | simp only [add_at] at hx197_0 | simp only [Addr.add, Nat.zero_add] at hx197_0 | skip)
      replace p197 := eq_true p197
      replace q197 := eq_true q197
      refine start_ (n := 19) (S := fun w' => w'.cell? ⟨go86, (x35_3).toNat, none⟩ = some (.int .i64 (rd y196 x35_3))) (ds := []) #[oF,oF,oF,oF,oF,oF,oF,oF,oF,oF,oF,oF,oF,oF,oF,oF,oF,oF,oF] (by kernel_rfl) rfl rfl (hx197_0) (fun hHeld => ?_); refine with_tabW impl_TaskSchedule.tab16 impl_TaskSchedule.bits16 (fun HT_ HW_ => ?_)
      generalize w122.drew = w123 at HO_6 HO_7 HO_8 BK189 HB hx197_0 hHeld ⊢
      refine pure_ (i := 0) (N := some 61) (v := ?_) (a' := ?_) #[oT,oF,oF,oF,oF,oF,oF,oF,oF,oF,oF,oF,oF,oF,oF,oF,oF,oF,oF] rfl rfl (any_of HT_.out (by kernel_rfl)) (fun _ _ _ h => h) (Or.inl ⟨by rfl, ?_⟩) ?_ ?_
      rotate_left
      · intro w'
        go_simp
        with_reducible rfl
      rotate_left
      · simp only [Act.put, List.setIfInBounds_toArray, List.set_cons_zero, List.set_cons_succ, i64_w, i32_w]
        rfl
      refine pure_ (i := 1) (N := some 62) (v := ?_) (a' := ?_) #[oT,oT,oF,oF,oF,oF,oF,oF,oF,oF,oF,oF,oF,oF,oF,oF,oF,oF,oF] rfl rfl (any_of HT_.out (by kernel_rfl)) (fun _ _ _ h => h) (Or.inl ⟨by rfl, ?_⟩) ?_ ?_
      rotate_left
      · intro w'
        go_simp
        with_reducible rfl
      rotate_left
      · simp only [Act.put, List.setIfInBounds_toArray, List.set_cons_zero, List.set_cons_succ, i64_w, i32_w]
        rfl
      refine pure_ (i := 2) (N := some 63) (v := ?_) (a' := ?_) #[oT,oT,oT,oF,oF,oF,oF,oF,oF,oF,oF,oF,oF,oF,oF,oF,oF,oF,oF] rfl rfl (any_of HT_.out (by kernel_rfl)) (fun _ _ _ h => h) (Or.inl ⟨by rfl, ?_⟩) ?_ ?_
      rotate_left
      · intro w'
        go_simp
        with_reducible rfl
      rotate_left
      · simp only [Act.put, List.setIfInBounds_toArray, List.set_cons_zero, List.set_cons_succ, i64_w, i32_w]
        rfl
      refine take_ (i := 3) (N := some 64) (v := ?_) (a' := ?_) #[oT,oT,oT,oT,oF,oF,oF,oF,oF,oF,oF,oF,oF,oF,oF,oF,oF,oF,oF] rfl rfl (take_ofW HT_.out HW_.out (by kernel_rfl)) (fun _ _ _ h => h) (Or.inl ⟨by rfl, ?_⟩) hHeld ?_ ?_
      rotate_left
      · intro w' s0
        go_simp
        with_reducible rfl
      rotate_left
      · simp only [Act.put, List.setIfInBounds_toArray, List.set_cons_zero, List.set_cons_succ, i64_w, i32_w]
        rfl
      refine pure_ (i := 4) (N := some 65) (v := ?_) (a' := ?_) #[oT,oT,oT,oT,oT,oF,oF,oF,oF,oF,oF,oF,oF,oF,oF,oF,oF,oF,oF] rfl rfl (any_of HT_.out (by kernel_rfl)) (fun _ _ _ h => h) (Or.inl ⟨by rfl, ?_⟩) ?_ ?_
      rotate_left
      · intro w'
        go_simp
        with_reducible rfl
      rotate_left
      · simp only [Act.put, List.setIfInBounds_toArray, List.set_cons_zero, List.set_cons_succ, i64_w, i32_w]
        rfl
      refine pure_ (i := 5) (N := some 66) (v := ?_) (a' := ?_) #[oT,oT,oT,oT,oT,oT,oF,oF,oF,oF,oF,oF,oF,oF,oF,oF,oF,oF,oF] rfl rfl (any_of HT_.out (by kernel_rfl)) (fun _ _ _ h => h) (Or.inl ⟨by rfl, ?_⟩) ?_ ?_
      rotate_left
      · intro w'
        go_simp
        with_reducible rfl
      rotate_left
      · simp only [Act.put, List.setIfInBounds_toArray, List.set_cons_zero, List.set_cons_succ, i64_w, i32_w]
        rfl
      refine pure_ (i := 6) (N := some 67) (v := undef) (a' := ?_) #[oT,oT,oT,oT,oT,oT,oT,oF,oF,oF,oF,oF,oF,oF,oF,oF,oF,oF,oF] rfl rfl (any_of HT_.out (by kernel_rfl)) (fun _ _ _ h => h) (Or.inr ⟨by rfl, rfl⟩) ?_ ?_
      rotate_left
      · simp only [Act.put, List.setIfInBounds_toArray, List.set_cons_zero, List.set_cons_succ, i64_w, i32_w]
        rfl
      refine pure_ (i := 7) (N := some 68) (v := undef) (a' := ?_) #[oT,oT,oT,oT,oT,oT,oT,oT,oF,oF,oF,oF,oF,oF,oF,oF,oF,oF,oF] rfl rfl (any_of HT_.out (by kernel_rfl)) (fun _ _ _ h => h) (Or.inr ⟨by rfl, rfl⟩) ?_ ?_
      rotate_left
      · simp only [Act.put, List.setIfInBounds_toArray, List.set_cons_zero, List.set_cons_succ, i64_w, i32_w]
        rfl
      refine pure_ (i := 8) (N := some 69) (v := undef) (a' := ?_) #[oT,oT,oT,oT,oT,oT,oT,oT,oT,oF,oF,oF,oF,oF,oF,oF,oF,oF,oF] rfl rfl (any_of HT_.out (by kernel_rfl)) (fun _ _ _ h => h) (Or.inr ⟨by rfl, rfl⟩) ?_ ?_
      rotate_left
      · simp only [Act.put, List.setIfInBounds_toArray, List.set_cons_zero, List.set_cons_succ, i64_w, i32_w]
        rfl
      refine pure_ (i := 9) (N := some 70) (v := undef) (a' := ?_) #[oT,oT,oT,oT,oT,oT,oT,oT,oT,oT,oF,oF,oF,oF,oF,oF,oF,oF,oF] rfl rfl (any_of HT_.out (by kernel_rfl)) (fun _ _ _ h => h) (Or.inr ⟨by rfl, rfl⟩) ?_ ?_
      rotate_left
      · simp only [Act.put, List.setIfInBounds_toArray, List.set_cons_zero, List.set_cons_succ, i64_w, i32_w]
        rfl
      refine pure_ (i := 10) (N := some 71) (v := undef) (a' := ?_) #[oT,oT,oT,oT,oT,oT,oT,oT,oT,oT,oT,oF,oF,oF,oF,oF,oF,oF,oF] rfl rfl (any_of HT_.out (by kernel_rfl)) (fun _ _ _ h => h) (Or.inr ⟨by rfl, rfl⟩) ?_ ?_
      rotate_left
      · simp only [Act.put, List.setIfInBounds_toArray, List.set_cons_zero, List.set_cons_succ, i64_w, i32_w]
        rfl
      refine pure_ (i := 11) (N := some 72) (v := undef) (a' := ?_) #[oT,oT,oT,oT,oT,oT,oT,oT,oT,oT,oT,oT,oF,oF,oF,oF,oF,oF,oF] rfl rfl (any_of HT_.out (by kernel_rfl)) (fun _ _ _ h => h) (Or.inr ⟨by rfl, rfl⟩) ?_ ?_
      rotate_left
      · simp only [Act.put, List.setIfInBounds_toArray, List.set_cons_zero, List.set_cons_succ, i64_w, i32_w]
        rfl
      refine pure_ (i := 12) (N := some 73) (v := undef) (a' := ?_) #[oT,oT,oT,oT,oT,oT,oT,oT,oT,oT,oT,oT,oT,oF,oF,oF,oF,oF,oF] rfl rfl (any_of HT_.out (by kernel_rfl)) (fun _ _ _ h => h) (Or.inr ⟨by rfl, rfl⟩) ?_ ?_
      rotate_left
      · simp only [Act.put, List.setIfInBounds_toArray, List.set_cons_zero, List.set_cons_succ, i64_w, i32_w]
        rfl
      refine pure_ (i := 13) (N := some 74) (v := undef) (a' := ?_) #[oT,oT,oT,oT,oT,oT,oT,oT,oT,oT,oT,oT,oT,oT,oF,oF,oF,oF,oF] rfl rfl (any_of HT_.out (by kernel_rfl)) (fun _ _ _ h => h) (Or.inr ⟨by rfl, rfl⟩) ?_ ?_
      rotate_left
      · simp only [Act.put, List.setIfInBounds_toArray, List.set_cons_zero, List.set_cons_succ, i64_w, i32_w]
        rfl
      refine pure_ (i := 14) (N := some 75) (v := undef) (a' := ?_) #[oT,oT,oT,oT,oT,oT,oT,oT,oT,oT,oT,oT,oT,oT,oT,oF,oF,oF,oF] rfl rfl (any_of HT_.out (by kernel_rfl)) (fun _ _ _ h => h) (Or.inr ⟨by rfl, rfl⟩) ?_ ?_
      rotate_left
      · simp only [Act.put, List.setIfInBounds_toArray, List.set_cons_zero, List.set_cons_succ, i64_w, i32_w]
        rfl
      refine pure_ (i := 15) (N := some 76) (v := undef) (a' := ?_) #[oT,oT,oT,oT,oT,oT,oT,oT,oT,oT,oT,oT,oT,oT,oT,oT,oF,oF,oF] rfl rfl (any_of HT_.out (by kernel_rfl)) (fun _ _ _ h => h) (Or.inr ⟨by rfl, rfl⟩) ?_ ?_
      rotate_left
      · simp only [Act.put, List.setIfInBounds_toArray, List.set_cons_zero, List.set_cons_succ, i64_w, i32_w]
        rfl
      refine pure_ (i := 16) (N := some 77) (v := undef) (a' := ?_) #[oT,oT,oT,oT,oT,oT,oT,oT,oT,oT,oT,oT,oT,oT,oT,oT,oT,oF,oF] rfl rfl (any_of HT_.out (by kernel_rfl)) (fun _ _ _ h => h) (Or.inr ⟨by rfl, rfl⟩) ?_ ?_
      rotate_left
      · simp only [Act.put, List.setIfInBounds_toArray, List.set_cons_zero, List.set_cons_succ, i64_w, i32_w]
        rfl
      refine pure_ (i := 17) (N := some 78) (v := undef) (a' := ?_) #[oT,oT,oT,oT,oT,oT,oT,oT,oT,oT,oT,oT,oT,oT,oT,oT,oT,oT,oF] rfl rfl (any_of HT_.out (by kernel_rfl)) (fun _ _ _ h => h) (Or.inr ⟨by rfl, rfl⟩) ?_ ?_
      rotate_left
      · simp only [Act.put, List.setIfInBounds_toArray, List.set_cons_zero, List.set_cons_succ, i64_w, i32_w]
        rfl
      refine pure_ (i := 18) (N := some 79) (v := ?_) (a' := ?_) #[oT,oT,oT,oT,oT,oT,oT,oT,oT,oT,oT,oT,oT,oT,oT,oT,oT,oT,oT] rfl rfl (any_of HT_.out (by kernel_rfl)) (fun _ _ _ h => h) (Or.inl ⟨by rfl, ?_⟩) ?_ ?_
      rotate_left
      · intro w'
        go_simp
        with_reducible rfl
      rotate_left
      · simp only [Act.put, List.setIfInBounds_toArray, List.set_cons_zero, List.set_cons_succ, i64_w, i32_w]
        rfl
      refine done_ (done_of HT_.out (by kernel_rfl)) ?_
      try go_wp2
      go_roundg k3
      case measure => have := HJ2.out; have := HK2.out; have := HK3.out; omega
      case rel => exact ⟨(x7_3), (y196), (x10_3), (wrap64 (x35_3 + 1)), (by first | rfl | (simp; done) | (simp [*]; done)), (by first | rfl | (simp; done) | (simp [*]; done)), H', ⟨by have := HJ2.out; have := HK2.out; have := HK3.out; omega⟩, ⟨by (with_reducible repeat (first | apply Kd.R_alloc | apply Kd.R_drewN | apply Kd.R_drew)); exact HO_6.out⟩, ⟨by (with_reducible repeat (first | apply Kd.R_alloc | apply Kd.R_drewN | apply Kd.R_drew)); exact HO_7.out⟩, ⟨by (with_reducible repeat (first | apply Kd.R_alloc | apply Kd.R_drewN | apply Kd.R_drew)); exact HO_8.out⟩, ⟨by repeat (first | (with_reducible first | exact HB.out | apply below_alloc | apply pw_below_drewN | apply below_drew1 | refine below_set ?_ GE189.out) | exact HB.out)⟩⟩
    rw [if_pos c87] at H
    have c87b0 : decide (0 < (rd y196 x35_3)) = true := decide_eq_true c87
    clear c87
    by_cases c88 : x10_3 < 0
    · rw [if_pos c88] at H
      have c88b0 : decide (x10_3 < 0) = true := decide_eq_true c88
      clear c88
      have H' := Aside0.mk H
      clear H
      have p188 : 0 ≤ (x35_3 : Int) := of_decide_eq_true (by with_reducible assumption)
      have q188 : x35_3 < (l0.length : Int) := of_decide_eq_true (by with_reducible assumption)
      obtain ⟨ad188, e188, hx188_0, hx188_1, hx188_2⟩ := at_T96 HR0.out x35_3 p188 q188
      cases e188
      replace hx188_0 := (HB.out.cell (World.block_lt_of_cell? w _ hx188_0)).trans hx188_0
      replace hx188_1 := (HB.out.cell (World.block_lt_of_cell? w _ hx188_1)).trans hx188_1
      replace hx188_2 := (HB.out.cell (World.block_lt_of_cell? w _ hx188_2)).trans hx188_2
      replace p188 := eq_true p188
      replace q188 := eq_true q188
      try go_wp2_with (first | ((with_reducible refine gate_dst (N := 12) rfl ?_); refine box_event ?hg (N := 12) ?hd (cs := #[.int .i64 0, .int .i64 0, .int .i64 0]) (t := 96) ?hr ?_; (case hd => rfl); (case hg => rfl); (case hr => first | (go_simp; done) | (go_simp; rfl)); intro gb189 hg w89 hbox hb; have n0_ := Aside0.mk (Kd.R_below HO_6.out hb); have n1_ := Aside0.mk (Kd.R_below HO_7.out hb); have n2_ := Aside0.mk (Kd.R_below HO_8.out hb); have n3_ := Aside0.mk (below_step HB.out hb); have n4_ := Aside0.mk (hbox); have n5_ := Aside0.mk ((by rw [hg]; exact (below_size HB.out) : w.heap.size ≤ gb189)); have n6_ := Aside0.mk ((by rw [hg]; exact (below_size HB.out) : w.heap.size ≤ gb189)); clear HO_6; clear HO_7; clear HO_8; clear HB; have HO_6 := n0_; have HO_7 := n1_; have HO_8 := n2_; have HB := n3_; have BK189 := n4_; have GW189 := n5_; have GE189 := n6_; clear n0_ n1_ n2_ n3_ n4_ n5_ n6_; clear hb hbox hg; have hcz90_0 : w89.cell? ⟨gb189, 0, none⟩ = some (.int .i64 0) := (blk_cell BK189.out 0).trans rfl; have hcz90_1 : w89.cell? ⟨gb189, 1, none⟩ = some (.int .i64 0) := (blk_cell BK189.out 1).trans rfl; have hcz90_2 : w89.cell? ⟨gb189, 2, none⟩ = some (.int .i64 0) := (blk_cell BK189.out 2).trans rfl; have hfz90_0 := blk_frozen BK189.out 0; have hfz90_1 := blk_frozen BK189.out 1; have hfz90_2 := blk_frozen BK189.out 2) | ((with_reducible refine gate_store (t := 96) (p := 12) rfl ?_); refine store_event (t := 96) (p := 12) (v := ?vo_w91) (w1 := (((w89.setCell ⟨gb189, 0, none⟩ (.int .i64 ((rd_T96 l0 x35_3).f0))).setCell ⟨gb189, 1, none⟩ (.int .i64 ((rd_T96 l0 x35_3).f1))).setCell ⟨gb189, 2, none⟩ (.int .i64 ((rd_T96 l0 x35_3).f2)))) ?hg ?ho ?hn ?hr ?_; (case ho => rfl); (case hg => rfl); (case hn => rfl); (case hr => first | (go_simp; done) | (go_simp; rfl)); intro w91 hw; have n0_ : Aside0 (Kd.R (Kd.int .i64) 3 w91 w.heap.size (fun k_ => some k_ ≠ (v180 : Value).ownBlock ∧ some k_ ≠ (v183 : Value).ownBlock) v177 x6_2) := ⟨(by rw [hw]; exact (by exact Kd.R_mono (Kd.R_far (p := ⟨gb189, 2, none⟩) (Kd.R_far (p := ⟨gb189, 1, none⟩) (Kd.R_far (p := ⟨gb189, 0, none⟩) (Kd.R_types HO_6.out BK189.out (by decide)) (fun _ hk => hk.2) (.int .i64 ((rd_T96 l0 x35_3).f0))) (fun _ hk => hk.2) (.int .i64 ((rd_T96 l0 x35_3).f1))) (fun _ hk => hk.2) (.int .i64 ((rd_T96 l0 x35_3).f2))) (fun _ hk => ⟨hk.1.1, hk.1.2⟩)))⟩; have n1_ : Aside0 (Kd.R (Kd.int .i64) 3 w91 w.heap.size (fun k_ => some k_ ≠ (v177 : Value).ownBlock ∧ some k_ ≠ (v183 : Value).ownBlock) v180 x7_3) := ⟨(by rw [hw]; exact (by exact Kd.R_mono (Kd.R_far (p := ⟨gb189, 2, none⟩) (Kd.R_far (p := ⟨gb189, 1, none⟩) (Kd.R_far (p := ⟨gb189, 0, none⟩) (Kd.R_types HO_7.out BK189.out (by decide)) (fun _ hk => hk.2) (.int .i64 ((rd_T96 l0 x35_3).f0))) (fun _ hk => hk.2) (.int .i64 ((rd_T96 l0 x35_3).f1))) (fun _ hk => hk.2) (.int .i64 ((rd_T96 l0 x35_3).f2))) (fun _ hk => ⟨hk.1.1, hk.1.2⟩)))⟩; have n2_ : Aside0 (Kd.R (Kd.int .i64) 3 w91 w.heap.size (fun k_ => some k_ ≠ (v177 : Value).ownBlock ∧ some k_ ≠ (v180 : Value).ownBlock) v183 x8_3) := ⟨(by rw [hw]; exact (by exact Kd.R_mono (Kd.R_far (p := ⟨gb189, 2, none⟩) (Kd.R_far (p := ⟨gb189, 1, none⟩) (Kd.R_far (p := ⟨gb189, 0, none⟩) (Kd.R_types HO_8.out BK189.out (by decide)) (fun _ hk => hk.2) (.int .i64 ((rd_T96 l0 x35_3).f0))) (fun _ hk => hk.2) (.int .i64 ((rd_T96 l0 x35_3).f1))) (fun _ hk => hk.2) (.int .i64 ((rd_T96 l0 x35_3).f2))) (fun _ hk => ⟨hk.1.1, hk.1.2⟩)))⟩; have n3_ : Aside0 (w91.heap[gb189]? = some (.cells #[.int .i64 ((rd_T96 l0 x35_3).f0), .int .i64 ((rd_T96 l0 x35_3).f1), .int .i64 ((rd_T96 l0 x35_3).f2)] 96 (0, 0))) := ⟨(by rw [hw]; exact (by refine blk_put (cs := #[.int .i64 ((rd_T96 l0 x35_3).f0), .int .i64 ((rd_T96 l0 x35_3).f1), .int .i64 0]) ?_ 2 _ rfl; refine blk_put (cs := #[.int .i64 ((rd_T96 l0 x35_3).f0), .int .i64 0, .int .i64 0]) ?_ 1 _ rfl; refine blk_put (cs := #[.int .i64 0, .int .i64 0, .int .i64 0]) ?_ 0 _ rfl; exact BK189.out))⟩; have n4_ : Aside0 (Below w.heap.size w w91) := ⟨(by rw [hw]; exact (by repeat (first | (with_reducible first | exact HB.out | apply below_alloc | apply pw_below_drewN | apply below_drew1 | refine below_set ?_ GE189.out) | exact HB.out)))⟩; clear hw; clear HO_6; clear HO_7; clear HO_8; clear BK189; clear HB; have HO_6 := n0_; have HO_7 := n1_; have HO_8 := n2_; have BK189 := n3_; have HB := n4_; clear n0_ n1_ n2_ n3_ n4_; have hcz92_0 : w91.cell? ⟨gb189, 0, none⟩ = some (.int .i64 ((rd_T96 l0 x35_3).f0)) := (blk_cell BK189.out 0).trans rfl; have hcz92_1 : w91.cell? ⟨gb189, 1, none⟩ = some (.int .i64 ((rd_T96 l0 x35_3).f1)) := (blk_cell BK189.out 1).trans rfl; have hcz92_2 : w91.cell? ⟨gb189, 2, none⟩ = some (.int .i64 ((rd_T96 l0 x35_3).f2)) := (blk_cell BK189.out 2).trans rfl; have hfz92_0 := blk_frozen BK189.out 0; have hfz92_1 := blk_frozen BK189.out 1; have hfz92_2 := blk_frozen BK189.out 2; obtain ⟨Ao93, co93, eo93⟩ := Kd.R_slice HO_8.out; subst eo93; have p190 : 0 ≤ (x35_3 : Int) := of_decide_eq_true (by with_reducible assumption); have q190 : x35_3 < (x8_3.length : Int) := of_decide_eq_true (by with_reducible assumption); obtain ⟨ad190, e190, hx190_0⟩ := Kd.at_int (Kd.R_reads' HO_8.out).2.2 x35_3 p190 q190; cases e190; replace p190 := eq_true p190; replace q190 := eq_true q190; have p86 : 0 ≤ (x35_3 : Int) := of_decide_eq_true (by with_reducible assumption); have q86 : (x35_3 : Int) < ((x8_3.length : Int) : Int) := of_decide_eq_true (by with_reducible assumption); obtain ⟨go86, co86, eo86, gb86, gl86, cl86, HG86⟩ := Kd.R_form HO_8.out (by omega); (first | cases eo86 | (injection eo86 with ea_ en_ ec_; (first | subst ea_ | (injection ea_ with ea_; subst ea_)); subst ec_; clear en_)); have GB86 := Aside0.mk gb86; have GG86 := Aside0.mk HG86; clear gb86 gl86 HG86; (first | simp only [add_plain] at hx190_0 | skip); obtain ⟨hx86_0, hf86_0⟩ := Kd.R_celln 0 HO_8.out (x35_3 : Int) p86 q86; replace p86 := eq_true p86; replace q86 := eq_true q86; obtain ⟨hy94_, hz94_⟩ := Kd.R_celln 0 HO_8.out (x35_3 : Int) (of_decide_eq_true (by with_reducible assumption)) (of_decide_eq_true (by with_reducible assumption)); have HP94 := Kd.R_putg HO_8.out (x35_3 : Int) ((rd_T96 l0 x35_3).f1)) | ((with_reducible refine gate_store (t := 3) (p := 60) rfl ?_); refine store_event (t := 3) (p := 60) (v := ?vo_w95) (w1 := (w91.setCell ⟨go86, (x35_3 : Int).toNat, none⟩ (.int .i64 ((rd_T96 l0 x35_3).f1)))) ?hg ?ho ?hn ?hr ?_; (case ho => rfl); (case hg => rfl); (case hn => rfl); (case hr => first | (go_simp; done) | (go_simp; rfl)); intro w95 hw; have hg : w91.grownBy w95 (some go86) := (by rw [hw]; exact HP94.2); have hp_ : Kd.R (Kd.int .i64) 3 w95 w.heap.size (fun k_ => some k_ ≠ (v177 : Value).ownBlock ∧ some k_ ≠ (v180 : Value).ownBlock) (.slice (some ⟨go86, 0, none⟩) x8_3.length co93) y196 := (by rw [hw, Ny196.out]; exact HP94.1); clear HP94; have n0_ := Aside0.mk (Kd.R_after (v := (.slice (some ⟨go86, 0, none⟩) x8_3.length co93)) (v1 := (.slice (some ⟨go86, 0, none⟩) x8_3.length co93)) (ok := (fun k_ => some k_ ≠ (v180 : Value).ownBlock)) HO_6.out hg (.inl rfl)); have n1_ := Aside0.mk (Kd.R_after (v := (.slice (some ⟨go86, 0, none⟩) x8_3.length co93)) (v1 := (.slice (some ⟨go86, 0, none⟩) x8_3.length co93)) (ok := (fun k_ => some k_ ≠ (v177 : Value).ownBlock)) HO_7.out hg (.inl rfl)); have n2_ := Aside0.mk (hp_); have n3_ := Aside0.mk (blk_grown (g := gb189) (o := .cells #[.int .i64 ((rd_T96 l0 x35_3).f0), .int .i64 ((rd_T96 l0 x35_3).f1), .int .i64 ((rd_T96 l0 x35_3).f2)] 96 (0, 0)) (by exact BK189.out) hg (Kd.R_ne HO_8.out BK189.out (by decide))); have n4_ := Aside0.mk ((by rw [hw]; exact below_set (HB.out) GB86.out : Below w.heap.size w w95)); clear HO_6; clear HO_7; clear HO_8; clear BK189; clear HB; have HO_6 := n0_; have HO_7 := n1_; have HO_8 := n2_; have BK189 := n3_; have HB := n4_; clear n0_ n1_ n2_ n3_ n4_; clear hg hw hp_))
      have n0_ := Aside0.mk (Kd.R_drew HO_6.out)
      have n1_ := Aside0.mk (Kd.R_drew HO_7.out)
      have n2_ := Aside0.mk (Kd.R_drew HO_8.out)
      have n3_ := Aside0.mk (blk_drew BK189.out)
      have n4_ := Aside0.mk (below_drew1 HB.out)
      clear HO_6
      clear HO_7
      clear HO_8
      clear BK189
      clear HB
      have HO_6 := n0_
      have HO_7 := n1_
      have HO_8 := n2_
      have BK189 := n3_
      have HB := n4_
      clear n0_ n1_ n2_ n3_ n4_
      have p197 : 0 ≤ (x35_3 : Int) := of_decide_eq_true (by with_reducible assumption)
      have q197 : x35_3 < (y196.length : Int) := (by have h_ : (x35_3 : Int) < ((x8_3.length : Int) : Int) := of_decide_eq_true (by with_reducible assumption); first | (have e_ := (Kd.R_reads' HO_8.out).1; omega) | simpa only [Ny196.out, List.length_set] using h_)
      have ql197 : ((x35_3 : Int) < ((x8_3.length : Int) : Int)) = True := eq_true (of_decide_eq_true (by with_reducible assumption))
      obtain ⟨ad197, e197, hx197_0⟩ := Kd.at_int (Kd.R_reads' HO_8.out).2.2 x35_3 p197 q197
      obtain rfl : (⟨go86, 0, none⟩ : Addr) = ad197 := (by injection e197)
      (first | simp only [add_plain] at hx197_0 | simp only [add_at] at hx197_0 | simp only [Addr.add, Nat.zero_add] at hx197_0 | skip)
      replace p197 := eq_true p197
      replace q197 := eq_true q197
      refine start_ (n := 19) (S := fun w' => w'.cell? ⟨go86, (x35_3).toNat, none⟩ = some (.int .i64 (rd y196 x35_3))) (ds := []) #[oF,oF,oF,oF,oF,oF,oF,oF,oF,oF,oF,oF,oF,oF,oF,oF,oF,oF,oF] (by kernel_rfl) rfl rfl (hx197_0) (fun hHeld => ?_); refine with_tabW impl_TaskSchedule.tab16 impl_TaskSchedule.bits16 (fun HT_ HW_ => ?_)
      generalize w95.drew = w96 at HO_6 HO_7 HO_8 BK189 HB hx197_0 hHeld ⊢
      refine pure_ (i := 0) (N := some 61) (v := ?_) (a' := ?_) #[oT,oF,oF,oF,oF,oF,oF,oF,oF,oF,oF,oF,oF,oF,oF,oF,oF,oF,oF] rfl rfl (any_of HT_.out (by kernel_rfl)) (fun _ _ _ h => h) (Or.inl ⟨by rfl, ?_⟩) ?_ ?_
      rotate_left
      · intro w'
        go_simp
        with_reducible rfl
      rotate_left
      · simp only [Act.put, List.setIfInBounds_toArray, List.set_cons_zero, List.set_cons_succ, i64_w, i32_w]
        rfl
      refine pure_ (i := 1) (N := some 62) (v := ?_) (a' := ?_) #[oT,oT,oF,oF,oF,oF,oF,oF,oF,oF,oF,oF,oF,oF,oF,oF,oF,oF,oF] rfl rfl (any_of HT_.out (by kernel_rfl)) (fun _ _ _ h => h) (Or.inl ⟨by rfl, ?_⟩) ?_ ?_
      rotate_left
      · intro w'
        go_simp
        with_reducible rfl
      rotate_left
      · simp only [Act.put, List.setIfInBounds_toArray, List.set_cons_zero, List.set_cons_succ, i64_w, i32_w]
        rfl
      refine pure_ (i := 2) (N := some 63) (v := ?_) (a' := ?_) #[oT,oT,oT,oF,oF,oF,oF,oF,oF,oF,oF,oF,oF,oF,oF,oF,oF,oF,oF] rfl rfl (any_of HT_.out (by kernel_rfl)) (fun _ _ _ h => h) (Or.inl ⟨by rfl, ?_⟩) ?_ ?_
      rotate_left
      · intro w'
        go_simp
        with_reducible rfl
      rotate_left
      · simp only [Act.put, List.setIfInBounds_toArray, List.set_cons_zero, List.set_cons_succ, i64_w, i32_w]
        rfl
      refine take_ (i := 3) (N := some 64) (v := ?_) (a' := ?_) #[oT,oT,oT,oT,oF,oF,oF,oF,oF,oF,oF,oF,oF,oF,oF,oF,oF,oF,oF] rfl rfl (take_ofW HT_.out HW_.out (by kernel_rfl)) (fun _ _ _ h => h) (Or.inl ⟨by rfl, ?_⟩) hHeld ?_ ?_
      rotate_left
      · intro w' s0
        go_simp
        with_reducible rfl
      rotate_left
      · simp only [Act.put, List.setIfInBounds_toArray, List.set_cons_zero, List.set_cons_succ, i64_w, i32_w]
        rfl
      refine pure_ (i := 4) (N := some 65) (v := ?_) (a' := ?_) #[oT,oT,oT,oT,oT,oF,oF,oF,oF,oF,oF,oF,oF,oF,oF,oF,oF,oF,oF] rfl rfl (any_of HT_.out (by kernel_rfl)) (fun _ _ _ h => h) (Or.inl ⟨by rfl, ?_⟩) ?_ ?_
      rotate_left
      · intro w'
        go_simp
        with_reducible rfl
      rotate_left
      · simp only [Act.put, List.setIfInBounds_toArray, List.set_cons_zero, List.set_cons_succ, i64_w, i32_w]
        rfl
      refine pure_ (i := 5) (N := some 66) (v := ?_) (a' := ?_) #[oT,oT,oT,oT,oT,oT,oF,oF,oF,oF,oF,oF,oF,oF,oF,oF,oF,oF,oF] rfl rfl (any_of HT_.out (by kernel_rfl)) (fun _ _ _ h => h) (Or.inl ⟨by rfl, ?_⟩) ?_ ?_
      rotate_left
      · intro w'
        go_simp
        with_reducible rfl
      rotate_left
      · simp only [Act.put, List.setIfInBounds_toArray, List.set_cons_zero, List.set_cons_succ, i64_w, i32_w]
        rfl
      refine pure_ (i := 6) (N := some 67) (v := ?_) (a' := ?_) #[oT,oT,oT,oT,oT,oT,oT,oF,oF,oF,oF,oF,oF,oF,oF,oF,oF,oF,oF] rfl rfl (any_of HT_.out (by kernel_rfl)) (fun _ _ _ h => h) (Or.inl ⟨by rfl, ?_⟩) ?_ ?_
      rotate_left
      · intro w'
        go_simp
        with_reducible rfl
      rotate_left
      · simp only [Act.put, List.setIfInBounds_toArray, List.set_cons_zero, List.set_cons_succ, i64_w, i32_w]
        rfl
      refine pure_ (i := 7) (N := some 68) (v := ?_) (a' := ?_) #[oT,oT,oT,oT,oT,oT,oT,oT,oF,oF,oF,oF,oF,oF,oF,oF,oF,oF,oF] rfl rfl (any_of HT_.out (by kernel_rfl)) (fun _ _ _ h => h) (Or.inl ⟨by rfl, ?_⟩) ?_ ?_
      rotate_left
      · intro w'
        go_simp
        with_reducible rfl
      rotate_left
      · simp only [Act.put, List.setIfInBounds_toArray, List.set_cons_zero, List.set_cons_succ, i64_w, i32_w]
        rfl
      refine pure_ (i := 8) (N := some 69) (v := ?_) (a' := ?_) #[oT,oT,oT,oT,oT,oT,oT,oT,oT,oF,oF,oF,oF,oF,oF,oF,oF,oF,oF] rfl rfl (any_of HT_.out (by kernel_rfl)) (fun _ _ _ h => h) (Or.inl ⟨by rfl, ?_⟩) ?_ ?_
      rotate_left
      · intro w'
        go_simp
        with_reducible rfl
      rotate_left
      · simp only [Act.put, List.setIfInBounds_toArray, List.set_cons_zero, List.set_cons_succ, i64_w, i32_w]
        rfl
      refine pure_ (i := 9) (N := some 70) (v := undef) (a' := ?_) #[oT,oT,oT,oT,oT,oT,oT,oT,oT,oT,oF,oF,oF,oF,oF,oF,oF,oF,oF] rfl rfl (any_of HT_.out (by kernel_rfl)) (fun _ _ _ h => h) (Or.inr ⟨by rfl, rfl⟩) ?_ ?_
      rotate_left
      · simp only [Act.put, List.setIfInBounds_toArray, List.set_cons_zero, List.set_cons_succ, i64_w, i32_w]
        rfl
      refine pure_ (i := 10) (N := some 71) (v := undef) (a' := ?_) #[oT,oT,oT,oT,oT,oT,oT,oT,oT,oT,oT,oF,oF,oF,oF,oF,oF,oF,oF] rfl rfl (any_of HT_.out (by kernel_rfl)) (fun _ _ _ h => h) (Or.inr ⟨by rfl, rfl⟩) ?_ ?_
      rotate_left
      · simp only [Act.put, List.setIfInBounds_toArray, List.set_cons_zero, List.set_cons_succ, i64_w, i32_w]
        rfl
      refine pure_ (i := 11) (N := some 72) (v := undef) (a' := ?_) #[oT,oT,oT,oT,oT,oT,oT,oT,oT,oT,oT,oT,oF,oF,oF,oF,oF,oF,oF] rfl rfl (any_of HT_.out (by kernel_rfl)) (fun _ _ _ h => h) (Or.inr ⟨by rfl, rfl⟩) ?_ ?_
      rotate_left
      · simp only [Act.put, List.setIfInBounds_toArray, List.set_cons_zero, List.set_cons_succ, i64_w, i32_w]
        rfl
      refine pure_ (i := 12) (N := some 73) (v := undef) (a' := ?_) #[oT,oT,oT,oT,oT,oT,oT,oT,oT,oT,oT,oT,oT,oF,oF,oF,oF,oF,oF] rfl rfl (any_of HT_.out (by kernel_rfl)) (fun _ _ _ h => h) (Or.inr ⟨by rfl, rfl⟩) ?_ ?_
      rotate_left
      · simp only [Act.put, List.setIfInBounds_toArray, List.set_cons_zero, List.set_cons_succ, i64_w, i32_w]
        rfl
      refine pure_ (i := 13) (N := some 74) (v := undef) (a' := ?_) #[oT,oT,oT,oT,oT,oT,oT,oT,oT,oT,oT,oT,oT,oT,oF,oF,oF,oF,oF] rfl rfl (any_of HT_.out (by kernel_rfl)) (fun _ _ _ h => h) (Or.inr ⟨by rfl, rfl⟩) ?_ ?_
      rotate_left
      · simp only [Act.put, List.setIfInBounds_toArray, List.set_cons_zero, List.set_cons_succ, i64_w, i32_w]
        rfl
      refine pure_ (i := 14) (N := some 75) (v := undef) (a' := ?_) #[oT,oT,oT,oT,oT,oT,oT,oT,oT,oT,oT,oT,oT,oT,oT,oF,oF,oF,oF] rfl rfl (any_of HT_.out (by kernel_rfl)) (fun _ _ _ h => h) (Or.inr ⟨by rfl, rfl⟩) ?_ ?_
      rotate_left
      · simp only [Act.put, List.setIfInBounds_toArray, List.set_cons_zero, List.set_cons_succ, i64_w, i32_w]
        rfl
      refine pure_ (i := 15) (N := some 76) (v := undef) (a' := ?_) #[oT,oT,oT,oT,oT,oT,oT,oT,oT,oT,oT,oT,oT,oT,oT,oT,oF,oF,oF] rfl rfl (any_of HT_.out (by kernel_rfl)) (fun _ _ _ h => h) (Or.inr ⟨by rfl, rfl⟩) ?_ ?_
      rotate_left
      · simp only [Act.put, List.setIfInBounds_toArray, List.set_cons_zero, List.set_cons_succ, i64_w, i32_w]
        rfl
      refine pure_ (i := 16) (N := some 77) (v := undef) (a' := ?_) #[oT,oT,oT,oT,oT,oT,oT,oT,oT,oT,oT,oT,oT,oT,oT,oT,oT,oF,oF] rfl rfl (any_of HT_.out (by kernel_rfl)) (fun _ _ _ h => h) (Or.inr ⟨by rfl, rfl⟩) ?_ ?_
      rotate_left
      · simp only [Act.put, List.setIfInBounds_toArray, List.set_cons_zero, List.set_cons_succ, i64_w, i32_w]
        rfl
      refine pure_ (i := 17) (N := some 78) (v := ?_) (a' := ?_) #[oT,oT,oT,oT,oT,oT,oT,oT,oT,oT,oT,oT,oT,oT,oT,oT,oT,oT,oF] rfl rfl (any_of HT_.out (by kernel_rfl)) (fun _ _ _ h => h) (Or.inl ⟨by rfl, ?_⟩) ?_ ?_
      rotate_left
      · intro w'
        go_simp
        with_reducible rfl
      rotate_left
      · simp only [Act.put, List.setIfInBounds_toArray, List.set_cons_zero, List.set_cons_succ, i64_w, i32_w]
        rfl
      refine pure_ (i := 18) (N := some 79) (v := ?_) (a' := ?_) #[oT,oT,oT,oT,oT,oT,oT,oT,oT,oT,oT,oT,oT,oT,oT,oT,oT,oT,oT] rfl rfl (any_of HT_.out (by kernel_rfl)) (fun _ _ _ h => h) (Or.inl ⟨by rfl, ?_⟩) ?_ ?_
      rotate_left
      · intro w'
        go_simp
        with_reducible rfl
      rotate_left
      · simp only [Act.put, List.setIfInBounds_toArray, List.set_cons_zero, List.set_cons_succ, i64_w, i32_w]
        rfl
      refine done_ (done_of HT_.out (by kernel_rfl)) ?_
      try go_wp2
      go_roundg k3
      case measure => have := HJ2.out; have := HK2.out; have := HK3.out; omega
      case rel => exact ⟨(x7_3), (y196), (x35_3), (wrap64 (x35_3 + 1)), (by first | rfl | (simp; done) | (simp [*]; done)), (by first | rfl | (simp; done) | (simp [*]; done)), H', ⟨by have := HJ2.out; have := HK2.out; have := HK3.out; omega⟩, ⟨by (with_reducible repeat (first | apply Kd.R_alloc | apply Kd.R_drewN | apply Kd.R_drew)); exact HO_6.out⟩, ⟨by (with_reducible repeat (first | apply Kd.R_alloc | apply Kd.R_drewN | apply Kd.R_drew)); exact HO_7.out⟩, ⟨by (with_reducible repeat (first | apply Kd.R_alloc | apply Kd.R_drewN | apply Kd.R_drew)); exact HO_8.out⟩, ⟨by repeat (first | (with_reducible first | exact HB.out | apply below_alloc | apply pw_below_drewN | apply below_drew1 | refine below_set ?_ GE189.out) | exact HB.out)⟩⟩
    rw [if_neg c88] at H
    have c88b0 : decide (x10_3 < 0) = false := decide_eq_false c88
    clear c88
    by_cases c97 : 0 ≤ x10_3
    rotate_left
    · rw [if_neg c97] at H
      exact absurd H (by simp)
    rw [if_pos c97] at H
    have c97b0 : decide (0 ≤ x10_3) = true := decide_eq_true c97
    clear c97
    by_cases c98 : x10_3 < (l0.length : Int)
    rotate_left
    · rw [if_neg c98] at H
      exact absurd H (by simp)
    rw [if_pos c98] at H
    have c98b0 : decide (x10_3 < (l0.length : Int)) = true := decide_eq_true c98
    clear c98
    by_cases c99 : ((rd_T96 l0 x35_3).f2) < ((rd_T96 l0 x10_3).f2)
    · rw [if_pos c99] at H
      have c99b0 : decide (((rd_T96 l0 x35_3).f2) < ((rd_T96 l0 x10_3).f2)) = true := decide_eq_true c99
      clear c99
      have H' := Aside0.mk H
      clear H
      have p188 : 0 ≤ (x35_3 : Int) := of_decide_eq_true (by with_reducible assumption)
      have q188 : x35_3 < (l0.length : Int) := of_decide_eq_true (by with_reducible assumption)
      obtain ⟨ad188, e188, hx188_0, hx188_1, hx188_2⟩ := at_T96 HR0.out x35_3 p188 q188
      cases e188
      replace hx188_0 := (HB.out.cell (World.block_lt_of_cell? w _ hx188_0)).trans hx188_0
      replace hx188_1 := (HB.out.cell (World.block_lt_of_cell? w _ hx188_1)).trans hx188_1
      replace hx188_2 := (HB.out.cell (World.block_lt_of_cell? w _ hx188_2)).trans hx188_2
      replace p188 := eq_true p188
      replace q188 := eq_true q188
      try go_wp2_with (first | ((with_reducible refine gate_dst (N := 12) rfl ?_); refine box_event ?hg (N := 12) ?hd (cs := #[.int .i64 0, .int .i64 0, .int .i64 0]) (t := 96) ?hr ?_; (case hd => rfl); (case hg => rfl); (case hr => first | (go_simp; done) | (go_simp; rfl)); intro gb189 hg w100 hbox hb; have n0_ := Aside0.mk (Kd.R_below HO_6.out hb); have n1_ := Aside0.mk (Kd.R_below HO_7.out hb); have n2_ := Aside0.mk (Kd.R_below HO_8.out hb); have n3_ := Aside0.mk (below_step HB.out hb); have n4_ := Aside0.mk (hbox); have n5_ := Aside0.mk ((by rw [hg]; exact (below_size HB.out) : w.heap.size ≤ gb189)); have n6_ := Aside0.mk ((by rw [hg]; exact (below_size HB.out) : w.heap.size ≤ gb189)); clear HO_6; clear HO_7; clear HO_8; clear HB; have HO_6 := n0_; have HO_7 := n1_; have HO_8 := n2_; have HB := n3_; have BK189 := n4_; have GW189 := n5_; have GE189 := n6_; clear n0_ n1_ n2_ n3_ n4_ n5_ n6_; clear hb hbox hg; have hcz101_0 : w100.cell? ⟨gb189, 0, none⟩ = some (.int .i64 0) := (blk_cell BK189.out 0).trans rfl; have hcz101_1 : w100.cell? ⟨gb189, 1, none⟩ = some (.int .i64 0) := (blk_cell BK189.out 1).trans rfl; have hcz101_2 : w100.cell? ⟨gb189, 2, none⟩ = some (.int .i64 0) := (blk_cell BK189.out 2).trans rfl; have hfz101_0 := blk_frozen BK189.out 0; have hfz101_1 := blk_frozen BK189.out 1; have hfz101_2 := blk_frozen BK189.out 2) | ((with_reducible refine gate_store (t := 96) (p := 12) rfl ?_); refine store_event (t := 96) (p := 12) (v := ?vo_w102) (w1 := (((w100.setCell ⟨gb189, 0, none⟩ (.int .i64 ((rd_T96 l0 x35_3).f0))).setCell ⟨gb189, 1, none⟩ (.int .i64 ((rd_T96 l0 x35_3).f1))).setCell ⟨gb189, 2, none⟩ (.int .i64 ((rd_T96 l0 x35_3).f2)))) ?hg ?ho ?hn ?hr ?_; (case ho => rfl); (case hg => rfl); (case hn => rfl); (case hr => first | (go_simp; done) | (go_simp; rfl)); intro w102 hw; have n0_ : Aside0 (Kd.R (Kd.int .i64) 3 w102 w.heap.size (fun k_ => some k_ ≠ (v180 : Value).ownBlock ∧ some k_ ≠ (v183 : Value).ownBlock) v177 x6_2) := ⟨(by rw [hw]; exact (by exact Kd.R_mono (Kd.R_far (p := ⟨gb189, 2, none⟩) (Kd.R_far (p := ⟨gb189, 1, none⟩) (Kd.R_far (p := ⟨gb189, 0, none⟩) (Kd.R_types HO_6.out BK189.out (by decide)) (fun _ hk => hk.2) (.int .i64 ((rd_T96 l0 x35_3).f0))) (fun _ hk => hk.2) (.int .i64 ((rd_T96 l0 x35_3).f1))) (fun _ hk => hk.2) (.int .i64 ((rd_T96 l0 x35_3).f2))) (fun _ hk => ⟨hk.1.1, hk.1.2⟩)))⟩; have n1_ : Aside0 (Kd.R (Kd.int .i64) 3 w102 w.heap.size (fun k_ => some k_ ≠ (v177 : Value).ownBlock ∧ some k_ ≠ (v183 : Value).ownBlock) v180 x7_3) := ⟨(by rw [hw]; exact (by exact Kd.R_mono (Kd.R_far (p := ⟨gb189, 2, none⟩) (Kd.R_far (p := ⟨gb189, 1, none⟩) (Kd.R_far (p := ⟨gb189, 0, none⟩) (Kd.R_types HO_7.out BK189.out (by decide)) (fun _ hk => hk.2) (.int .i64 ((rd_T96 l0 x35_3).f0))) (fun _ hk => hk.2) (.int .i64 ((rd_T96 l0 x35_3).f1))) (fun _ hk => hk.2) (.int .i64 ((rd_T96 l0 x35_3).f2))) (fun _ hk => ⟨hk.1.1, hk.1.2⟩)))⟩; have n2_ : Aside0 (Kd.R (Kd.int .i64) 3 w102 w.heap.size (fun k_ => some k_ ≠ (v177 : Value).ownBlock ∧ some k_ ≠ (v180 : Value).ownBlock) v183 x8_3) := ⟨(by rw [hw]; exact (by exact Kd.R_mono (Kd.R_far (p := ⟨gb189, 2, none⟩) (Kd.R_far (p := ⟨gb189, 1, none⟩) (Kd.R_far (p := ⟨gb189, 0, none⟩) (Kd.R_types HO_8.out BK189.out (by decide)) (fun _ hk => hk.2) (.int .i64 ((rd_T96 l0 x35_3).f0))) (fun _ hk => hk.2) (.int .i64 ((rd_T96 l0 x35_3).f1))) (fun _ hk => hk.2) (.int .i64 ((rd_T96 l0 x35_3).f2))) (fun _ hk => ⟨hk.1.1, hk.1.2⟩)))⟩; have n3_ : Aside0 (w102.heap[gb189]? = some (.cells #[.int .i64 ((rd_T96 l0 x35_3).f0), .int .i64 ((rd_T96 l0 x35_3).f1), .int .i64 ((rd_T96 l0 x35_3).f2)] 96 (0, 0))) := ⟨(by rw [hw]; exact (by refine blk_put (cs := #[.int .i64 ((rd_T96 l0 x35_3).f0), .int .i64 ((rd_T96 l0 x35_3).f1), .int .i64 0]) ?_ 2 _ rfl; refine blk_put (cs := #[.int .i64 ((rd_T96 l0 x35_3).f0), .int .i64 0, .int .i64 0]) ?_ 1 _ rfl; refine blk_put (cs := #[.int .i64 0, .int .i64 0, .int .i64 0]) ?_ 0 _ rfl; exact BK189.out))⟩; have n4_ : Aside0 (Below w.heap.size w w102) := ⟨(by rw [hw]; exact (by repeat (first | (with_reducible first | exact HB.out | apply below_alloc | apply pw_below_drewN | apply below_drew1 | refine below_set ?_ GE189.out) | exact HB.out)))⟩; clear hw; clear HO_6; clear HO_7; clear HO_8; clear BK189; clear HB; have HO_6 := n0_; have HO_7 := n1_; have HO_8 := n2_; have BK189 := n3_; have HB := n4_; clear n0_ n1_ n2_ n3_ n4_; have hcz103_0 : w102.cell? ⟨gb189, 0, none⟩ = some (.int .i64 ((rd_T96 l0 x35_3).f0)) := (blk_cell BK189.out 0).trans rfl; have hcz103_1 : w102.cell? ⟨gb189, 1, none⟩ = some (.int .i64 ((rd_T96 l0 x35_3).f1)) := (blk_cell BK189.out 1).trans rfl; have hcz103_2 : w102.cell? ⟨gb189, 2, none⟩ = some (.int .i64 ((rd_T96 l0 x35_3).f2)) := (blk_cell BK189.out 2).trans rfl; have hfz103_0 := blk_frozen BK189.out 0; have hfz103_1 := blk_frozen BK189.out 1; have hfz103_2 := blk_frozen BK189.out 2; obtain ⟨Ao104, co104, eo104⟩ := Kd.R_slice HO_8.out; subst eo104; have p190 : 0 ≤ (x35_3 : Int) := of_decide_eq_true (by with_reducible assumption); have q190 : x35_3 < (x8_3.length : Int) := of_decide_eq_true (by with_reducible assumption); obtain ⟨ad190, e190, hx190_0⟩ := Kd.at_int (Kd.R_reads' HO_8.out).2.2 x35_3 p190 q190; cases e190; replace p190 := eq_true p190; replace q190 := eq_true q190; have p86 : 0 ≤ (x35_3 : Int) := of_decide_eq_true (by with_reducible assumption); have q86 : (x35_3 : Int) < ((x8_3.length : Int) : Int) := of_decide_eq_true (by with_reducible assumption); obtain ⟨go86, co86, eo86, gb86, gl86, cl86, HG86⟩ := Kd.R_form HO_8.out (by omega); (first | cases eo86 | (injection eo86 with ea_ en_ ec_; (first | subst ea_ | (injection ea_ with ea_; subst ea_)); subst ec_; clear en_)); have GB86 := Aside0.mk gb86; have GG86 := Aside0.mk HG86; clear gb86 gl86 HG86; (first | simp only [add_plain] at hx190_0 | skip); obtain ⟨hx86_0, hf86_0⟩ := Kd.R_celln 0 HO_8.out (x35_3 : Int) p86 q86; replace p86 := eq_true p86; replace q86 := eq_true q86; obtain ⟨hy105_, hz105_⟩ := Kd.R_celln 0 HO_8.out (x35_3 : Int) (of_decide_eq_true (by with_reducible assumption)) (of_decide_eq_true (by with_reducible assumption)); have HP105 := Kd.R_putg HO_8.out (x35_3 : Int) ((rd_T96 l0 x35_3).f1)) | ((with_reducible refine gate_store (t := 3) (p := 60) rfl ?_); refine store_event (t := 3) (p := 60) (v := ?vo_w106) (w1 := (w102.setCell ⟨go86, (x35_3 : Int).toNat, none⟩ (.int .i64 ((rd_T96 l0 x35_3).f1)))) ?hg ?ho ?hn ?hr ?_; (case ho => rfl); (case hg => rfl); (case hn => rfl); (case hr => first | (go_simp; done) | (go_simp; rfl)); intro w106 hw; have hg : w102.grownBy w106 (some go86) := (by rw [hw]; exact HP105.2); have hp_ : Kd.R (Kd.int .i64) 3 w106 w.heap.size (fun k_ => some k_ ≠ (v177 : Value).ownBlock ∧ some k_ ≠ (v180 : Value).ownBlock) (.slice (some ⟨go86, 0, none⟩) x8_3.length co104) y196 := (by rw [hw, Ny196.out]; exact HP105.1); clear HP105; have n0_ := Aside0.mk (Kd.R_after (v := (.slice (some ⟨go86, 0, none⟩) x8_3.length co104)) (v1 := (.slice (some ⟨go86, 0, none⟩) x8_3.length co104)) (ok := (fun k_ => some k_ ≠ (v180 : Value).ownBlock)) HO_6.out hg (.inl rfl)); have n1_ := Aside0.mk (Kd.R_after (v := (.slice (some ⟨go86, 0, none⟩) x8_3.length co104)) (v1 := (.slice (some ⟨go86, 0, none⟩) x8_3.length co104)) (ok := (fun k_ => some k_ ≠ (v177 : Value).ownBlock)) HO_7.out hg (.inl rfl)); have n2_ := Aside0.mk (hp_); have n3_ := Aside0.mk (blk_grown (g := gb189) (o := .cells #[.int .i64 ((rd_T96 l0 x35_3).f0), .int .i64 ((rd_T96 l0 x35_3).f1), .int .i64 ((rd_T96 l0 x35_3).f2)] 96 (0, 0)) (by exact BK189.out) hg (Kd.R_ne HO_8.out BK189.out (by decide))); have n4_ := Aside0.mk ((by rw [hw]; exact below_set (HB.out) GB86.out : Below w.heap.size w w106)); clear HO_6; clear HO_7; clear HO_8; clear BK189; clear HB; have HO_6 := n0_; have HO_7 := n1_; have HO_8 := n2_; have BK189 := n3_; have HB := n4_; clear n0_ n1_ n2_ n3_ n4_; clear hg hw hp_))
      have n0_ := Aside0.mk (Kd.R_drew HO_6.out)
      have n1_ := Aside0.mk (Kd.R_drew HO_7.out)
      have n2_ := Aside0.mk (Kd.R_drew HO_8.out)
      have n3_ := Aside0.mk (blk_drew BK189.out)
      have n4_ := Aside0.mk (below_drew1 HB.out)
      clear HO_6
      clear HO_7
      clear HO_8
      clear BK189
      clear HB
      have HO_6 := n0_
      have HO_7 := n1_
      have HO_8 := n2_
      have BK189 := n3_
      have HB := n4_
      clear n0_ n1_ n2_ n3_ n4_
      have p197 : 0 ≤ (x35_3 : Int) := of_decide_eq_true (by with_reducible assumption)
      have q197 : x35_3 < (y196.length : Int) := (by have h_ : (x35_3 : Int) < ((x8_3.length : Int) : Int) := of_decide_eq_true (by with_reducible assumption); first | (have e_ := (Kd.R_reads' HO_8.out).1; omega) | simpa only [Ny196.out, List.length_set] using h_)
      have ql197 : ((x35_3 : Int) < ((x8_3.length : Int) : Int)) = True := eq_true (of_decide_eq_true (by with_reducible assumption))
      obtain ⟨ad197, e197, hx197_0⟩ := Kd.at_int (Kd.R_reads' HO_8.out).2.2 x35_3 p197 q197
      obtain rfl : (⟨go86, 0, none⟩ : Addr) = ad197 := (by injection e197)
      (first | simp only [add_plain] at hx197_0 | simp only [add_at] at hx197_0 | simp only [Addr.add, Nat.zero_add] at hx197_0 | skip)
      replace p197 := eq_true p197
      replace q197 := eq_true q197
      have p198 : 0 ≤ (x10_3 : Int) := of_decide_eq_true (by with_reducible assumption)
      have q198 : x10_3 < (l0.length : Int) := of_decide_eq_true (by with_reducible assumption)
      obtain ⟨ad198, e198, hx198_0, hx198_1, hx198_2⟩ := at_T96 HR0.out x10_3 p198 q198
      have hw198_2 := hx198_2
      have hw198_1 := hx198_1
      have hw198_0 := hx198_0
      obtain rfl : ad188 = ad198 := (by injection e198)
      replace hx198_0 := (HB.out.cell (World.block_lt_of_cell? w _ hx198_0)).trans hx198_0
      replace hx198_1 := (HB.out.cell (World.block_lt_of_cell? w _ hx198_1)).trans hx198_1
      replace hx198_2 := (HB.out.cell (World.block_lt_of_cell? w _ hx198_2)).trans hx198_2
      replace p198 := eq_true p198
      replace q198 := eq_true q198
      refine start_ (n := 19) (S := fun w' => w'.cell? ⟨gb189, 0, none⟩ = some (.int .i64 ((rd_T96 l0 x35_3).f0)) ∧ w'.cell? ⟨gb189, 1, none⟩ = some (.int .i64 ((rd_T96 l0 x35_3).f1)) ∧ w'.cell? ⟨gb189, 2, none⟩ = some (.int .i64 ((rd_T96 l0 x35_3).f2)) ∧ w'.cell? ⟨go86, (x35_3).toNat, none⟩ = some (.int .i64 (rd y196 x35_3)) ∧ w'.cell? (ad188.add ((x10_3).toNat * 3)) = some (.int .i64 ((rd_T96 l0 x10_3).f0)) ∧ w'.cell? ⟨(ad188.add ((x10_3).toNat * 3)).block, (ad188.add ((x10_3).toNat * 3)).off + 1, none⟩ = some (.int .i64 ((rd_T96 l0 x10_3).f1)) ∧ w'.cell? ⟨(ad188.add ((x10_3).toNat * 3)).block, (ad188.add ((x10_3).toNat * 3)).off + 2, none⟩ = some (.int .i64 ((rd_T96 l0 x10_3).f2))) (ds := []) #[oF,oF,oF,oF,oF,oF,oF,oF,oF,oF,oF,oF,oF,oF,oF,oF,oF,oF,oF] (by kernel_rfl) rfl rfl ⟨(blk_cell BK189.out 0).trans rfl, (blk_cell BK189.out 1).trans rfl, (blk_cell BK189.out 2).trans rfl, hx197_0, ((HB.out.cell (World.block_lt_of_cell? w _ hw198_0)).trans hw198_0), ((HB.out.cell (World.block_lt_of_cell? w _ hw198_1)).trans hw198_1), ((HB.out.cell (World.block_lt_of_cell? w _ hw198_2)).trans hw198_2)⟩ (fun hHeld => ?_); refine with_tabW impl_TaskSchedule.tab16 impl_TaskSchedule.bits16 (fun HT_ HW_ => ?_)
      generalize w106.drew = w107 at HO_6 HO_7 HO_8 BK189 HB hx197_0 hx198_0 hx198_1 hx198_2 hHeld ⊢
      refine pure_ (i := 0) (N := some 61) (v := ?_) (a' := ?_) #[oT,oF,oF,oF,oF,oF,oF,oF,oF,oF,oF,oF,oF,oF,oF,oF,oF,oF,oF] rfl rfl (any_of HT_.out (by kernel_rfl)) (fun _ _ _ h => h) (Or.inl ⟨by rfl, ?_⟩) ?_ ?_
      rotate_left
      · intro w'
        go_simp
        with_reducible rfl
      rotate_left
      · simp only [Act.put, List.setIfInBounds_toArray, List.set_cons_zero, List.set_cons_succ, i64_w, i32_w]
        rfl
      refine pure_ (i := 1) (N := some 62) (v := ?_) (a' := ?_) #[oT,oT,oF,oF,oF,oF,oF,oF,oF,oF,oF,oF,oF,oF,oF,oF,oF,oF,oF] rfl rfl (any_of HT_.out (by kernel_rfl)) (fun _ _ _ h => h) (Or.inl ⟨by rfl, ?_⟩) ?_ ?_
      rotate_left
      · intro w'
        go_simp
        with_reducible rfl
      rotate_left
      · simp only [Act.put, List.setIfInBounds_toArray, List.set_cons_zero, List.set_cons_succ, i64_w, i32_w]
        rfl
      refine pure_ (i := 2) (N := some 63) (v := ?_) (a' := ?_) #[oT,oT,oT,oF,oF,oF,oF,oF,oF,oF,oF,oF,oF,oF,oF,oF,oF,oF,oF] rfl rfl (any_of HT_.out (by kernel_rfl)) (fun _ _ _ h => h) (Or.inl ⟨by rfl, ?_⟩) ?_ ?_
      rotate_left
      · intro w'
        go_simp
        with_reducible rfl
      rotate_left
      · simp only [Act.put, List.setIfInBounds_toArray, List.set_cons_zero, List.set_cons_succ, i64_w, i32_w]
        rfl
      refine take_ (i := 3) (N := some 64) (v := ?_) (a' := ?_) #[oT,oT,oT,oT,oF,oF,oF,oF,oF,oF,oF,oF,oF,oF,oF,oF,oF,oF,oF] rfl rfl (take_ofW HT_.out HW_.out (by kernel_rfl)) (fun _ _ _ h => h) (Or.inl ⟨by rfl, ?_⟩) hHeld ?_ ?_
      rotate_left
      · rintro w' ⟨s0, s1, s2, s3, s4, s5, s6⟩
        go_simp
        with_reducible rfl
      rotate_left
      · simp only [Act.put, List.setIfInBounds_toArray, List.set_cons_zero, List.set_cons_succ, i64_w, i32_w]
        rfl
      refine pure_ (i := 4) (N := some 65) (v := ?_) (a' := ?_) #[oT,oT,oT,oT,oT,oF,oF,oF,oF,oF,oF,oF,oF,oF,oF,oF,oF,oF,oF] rfl rfl (any_of HT_.out (by kernel_rfl)) (fun _ _ _ h => h) (Or.inl ⟨by rfl, ?_⟩) ?_ ?_
      rotate_left
      · intro w'
        go_simp
        with_reducible rfl
      rotate_left
      · simp only [Act.put, List.setIfInBounds_toArray, List.set_cons_zero, List.set_cons_succ, i64_w, i32_w]
        rfl
      refine pure_ (i := 5) (N := some 66) (v := ?_) (a' := ?_) #[oT,oT,oT,oT,oT,oT,oF,oF,oF,oF,oF,oF,oF,oF,oF,oF,oF,oF,oF] rfl rfl (any_of HT_.out (by kernel_rfl)) (fun _ _ _ h => h) (Or.inl ⟨by rfl, ?_⟩) ?_ ?_
      rotate_left
      · intro w'
        go_simp
        with_reducible rfl
      rotate_left
      · simp only [Act.put, List.setIfInBounds_toArray, List.set_cons_zero, List.set_cons_succ, i64_w, i32_w]
        rfl
      refine pure_ (i := 6) (N := some 67) (v := ?_) (a' := ?_) #[oT,oT,oT,oT,oT,oT,oT,oF,oF,oF,oF,oF,oF,oF,oF,oF,oF,oF,oF] rfl rfl (any_of HT_.out (by kernel_rfl)) (fun _ _ _ h => h) (Or.inl ⟨by rfl, ?_⟩) ?_ ?_
      rotate_left
      · intro w'
        go_simp
        with_reducible rfl
      rotate_left
      · simp only [Act.put, List.setIfInBounds_toArray, List.set_cons_zero, List.set_cons_succ, i64_w, i32_w]
        rfl
      refine pure_ (i := 7) (N := some 68) (v := ?_) (a' := ?_) #[oT,oT,oT,oT,oT,oT,oT,oT,oF,oF,oF,oF,oF,oF,oF,oF,oF,oF,oF] rfl rfl (any_of HT_.out (by kernel_rfl)) (fun _ _ _ h => h) (Or.inl ⟨by rfl, ?_⟩) ?_ ?_
      rotate_left
      · intro w'
        go_simp
        with_reducible rfl
      rotate_left
      · simp only [Act.put, List.setIfInBounds_toArray, List.set_cons_zero, List.set_cons_succ, i64_w, i32_w]
        rfl
      refine pure_ (i := 8) (N := some 69) (v := ?_) (a' := ?_) #[oT,oT,oT,oT,oT,oT,oT,oT,oT,oF,oF,oF,oF,oF,oF,oF,oF,oF,oF] rfl rfl (any_of HT_.out (by kernel_rfl)) (fun _ _ _ h => h) (Or.inl ⟨by rfl, ?_⟩) ?_ ?_
      rotate_left
      · intro w'
        go_simp
        with_reducible rfl
      rotate_left
      · simp only [Act.put, List.setIfInBounds_toArray, List.set_cons_zero, List.set_cons_succ, i64_w, i32_w]
        rfl
      refine pure_ (i := 9) (N := some 70) (v := ?_) (a' := ?_) #[oT,oT,oT,oT,oT,oT,oT,oT,oT,oT,oF,oF,oF,oF,oF,oF,oF,oF,oF] rfl rfl (any_of HT_.out (by kernel_rfl)) (fun _ _ _ h => h) (Or.inl ⟨by rfl, ?_⟩) ?_ ?_
      rotate_left
      · intro w'
        go_simp
        with_reducible rfl
      rotate_left
      · simp only [Act.put, List.setIfInBounds_toArray, List.set_cons_zero, List.set_cons_succ, i64_w, i32_w]
        rfl
      refine pure_ (i := 11) (N := some 72) (v := ?_) (a' := ?_) #[oT,oT,oT,oT,oT,oT,oT,oT,oT,oT,oF,oT,oF,oF,oF,oF,oF,oF,oF] rfl rfl (any_of HT_.out (by kernel_rfl)) (fun _ _ _ h => h) (Or.inl ⟨by rfl, ?_⟩) ?_ ?_
      rotate_left
      · intro w'
        go_simp
        with_reducible rfl
      rotate_left
      · simp only [Act.put, List.setIfInBounds_toArray, List.set_cons_zero, List.set_cons_succ, i64_w, i32_w]
        rfl
      refine pure_ (i := 12) (N := some 73) (v := ?_) (a' := ?_) #[oT,oT,oT,oT,oT,oT,oT,oT,oT,oT,oF,oT,oT,oF,oF,oF,oF,oF,oF] rfl rfl (any_of HT_.out (by kernel_rfl)) (fun _ _ _ h => h) (Or.inl ⟨by rfl, ?_⟩) ?_ ?_
      rotate_left
      · intro w'
        go_simp
        with_reducible rfl
      rotate_left
      · simp only [Act.put, List.setIfInBounds_toArray, List.set_cons_zero, List.set_cons_succ, i64_w, i32_w]
        rfl
      refine pure_ (i := 13) (N := some 74) (v := ?_) (a' := ?_) #[oT,oT,oT,oT,oT,oT,oT,oT,oT,oT,oF,oT,oT,oT,oF,oF,oF,oF,oF] rfl rfl (any_of HT_.out (by kernel_rfl)) (fun _ _ _ h => h) (Or.inl ⟨by rfl, ?_⟩) ?_ ?_
      rotate_left
      · intro w'
        go_simp
        with_reducible rfl
      rotate_left
      · simp only [Act.put, List.setIfInBounds_toArray, List.set_cons_zero, List.set_cons_succ, i64_w, i32_w]
        rfl
      refine pure_ (i := 14) (N := some 75) (v := ?_) (a' := ?_) #[oT,oT,oT,oT,oT,oT,oT,oT,oT,oT,oF,oT,oT,oT,oT,oF,oF,oF,oF] rfl rfl (any_of HT_.out (by kernel_rfl)) (fun _ _ _ h => h) (Or.inl ⟨by rfl, ?_⟩) ?_ ?_
      rotate_left
      · intro w'
        go_simp
        with_reducible rfl
      rotate_left
      · simp only [Act.put, List.setIfInBounds_toArray, List.set_cons_zero, List.set_cons_succ, i64_w, i32_w]
        rfl
      refine take_ (i := 10) (N := some 71) (v := ?_) (a' := ?_) #[oT,oT,oT,oT,oT,oT,oT,oT,oT,oT,oT,oT,oT,oT,oT,oF,oF,oF,oF] rfl rfl (take_ofW HT_.out HW_.out (by kernel_rfl)) (fun _ _ _ h => h) (Or.inl ⟨by rfl, ?_⟩) hHeld ?_ ?_
      rotate_left
      · rintro w' ⟨s0, s1, s2, s3, s4, s5, s6⟩
        go_simp
        with_reducible rfl
      rotate_left
      · simp only [Act.put, List.setIfInBounds_toArray, List.set_cons_zero, List.set_cons_succ, i64_w, i32_w]
        rfl
      refine take_ (i := 15) (N := some 76) (v := ?_) (a' := ?_) #[oT,oT,oT,oT,oT,oT,oT,oT,oT,oT,oT,oT,oT,oT,oT,oT,oF,oF,oF] rfl rfl (take_ofW HT_.out HW_.out (by kernel_rfl)) (fun _ _ _ h => h) (Or.inl ⟨by rfl, ?_⟩) hHeld ?_ ?_
      rotate_left
      · rintro w' ⟨s0, s1, s2, s3, s4, s5, s6⟩
        go_simp
        with_reducible rfl
      rotate_left
      · simp only [Act.put, List.setIfInBounds_toArray, List.set_cons_zero, List.set_cons_succ, i64_w, i32_w]
        rfl
      refine pure_ (i := 16) (N := some 77) (v := ?_) (a' := ?_) #[oT,oT,oT,oT,oT,oT,oT,oT,oT,oT,oT,oT,oT,oT,oT,oT,oT,oF,oF] rfl rfl (any_of HT_.out (by kernel_rfl)) (fun _ _ _ h => h) (Or.inl ⟨by rfl, ?_⟩) ?_ ?_
      rotate_left
      · intro w'
        go_simp
        with_reducible rfl
      rotate_left
      · simp only [Act.put, List.setIfInBounds_toArray, List.set_cons_zero, List.set_cons_succ, i64_w, i32_w]
        rfl
      refine pure_ (i := 17) (N := some 78) (v := ?_) (a' := ?_) #[oT,oT,oT,oT,oT,oT,oT,oT,oT,oT,oT,oT,oT,oT,oT,oT,oT,oT,oF] rfl rfl (any_of HT_.out (by kernel_rfl)) (fun _ _ _ h => h) (Or.inl ⟨by rfl, ?_⟩) ?_ ?_
      rotate_left
      · intro w'
        go_simp
        with_reducible rfl
      rotate_left
      · simp only [Act.put, List.setIfInBounds_toArray, List.set_cons_zero, List.set_cons_succ, i64_w, i32_w]
        rfl
      refine pure_ (i := 18) (N := some 79) (v := ?_) (a' := ?_) #[oT,oT,oT,oT,oT,oT,oT,oT,oT,oT,oT,oT,oT,oT,oT,oT,oT,oT,oT] rfl rfl (any_of HT_.out (by kernel_rfl)) (fun _ _ _ h => h) (Or.inl ⟨by rfl, ?_⟩) ?_ ?_
      rotate_left
      · intro w'
        go_simp
        with_reducible rfl
      rotate_left
      · simp only [Act.put, List.setIfInBounds_toArray, List.set_cons_zero, List.set_cons_succ, i64_w, i32_w]
        rfl
      refine done_ (done_of HT_.out (by kernel_rfl)) ?_
      try go_wp2
      go_roundg k3
      case measure => have := HJ2.out; have := HK2.out; have := HK3.out; omega
      case rel => exact ⟨(x7_3), (y196), (x35_3), (wrap64 (x35_3 + 1)), (by first | rfl | (simp; done) | (simp [*]; done)), (by first | rfl | (simp; done) | (simp [*]; done)), H', ⟨by have := HJ2.out; have := HK2.out; have := HK3.out; omega⟩, ⟨by (with_reducible repeat (first | apply Kd.R_alloc | apply Kd.R_drewN | apply Kd.R_drew)); exact HO_6.out⟩, ⟨by (with_reducible repeat (first | apply Kd.R_alloc | apply Kd.R_drewN | apply Kd.R_drew)); exact HO_7.out⟩, ⟨by (with_reducible repeat (first | apply Kd.R_alloc | apply Kd.R_drewN | apply Kd.R_drew)); exact HO_8.out⟩, ⟨by repeat (first | (with_reducible first | exact HB.out | apply below_alloc | apply pw_below_drewN | apply below_drew1 | refine below_set ?_ GE189.out) | exact HB.out)⟩⟩
    rw [if_neg c99] at H
    have c99b0 : decide (((rd_T96 l0 x35_3).f2) < ((rd_T96 l0 x10_3).f2)) = false := decide_eq_false c99
    clear c99
    have H' := Aside0.mk H
    clear H
    have p188 : 0 ≤ (x35_3 : Int) := of_decide_eq_true (by with_reducible assumption)
    have q188 : x35_3 < (l0.length : Int) := of_decide_eq_true (by with_reducible assumption)
    obtain ⟨ad188, e188, hx188_0, hx188_1, hx188_2⟩ := at_T96 HR0.out x35_3 p188 q188
    cases e188
    replace hx188_0 := (HB.out.cell (World.block_lt_of_cell? w _ hx188_0)).trans hx188_0
    replace hx188_1 := (HB.out.cell (World.block_lt_of_cell? w _ hx188_1)).trans hx188_1
    replace hx188_2 := (HB.out.cell (World.block_lt_of_cell? w _ hx188_2)).trans hx188_2
    replace p188 := eq_true p188
    replace q188 := eq_true q188
    try go_wp2_with (first | ((with_reducible refine gate_dst (N := 12) rfl ?_); refine box_event ?hg (N := 12) ?hd (cs := #[.int .i64 0, .int .i64 0, .int .i64 0]) (t := 96) ?hr ?_; (case hd => rfl); (case hg => rfl); (case hr => first | (go_simp; done) | (go_simp; rfl)); intro gb189 hg w108 hbox hb; have n0_ := Aside0.mk (Kd.R_below HO_6.out hb); have n1_ := Aside0.mk (Kd.R_below HO_7.out hb); have n2_ := Aside0.mk (Kd.R_below HO_8.out hb); have n3_ := Aside0.mk (below_step HB.out hb); have n4_ := Aside0.mk (hbox); have n5_ := Aside0.mk ((by rw [hg]; exact (below_size HB.out) : w.heap.size ≤ gb189)); have n6_ := Aside0.mk ((by rw [hg]; exact (below_size HB.out) : w.heap.size ≤ gb189)); clear HO_6; clear HO_7; clear HO_8; clear HB; have HO_6 := n0_; have HO_7 := n1_; have HO_8 := n2_; have HB := n3_; have BK189 := n4_; have GW189 := n5_; have GE189 := n6_; clear n0_ n1_ n2_ n3_ n4_ n5_ n6_; clear hb hbox hg; have hcz109_0 : w108.cell? ⟨gb189, 0, none⟩ = some (.int .i64 0) := (blk_cell BK189.out 0).trans rfl; have hcz109_1 : w108.cell? ⟨gb189, 1, none⟩ = some (.int .i64 0) := (blk_cell BK189.out 1).trans rfl; have hcz109_2 : w108.cell? ⟨gb189, 2, none⟩ = some (.int .i64 0) := (blk_cell BK189.out 2).trans rfl; have hfz109_0 := blk_frozen BK189.out 0; have hfz109_1 := blk_frozen BK189.out 1; have hfz109_2 := blk_frozen BK189.out 2) | ((with_reducible refine gate_store (t := 96) (p := 12) rfl ?_); refine store_event (t := 96) (p := 12) (v := ?vo_w110) (w1 := (((w108.setCell ⟨gb189, 0, none⟩ (.int .i64 ((rd_T96 l0 x35_3).f0))).setCell ⟨gb189, 1, none⟩ (.int .i64 ((rd_T96 l0 x35_3).f1))).setCell ⟨gb189, 2, none⟩ (.int .i64 ((rd_T96 l0 x35_3).f2)))) ?hg ?ho ?hn ?hr ?_; (case ho => rfl); (case hg => rfl); (case hn => rfl); (case hr => first | (go_simp; done) | (go_simp; rfl)); intro w110 hw; have n0_ : Aside0 (Kd.R (Kd.int .i64) 3 w110 w.heap.size (fun k_ => some k_ ≠ (v180 : Value).ownBlock ∧ some k_ ≠ (v183 : Value).ownBlock) v177 x6_2) := ⟨(by rw [hw]; exact (by exact Kd.R_mono (Kd.R_far (p := ⟨gb189, 2, none⟩) (Kd.R_far (p := ⟨gb189, 1, none⟩) (Kd.R_far (p := ⟨gb189, 0, none⟩) (Kd.R_types HO_6.out BK189.out (by decide)) (fun _ hk => hk.2) (.int .i64 ((rd_T96 l0 x35_3).f0))) (fun _ hk => hk.2) (.int .i64 ((rd_T96 l0 x35_3).f1))) (fun _ hk => hk.2) (.int .i64 ((rd_T96 l0 x35_3).f2))) (fun _ hk => ⟨hk.1.1, hk.1.2⟩)))⟩; have n1_ : Aside0 (Kd.R (Kd.int .i64) 3 w110 w.heap.size (fun k_ => some k_ ≠ (v177 : Value).ownBlock ∧ some k_ ≠ (v183 : Value).ownBlock) v180 x7_3) := ⟨(by rw [hw]; exact (by exact Kd.R_mono (Kd.R_far (p := ⟨gb189, 2, none⟩) (Kd.R_far (p := ⟨gb189, 1, none⟩) (Kd.R_far (p := ⟨gb189, 0, none⟩) (Kd.R_types HO_7.out BK189.out (by decide)) (fun _ hk => hk.2) (.int .i64 ((rd_T96 l0 x35_3).f0))) (fun _ hk => hk.2) (.int .i64 ((rd_T96 l0 x35_3).f1))) (fun _ hk => hk.2) (.int .i64 ((rd_T96 l0 x35_3).f2))) (fun _ hk => ⟨hk.1.1, hk.1.2⟩)))⟩; have n2_ : Aside0 (Kd.R (Kd.int .i64) 3 w110 w.heap.size (fun k_ => some k_ ≠ (v177 : Value).ownBlock ∧ some k_ ≠ (v180 : Value).ownBlock) v183 x8_3) := ⟨(by rw [hw]; exact (by exact Kd.R_mono (Kd.R_far (p := ⟨gb189, 2, none⟩) (Kd.R_far (p := ⟨gb189, 1, none⟩) (Kd.R_far (p := ⟨gb189, 0, none⟩) (Kd.R_types HO_8.out BK189.out (by decide)) (fun _ hk => hk.2) (.int .i64 ((rd_T96 l0 x35_3).f0))) (fun _ hk => hk.2) (.int .i64 ((rd_T96 l0 x35_3).f1))) (fun _ hk => hk.2) (.int .i64 ((rd_T96 l0 x35_3).f2))) (fun _ hk => ⟨hk.1.1, hk.1.2⟩)))⟩; have n3_ : Aside0 (w110.heap[gb189]? = some (.cells #[.int .i64 ((rd_T96 l0 x35_3).f0), .int .i64 ((rd_T96 l0 x35_3).f1), .int .i64 ((rd_T96 l0 x35_3).f2)] 96 (0, 0))) := ⟨(by rw [hw]; exact (by refine blk_put (cs := #[.int .i64 ((rd_T96 l0 x35_3).f0), .int .i64 ((rd_T96 l0 x35_3).f1), .int .i64 0]) ?_ 2 _ rfl; refine blk_put (cs := #[.int .i64 ((rd_T96 l0 x35_3).f0), .int .i64 0, .int .i64 0]) ?_ 1 _ rfl; refine blk_put (cs := #[.int .i64 0, .int .i64 0, .int .i64 0]) ?_ 0 _ rfl; exact BK189.out))⟩; have n4_ : Aside0 (Below w.heap.size w w110) := ⟨(by rw [hw]; exact (by repeat (first | (with_reducible first | exact HB.out | apply below_alloc | apply pw_below_drewN | apply below_drew1 | refine below_set ?_ GE189.out) | exact HB.out)))⟩; clear hw; clear HO_6; clear HO_7; clear HO_8; clear BK189; clear HB; have HO_6 := n0_; have HO_7 := n1_; have HO_8 := n2_; have BK189 := n3_; have HB := n4_; clear n0_ n1_ n2_ n3_ n4_; have hcz111_0 : w110.cell? ⟨gb189, 0, none⟩ = some (.int .i64 ((rd_T96 l0 x35_3).f0)) := (blk_cell BK189.out 0).trans rfl; have hcz111_1 : w110.cell? ⟨gb189, 1, none⟩ = some (.int .i64 ((rd_T96 l0 x35_3).f1)) := (blk_cell BK189.out 1).trans rfl; have hcz111_2 : w110.cell? ⟨gb189, 2, none⟩ = some (.int .i64 ((rd_T96 l0 x35_3).f2)) := (blk_cell BK189.out 2).trans rfl; have hfz111_0 := blk_frozen BK189.out 0; have hfz111_1 := blk_frozen BK189.out 1; have hfz111_2 := blk_frozen BK189.out 2; obtain ⟨Ao112, co112, eo112⟩ := Kd.R_slice HO_8.out; subst eo112; have p190 : 0 ≤ (x35_3 : Int) := of_decide_eq_true (by with_reducible assumption); have q190 : x35_3 < (x8_3.length : Int) := of_decide_eq_true (by with_reducible assumption); obtain ⟨ad190, e190, hx190_0⟩ := Kd.at_int (Kd.R_reads' HO_8.out).2.2 x35_3 p190 q190; cases e190; replace p190 := eq_true p190; replace q190 := eq_true q190; have p86 : 0 ≤ (x35_3 : Int) := of_decide_eq_true (by with_reducible assumption); have q86 : (x35_3 : Int) < ((x8_3.length : Int) : Int) := of_decide_eq_true (by with_reducible assumption); obtain ⟨go86, co86, eo86, gb86, gl86, cl86, HG86⟩ := Kd.R_form HO_8.out (by omega); (first | cases eo86 | (injection eo86 with ea_ en_ ec_; (first | subst ea_ | (injection ea_ with ea_; subst ea_)); subst ec_; clear en_)); have GB86 := Aside0.mk gb86; have GG86 := Aside0.mk HG86; clear gb86 gl86 HG86; (first | simp only [add_plain] at hx190_0 | skip); obtain ⟨hx86_0, hf86_0⟩ := Kd.R_celln 0 HO_8.out (x35_3 : Int) p86 q86; replace p86 := eq_true p86; replace q86 := eq_true q86; obtain ⟨hy113_, hz113_⟩ := Kd.R_celln 0 HO_8.out (x35_3 : Int) (of_decide_eq_true (by with_reducible assumption)) (of_decide_eq_true (by with_reducible assumption)); have HP113 := Kd.R_putg HO_8.out (x35_3 : Int) ((rd_T96 l0 x35_3).f1)) | ((with_reducible refine gate_store (t := 3) (p := 60) rfl ?_); refine store_event (t := 3) (p := 60) (v := ?vo_w114) (w1 := (w110.setCell ⟨go86, (x35_3 : Int).toNat, none⟩ (.int .i64 ((rd_T96 l0 x35_3).f1)))) ?hg ?ho ?hn ?hr ?_; (case ho => rfl); (case hg => rfl); (case hn => rfl); (case hr => first | (go_simp; done) | (go_simp; rfl)); intro w114 hw; have hg : w110.grownBy w114 (some go86) := (by rw [hw]; exact HP113.2); have hp_ : Kd.R (Kd.int .i64) 3 w114 w.heap.size (fun k_ => some k_ ≠ (v177 : Value).ownBlock ∧ some k_ ≠ (v180 : Value).ownBlock) (.slice (some ⟨go86, 0, none⟩) x8_3.length co112) y196 := (by rw [hw, Ny196.out]; exact HP113.1); clear HP113; have n0_ := Aside0.mk (Kd.R_after (v := (.slice (some ⟨go86, 0, none⟩) x8_3.length co112)) (v1 := (.slice (some ⟨go86, 0, none⟩) x8_3.length co112)) (ok := (fun k_ => some k_ ≠ (v180 : Value).ownBlock)) HO_6.out hg (.inl rfl)); have n1_ := Aside0.mk (Kd.R_after (v := (.slice (some ⟨go86, 0, none⟩) x8_3.length co112)) (v1 := (.slice (some ⟨go86, 0, none⟩) x8_3.length co112)) (ok := (fun k_ => some k_ ≠ (v177 : Value).ownBlock)) HO_7.out hg (.inl rfl)); have n2_ := Aside0.mk (hp_); have n3_ := Aside0.mk (blk_grown (g := gb189) (o := .cells #[.int .i64 ((rd_T96 l0 x35_3).f0), .int .i64 ((rd_T96 l0 x35_3).f1), .int .i64 ((rd_T96 l0 x35_3).f2)] 96 (0, 0)) (by exact BK189.out) hg (Kd.R_ne HO_8.out BK189.out (by decide))); have n4_ := Aside0.mk ((by rw [hw]; exact below_set (HB.out) GB86.out : Below w.heap.size w w114)); clear HO_6; clear HO_7; clear HO_8; clear BK189; clear HB; have HO_6 := n0_; have HO_7 := n1_; have HO_8 := n2_; have BK189 := n3_; have HB := n4_; clear n0_ n1_ n2_ n3_ n4_; clear hg hw hp_))
    have n0_ := Aside0.mk (Kd.R_drew HO_6.out)
    have n1_ := Aside0.mk (Kd.R_drew HO_7.out)
    have n2_ := Aside0.mk (Kd.R_drew HO_8.out)
    have n3_ := Aside0.mk (blk_drew BK189.out)
    have n4_ := Aside0.mk (below_drew1 HB.out)
    clear HO_6
    clear HO_7
    clear HO_8
    clear BK189
    clear HB
    have HO_6 := n0_
    have HO_7 := n1_
    have HO_8 := n2_
    have BK189 := n3_
    have HB := n4_
    clear n0_ n1_ n2_ n3_ n4_
    have p197 : 0 ≤ (x35_3 : Int) := of_decide_eq_true (by with_reducible assumption)
    have q197 : x35_3 < (y196.length : Int) := (by have h_ : (x35_3 : Int) < ((x8_3.length : Int) : Int) := of_decide_eq_true (by with_reducible assumption); first | (have e_ := (Kd.R_reads' HO_8.out).1; omega) | simpa only [Ny196.out, List.length_set] using h_)
    have ql197 : ((x35_3 : Int) < ((x8_3.length : Int) : Int)) = True := eq_true (of_decide_eq_true (by with_reducible assumption))
    obtain ⟨ad197, e197, hx197_0⟩ := Kd.at_int (Kd.R_reads' HO_8.out).2.2 x35_3 p197 q197
    obtain rfl : (⟨go86, 0, none⟩ : Addr) = ad197 := (by injection e197)
    (first | simp only [add_plain] at hx197_0 | simp only [add_at] at hx197_0 | simp only [Addr.add, Nat.zero_add] at hx197_0 | skip)
    replace p197 := eq_true p197
    replace q197 := eq_true q197
    have p198 : 0 ≤ (x10_3 : Int) := of_decide_eq_true (by with_reducible assumption)
    have q198 : x10_3 < (l0.length : Int) := of_decide_eq_true (by with_reducible assumption)
    obtain ⟨ad198, e198, hx198_0, hx198_1, hx198_2⟩ := at_T96 HR0.out x10_3 p198 q198
    have hw198_2 := hx198_2
    have hw198_1 := hx198_1
    have hw198_0 := hx198_0
    obtain rfl : ad188 = ad198 := (by injection e198)
    replace hx198_0 := (HB.out.cell (World.block_lt_of_cell? w _ hx198_0)).trans hx198_0
    replace hx198_1 := (HB.out.cell (World.block_lt_of_cell? w _ hx198_1)).trans hx198_1
    replace hx198_2 := (HB.out.cell (World.block_lt_of_cell? w _ hx198_2)).trans hx198_2
    replace p198 := eq_true p198
    replace q198 := eq_true q198
    refine start_ (n := 19) (S := fun w' => w'.cell? ⟨gb189, 0, none⟩ = some (.int .i64 ((rd_T96 l0 x35_3).f0)) ∧ w'.cell? ⟨gb189, 1, none⟩ = some (.int .i64 ((rd_T96 l0 x35_3).f1)) ∧ w'.cell? ⟨gb189, 2, none⟩ = some (.int .i64 ((rd_T96 l0 x35_3).f2)) ∧ w'.cell? ⟨go86, (x35_3).toNat, none⟩ = some (.int .i64 (rd y196 x35_3)) ∧ w'.cell? (ad188.add ((x10_3).toNat * 3)) = some (.int .i64 ((rd_T96 l0 x10_3).f0)) ∧ w'.cell? ⟨(ad188.add ((x10_3).toNat * 3)).block, (ad188.add ((x10_3).toNat * 3)).off + 1, none⟩ = some (.int .i64 ((rd_T96 l0 x10_3).f1)) ∧ w'.cell? ⟨(ad188.add ((x10_3).toNat * 3)).block, (ad188.add ((x10_3).toNat * 3)).off + 2, none⟩ = some (.int .i64 ((rd_T96 l0 x10_3).f2))) (ds := []) #[oF,oF,oF,oF,oF,oF,oF,oF,oF,oF,oF,oF,oF,oF,oF,oF,oF,oF,oF] (by kernel_rfl) rfl rfl ⟨(blk_cell BK189.out 0).trans rfl, (blk_cell BK189.out 1).trans rfl, (blk_cell BK189.out 2).trans rfl, hx197_0, ((HB.out.cell (World.block_lt_of_cell? w _ hw198_0)).trans hw198_0), ((HB.out.cell (World.block_lt_of_cell? w _ hw198_1)).trans hw198_1), ((HB.out.cell (World.block_lt_of_cell? w _ hw198_2)).trans hw198_2)⟩ (fun hHeld => ?_); refine with_tabW impl_TaskSchedule.tab16 impl_TaskSchedule.bits16 (fun HT_ HW_ => ?_)
    generalize w114.drew = w115 at HO_6 HO_7 HO_8 BK189 HB hx197_0 hx198_0 hx198_1 hx198_2 hHeld ⊢
    refine pure_ (i := 0) (N := some 61) (v := ?_) (a' := ?_) #[oT,oF,oF,oF,oF,oF,oF,oF,oF,oF,oF,oF,oF,oF,oF,oF,oF,oF,oF] rfl rfl (any_of HT_.out (by kernel_rfl)) (fun _ _ _ h => h) (Or.inl ⟨by rfl, ?_⟩) ?_ ?_
    rotate_left
    · intro w'
      go_simp
      with_reducible rfl
    rotate_left
    · simp only [Act.put, List.setIfInBounds_toArray, List.set_cons_zero, List.set_cons_succ, i64_w, i32_w]
      rfl
    refine pure_ (i := 1) (N := some 62) (v := ?_) (a' := ?_) #[oT,oT,oF,oF,oF,oF,oF,oF,oF,oF,oF,oF,oF,oF,oF,oF,oF,oF,oF] rfl rfl (any_of HT_.out (by kernel_rfl)) (fun _ _ _ h => h) (Or.inl ⟨by rfl, ?_⟩) ?_ ?_
    rotate_left
    · intro w'
      go_simp
      with_reducible rfl
    rotate_left
    · simp only [Act.put, List.setIfInBounds_toArray, List.set_cons_zero, List.set_cons_succ, i64_w, i32_w]
      rfl
    refine pure_ (i := 2) (N := some 63) (v := ?_) (a' := ?_) #[oT,oT,oT,oF,oF,oF,oF,oF,oF,oF,oF,oF,oF,oF,oF,oF,oF,oF,oF] rfl rfl (any_of HT_.out (by kernel_rfl)) (fun _ _ _ h => h) (Or.inl ⟨by rfl, ?_⟩) ?_ ?_
    rotate_left
    · intro w'
      go_simp
      with_reducible rfl
    rotate_left
    · simp only [Act.put, List.setIfInBounds_toArray, List.set_cons_zero, List.set_cons_succ, i64_w, i32_w]
      rfl
    refine take_ (i := 3) (N := some 64) (v := ?_) (a' := ?_) #[oT,oT,oT,oT,oF,oF,oF,oF,oF,oF,oF,oF,oF,oF,oF,oF,oF,oF,oF] rfl rfl (take_ofW HT_.out HW_.out (by kernel_rfl)) (fun _ _ _ h => h) (Or.inl ⟨by rfl, ?_⟩) hHeld ?_ ?_
    rotate_left
    · rintro w' ⟨s0, s1, s2, s3, s4, s5, s6⟩
      go_simp
      with_reducible rfl
    rotate_left
    · simp only [Act.put, List.setIfInBounds_toArray, List.set_cons_zero, List.set_cons_succ, i64_w, i32_w]
      rfl
    refine pure_ (i := 4) (N := some 65) (v := ?_) (a' := ?_) #[oT,oT,oT,oT,oT,oF,oF,oF,oF,oF,oF,oF,oF,oF,oF,oF,oF,oF,oF] rfl rfl (any_of HT_.out (by kernel_rfl)) (fun _ _ _ h => h) (Or.inl ⟨by rfl, ?_⟩) ?_ ?_
    rotate_left
    · intro w'
      go_simp
      with_reducible rfl
    rotate_left
    · simp only [Act.put, List.setIfInBounds_toArray, List.set_cons_zero, List.set_cons_succ, i64_w, i32_w]
      rfl
    refine pure_ (i := 5) (N := some 66) (v := ?_) (a' := ?_) #[oT,oT,oT,oT,oT,oT,oF,oF,oF,oF,oF,oF,oF,oF,oF,oF,oF,oF,oF] rfl rfl (any_of HT_.out (by kernel_rfl)) (fun _ _ _ h => h) (Or.inl ⟨by rfl, ?_⟩) ?_ ?_
    rotate_left
    · intro w'
      go_simp
      with_reducible rfl
    rotate_left
    · simp only [Act.put, List.setIfInBounds_toArray, List.set_cons_zero, List.set_cons_succ, i64_w, i32_w]
      rfl
    refine pure_ (i := 6) (N := some 67) (v := ?_) (a' := ?_) #[oT,oT,oT,oT,oT,oT,oT,oF,oF,oF,oF,oF,oF,oF,oF,oF,oF,oF,oF] rfl rfl (any_of HT_.out (by kernel_rfl)) (fun _ _ _ h => h) (Or.inl ⟨by rfl, ?_⟩) ?_ ?_
    rotate_left
    · intro w'
      go_simp
      with_reducible rfl
    rotate_left
    · simp only [Act.put, List.setIfInBounds_toArray, List.set_cons_zero, List.set_cons_succ, i64_w, i32_w]
      rfl
    refine pure_ (i := 7) (N := some 68) (v := ?_) (a' := ?_) #[oT,oT,oT,oT,oT,oT,oT,oT,oF,oF,oF,oF,oF,oF,oF,oF,oF,oF,oF] rfl rfl (any_of HT_.out (by kernel_rfl)) (fun _ _ _ h => h) (Or.inl ⟨by rfl, ?_⟩) ?_ ?_
    rotate_left
    · intro w'
      go_simp
      with_reducible rfl
    rotate_left
    · simp only [Act.put, List.setIfInBounds_toArray, List.set_cons_zero, List.set_cons_succ, i64_w, i32_w]
      rfl
    refine pure_ (i := 8) (N := some 69) (v := ?_) (a' := ?_) #[oT,oT,oT,oT,oT,oT,oT,oT,oT,oF,oF,oF,oF,oF,oF,oF,oF,oF,oF] rfl rfl (any_of HT_.out (by kernel_rfl)) (fun _ _ _ h => h) (Or.inl ⟨by rfl, ?_⟩) ?_ ?_
    rotate_left
    · intro w'
      go_simp
      with_reducible rfl
    rotate_left
    · simp only [Act.put, List.setIfInBounds_toArray, List.set_cons_zero, List.set_cons_succ, i64_w, i32_w]
      rfl
    refine pure_ (i := 9) (N := some 70) (v := ?_) (a' := ?_) #[oT,oT,oT,oT,oT,oT,oT,oT,oT,oT,oF,oF,oF,oF,oF,oF,oF,oF,oF] rfl rfl (any_of HT_.out (by kernel_rfl)) (fun _ _ _ h => h) (Or.inl ⟨by rfl, ?_⟩) ?_ ?_
    rotate_left
    · intro w'
      go_simp
      with_reducible rfl
    rotate_left
    · simp only [Act.put, List.setIfInBounds_toArray, List.set_cons_zero, List.set_cons_succ, i64_w, i32_w]
      rfl
    refine pure_ (i := 11) (N := some 72) (v := ?_) (a' := ?_) #[oT,oT,oT,oT,oT,oT,oT,oT,oT,oT,oF,oT,oF,oF,oF,oF,oF,oF,oF] rfl rfl (any_of HT_.out (by kernel_rfl)) (fun _ _ _ h => h) (Or.inl ⟨by rfl, ?_⟩) ?_ ?_
    rotate_left
    · intro w'
      go_simp
      with_reducible rfl
    rotate_left
    · simp only [Act.put, List.setIfInBounds_toArray, List.set_cons_zero, List.set_cons_succ, i64_w, i32_w]
      rfl
    refine pure_ (i := 12) (N := some 73) (v := ?_) (a' := ?_) #[oT,oT,oT,oT,oT,oT,oT,oT,oT,oT,oF,oT,oT,oF,oF,oF,oF,oF,oF] rfl rfl (any_of HT_.out (by kernel_rfl)) (fun _ _ _ h => h) (Or.inl ⟨by rfl, ?_⟩) ?_ ?_
    rotate_left
    · intro w'
      go_simp
      with_reducible rfl
    rotate_left
    · simp only [Act.put, List.setIfInBounds_toArray, List.set_cons_zero, List.set_cons_succ, i64_w, i32_w]
      rfl
    refine pure_ (i := 13) (N := some 74) (v := ?_) (a' := ?_) #[oT,oT,oT,oT,oT,oT,oT,oT,oT,oT,oF,oT,oT,oT,oF,oF,oF,oF,oF] rfl rfl (any_of HT_.out (by kernel_rfl)) (fun _ _ _ h => h) (Or.inl ⟨by rfl, ?_⟩) ?_ ?_
    rotate_left
    · intro w'
      go_simp
      with_reducible rfl
    rotate_left
    · simp only [Act.put, List.setIfInBounds_toArray, List.set_cons_zero, List.set_cons_succ, i64_w, i32_w]
      rfl
    refine pure_ (i := 14) (N := some 75) (v := ?_) (a' := ?_) #[oT,oT,oT,oT,oT,oT,oT,oT,oT,oT,oF,oT,oT,oT,oT,oF,oF,oF,oF] rfl rfl (any_of HT_.out (by kernel_rfl)) (fun _ _ _ h => h) (Or.inl ⟨by rfl, ?_⟩) ?_ ?_
    rotate_left
    · intro w'
      go_simp
      with_reducible rfl
    rotate_left
    · simp only [Act.put, List.setIfInBounds_toArray, List.set_cons_zero, List.set_cons_succ, i64_w, i32_w]
      rfl
    refine take_ (i := 10) (N := some 71) (v := ?_) (a' := ?_) #[oT,oT,oT,oT,oT,oT,oT,oT,oT,oT,oT,oT,oT,oT,oT,oF,oF,oF,oF] rfl rfl (take_ofW HT_.out HW_.out (by kernel_rfl)) (fun _ _ _ h => h) (Or.inl ⟨by rfl, ?_⟩) hHeld ?_ ?_
    rotate_left
    · rintro w' ⟨s0, s1, s2, s3, s4, s5, s6⟩
      go_simp
      with_reducible rfl
    rotate_left
    · simp only [Act.put, List.setIfInBounds_toArray, List.set_cons_zero, List.set_cons_succ, i64_w, i32_w]
      rfl
    refine take_ (i := 15) (N := some 76) (v := ?_) (a' := ?_) #[oT,oT,oT,oT,oT,oT,oT,oT,oT,oT,oT,oT,oT,oT,oT,oT,oF,oF,oF] rfl rfl (take_ofW HT_.out HW_.out (by kernel_rfl)) (fun _ _ _ h => h) (Or.inl ⟨by rfl, ?_⟩) hHeld ?_ ?_
    rotate_left
    · rintro w' ⟨s0, s1, s2, s3, s4, s5, s6⟩
      go_simp
      with_reducible rfl
    rotate_left
    · simp only [Act.put, List.setIfInBounds_toArray, List.set_cons_zero, List.set_cons_succ, i64_w, i32_w]
      rfl
    refine pure_ (i := 16) (N := some 77) (v := ?_) (a' := ?_) #[oT,oT,oT,oT,oT,oT,oT,oT,oT,oT,oT,oT,oT,oT,oT,oT,oT,oF,oF] rfl rfl (any_of HT_.out (by kernel_rfl)) (fun _ _ _ h => h) (Or.inl ⟨by rfl, ?_⟩) ?_ ?_
    rotate_left
    · intro w'
      go_simp
      with_reducible rfl
    rotate_left
    · simp only [Act.put, List.setIfInBounds_toArray, List.set_cons_zero, List.set_cons_succ, i64_w, i32_w]
      rfl
    refine pure_ (i := 17) (N := some 78) (v := ?_) (a' := ?_) #[oT,oT,oT,oT,oT,oT,oT,oT,oT,oT,oT,oT,oT,oT,oT,oT,oT,oT,oF] rfl rfl (any_of HT_.out (by kernel_rfl)) (fun _ _ _ h => h) (Or.inl ⟨by rfl, ?_⟩) ?_ ?_
    rotate_left
    · intro w'
      go_simp
      with_reducible rfl
    rotate_left
    · simp only [Act.put, List.setIfInBounds_toArray, List.set_cons_zero, List.set_cons_succ, i64_w, i32_w]
      rfl
    refine pure_ (i := 18) (N := some 79) (v := ?_) (a' := ?_) #[oT,oT,oT,oT,oT,oT,oT,oT,oT,oT,oT,oT,oT,oT,oT,oT,oT,oT,oT] rfl rfl (any_of HT_.out (by kernel_rfl)) (fun _ _ _ h => h) (Or.inl ⟨by rfl, ?_⟩) ?_ ?_
    rotate_left
    · intro w'
      go_simp
      with_reducible rfl
    rotate_left
    · simp only [Act.put, List.setIfInBounds_toArray, List.set_cons_zero, List.set_cons_succ, i64_w, i32_w]
      rfl
    refine done_ (done_of HT_.out (by kernel_rfl)) ?_
    try go_wp2
    go_roundg k3
    case measure => have := HJ2.out; have := HK2.out; have := HK3.out; omega
    case rel => exact ⟨(x7_3), (y196), (x10_3), (wrap64 (x35_3 + 1)), (by first | rfl | (simp; done) | (simp [*]; done)), (by first | rfl | (simp; done) | (simp [*]; done)), H', ⟨by have := HJ2.out; have := HK2.out; have := HK3.out; omega⟩, ⟨by (with_reducible repeat (first | apply Kd.R_alloc | apply Kd.R_drewN | apply Kd.R_drew)); exact HO_6.out⟩, ⟨by (with_reducible repeat (first | apply Kd.R_alloc | apply Kd.R_drewN | apply Kd.R_drew)); exact HO_7.out⟩, ⟨by (with_reducible repeat (first | apply Kd.R_alloc | apply Kd.R_drewN | apply Kd.R_drew)); exact HO_8.out⟩, ⟨by repeat (first | (with_reducible first | exact HB.out | apply below_alloc | apply pw_below_drewN | apply below_drew1 | refine below_set ?_ GE189.out) | exact HB.out)⟩⟩
  rw [if_pos c29] at H
  have c29b0 : decide (0 < (rd x8_3 x35_3)) = true := decide_eq_true c29
  clear c29
  by_cases c30 : x35_3 < (x7_3.length : Int)
  rotate_left
  · rw [if_neg c30] at H
    exact absurd H (by simp)
  rw [if_pos c30] at H
  have c30b0 : decide (x35_3 < (x7_3.length : Int)) = true := decide_eq_true c30
  clear c30
  obtain ⟨y192, hy192⟩ : ∃ y_ : List Int, y_ = (x7_3.set (x35_3 : Int).toNat (wrap64 ((rd x7_3 x35_3) + 1))) := ⟨_, rfl⟩
  replace H : ((some (x8_3.set (x35_3 : Int).toNat ((rd_T96 l0 x35_3).f1) : List Int)).bind fun y193 => (if (rd y193 x35_3) > 0 then (if x10_3 < 0 then (impl_TaskSchedule.l1 k3 l0 x6_2 y192 y193 x30_2 x35_3 a1 x30_2 l0 (l0.length : Int) (wrap64 (x35_3 + 1))) else (if 0 ≤ x10_3 then (if x10_3 < (l0.length : Int) then (if ((rd_T96 l0 x35_3).f2) < ((rd_T96 l0 x10_3).f2) then (impl_TaskSchedule.l1 k3 l0 x6_2 y192 y193 x30_2 x35_3 a1 x30_2 l0 (l0.length : Int) (wrap64 (x35_3 + 1))) else (impl_TaskSchedule.l1 k3 l0 x6_2 y192 y193 x30_2 x10_3 a1 x30_2 l0 (l0.length : Int) (wrap64 (x35_3 + 1)))) else (none)) else (none))) else (impl_TaskSchedule.l1 k3 l0 x6_2 y192 y193 x30_2 x10_3 a1 x30_2 l0 (l0.length : Int) (wrap64 (x35_3 + 1))))) = some (r1, r2) := by first | (rw [hy192]; with_reducible exact H) | (have H2_ := (Option.bind_some _ _).symm.trans H; rw [hy192]; with_reducible exact H2_) | (have H2_ := (Option.bind_some _ _).symm.trans H; with_reducible exact H2_) | with_reducible exact H | (rw [hy192]; exact H) | exact H
  have Ny192 := Aside0.mk hy192
  clear hy192
  obtain ⟨y193, hy193⟩ : ∃ y_ : List Int, y_ = (x8_3.set (x35_3 : Int).toNat ((rd_T96 l0 x35_3).f1)) := ⟨_, rfl⟩
  replace H : (if (rd y193 x35_3) > 0 then (if x10_3 < 0 then (impl_TaskSchedule.l1 k3 l0 x6_2 y192 y193 x30_2 x35_3 a1 x30_2 l0 (l0.length : Int) (wrap64 (x35_3 + 1))) else (if 0 ≤ x10_3 then (if x10_3 < (l0.length : Int) then (if ((rd_T96 l0 x35_3).f2) < ((rd_T96 l0 x10_3).f2) then (impl_TaskSchedule.l1 k3 l0 x6_2 y192 y193 x30_2 x35_3 a1 x30_2 l0 (l0.length : Int) (wrap64 (x35_3 + 1))) else (impl_TaskSchedule.l1 k3 l0 x6_2 y192 y193 x30_2 x10_3 a1 x30_2 l0 (l0.length : Int) (wrap64 (x35_3 + 1)))) else (none)) else (none))) else (impl_TaskSchedule.l1 k3 l0 x6_2 y192 y193 x30_2 x10_3 a1 x30_2 l0 (l0.length : Int) (wrap64 (x35_3 + 1)))) = some (r1, r2) := by first | (rw [hy193]; with_reducible exact H) | (have H2_ := (Option.bind_some _ _).symm.trans H; rw [hy193]; with_reducible exact H2_) | (have H2_ := (Option.bind_some _ _).symm.trans H; with_reducible exact H2_) | with_reducible exact H | (rw [hy193]; exact H) | exact H
  have Ny193 := Aside0.mk hy193
  clear hy193
  by_cases c33 : (rd y193 x35_3) > 0
  rotate_left
  · rw [if_neg c33] at H
    have c33b0 : decide (0 < (rd y193 x35_3)) = false := decide_eq_false c33
    clear c33
    have H' := Aside0.mk H
    clear H
    have p188 : 0 ≤ (x35_3 : Int) := of_decide_eq_true (by with_reducible assumption)
    have q188 : x35_3 < (l0.length : Int) := of_decide_eq_true (by with_reducible assumption)
    obtain ⟨ad188, e188, hx188_0, hx188_1, hx188_2⟩ := at_T96 HR0.out x35_3 p188 q188
    cases e188
    replace hx188_0 := (HB.out.cell (World.block_lt_of_cell? w _ hx188_0)).trans hx188_0
    replace hx188_1 := (HB.out.cell (World.block_lt_of_cell? w _ hx188_1)).trans hx188_1
    replace hx188_2 := (HB.out.cell (World.block_lt_of_cell? w _ hx188_2)).trans hx188_2
    replace p188 := eq_true p188
    replace q188 := eq_true q188
    try go_wp2_with (first | ((with_reducible refine gate_dst (N := 12) rfl ?_); refine box_event ?hg (N := 12) ?hd (cs := #[.int .i64 0, .int .i64 0, .int .i64 0]) (t := 96) ?hr ?_; (case hd => rfl); (case hg => rfl); (case hr => first | (go_simp; done) | (go_simp; rfl)); intro gb189 hg w74 hbox hb; have n0_ := Aside0.mk (Kd.R_below HO_6.out hb); have n1_ := Aside0.mk (Kd.R_below HO_7.out hb); have n2_ := Aside0.mk (Kd.R_below HO_8.out hb); have n3_ := Aside0.mk (below_step HB.out hb); have n4_ := Aside0.mk (hbox); have n5_ := Aside0.mk ((by rw [hg]; exact (below_size HB.out) : w.heap.size ≤ gb189)); have n6_ := Aside0.mk ((by rw [hg]; exact (below_size HB.out) : w.heap.size ≤ gb189)); clear HO_6; clear HO_7; clear HO_8; clear HB; have HO_6 := n0_; have HO_7 := n1_; have HO_8 := n2_; have HB := n3_; have BK189 := n4_; have GW189 := n5_; have GE189 := n6_; clear n0_ n1_ n2_ n3_ n4_ n5_ n6_; clear hb hbox hg; have hcz75_0 : w74.cell? ⟨gb189, 0, none⟩ = some (.int .i64 0) := (blk_cell BK189.out 0).trans rfl; have hcz75_1 : w74.cell? ⟨gb189, 1, none⟩ = some (.int .i64 0) := (blk_cell BK189.out 1).trans rfl; have hcz75_2 : w74.cell? ⟨gb189, 2, none⟩ = some (.int .i64 0) := (blk_cell BK189.out 2).trans rfl; have hfz75_0 := blk_frozen BK189.out 0; have hfz75_1 := blk_frozen BK189.out 1; have hfz75_2 := blk_frozen BK189.out 2) | ((with_reducible refine gate_store (t := 96) (p := 12) rfl ?_); refine store_event (t := 96) (p := 12) (v := ?vo_w76) (w1 := (((w74.setCell ⟨gb189, 0, none⟩ (.int .i64 ((rd_T96 l0 x35_3).f0))).setCell ⟨gb189, 1, none⟩ (.int .i64 ((rd_T96 l0 x35_3).f1))).setCell ⟨gb189, 2, none⟩ (.int .i64 ((rd_T96 l0 x35_3).f2)))) ?hg ?ho ?hn ?hr ?_; (case ho => rfl); (case hg => rfl); (case hn => rfl); (case hr => first | (go_simp; done) | (go_simp; rfl)); intro w76 hw; have n0_ : Aside0 (Kd.R (Kd.int .i64) 3 w76 w.heap.size (fun k_ => some k_ ≠ (v180 : Value).ownBlock ∧ some k_ ≠ (v183 : Value).ownBlock) v177 x6_2) := ⟨(by rw [hw]; exact (by exact Kd.R_mono (Kd.R_far (p := ⟨gb189, 2, none⟩) (Kd.R_far (p := ⟨gb189, 1, none⟩) (Kd.R_far (p := ⟨gb189, 0, none⟩) (Kd.R_types HO_6.out BK189.out (by decide)) (fun _ hk => hk.2) (.int .i64 ((rd_T96 l0 x35_3).f0))) (fun _ hk => hk.2) (.int .i64 ((rd_T96 l0 x35_3).f1))) (fun _ hk => hk.2) (.int .i64 ((rd_T96 l0 x35_3).f2))) (fun _ hk => ⟨hk.1.1, hk.1.2⟩)))⟩; have n1_ : Aside0 (Kd.R (Kd.int .i64) 3 w76 w.heap.size (fun k_ => some k_ ≠ (v177 : Value).ownBlock ∧ some k_ ≠ (v183 : Value).ownBlock) v180 x7_3) := ⟨(by rw [hw]; exact (by exact Kd.R_mono (Kd.R_far (p := ⟨gb189, 2, none⟩) (Kd.R_far (p := ⟨gb189, 1, none⟩) (Kd.R_far (p := ⟨gb189, 0, none⟩) (Kd.R_types HO_7.out BK189.out (by decide)) (fun _ hk => hk.2) (.int .i64 ((rd_T96 l0 x35_3).f0))) (fun _ hk => hk.2) (.int .i64 ((rd_T96 l0 x35_3).f1))) (fun _ hk => hk.2) (.int .i64 ((rd_T96 l0 x35_3).f2))) (fun _ hk => ⟨hk.1.1, hk.1.2⟩)))⟩; have n2_ : Aside0 (Kd.R (Kd.int .i64) 3 w76 w.heap.size (fun k_ => some k_ ≠ (v177 : Value).ownBlock ∧ some k_ ≠ (v180 : Value).ownBlock) v183 x8_3) := ⟨(by rw [hw]; exact (by exact Kd.R_mono (Kd.R_far (p := ⟨gb189, 2, none⟩) (Kd.R_far (p := ⟨gb189, 1, none⟩) (Kd.R_far (p := ⟨gb189, 0, none⟩) (Kd.R_types HO_8.out BK189.out (by decide)) (fun _ hk => hk.2) (.int .i64 ((rd_T96 l0 x35_3).f0))) (fun _ hk => hk.2) (.int .i64 ((rd_T96 l0 x35_3).f1))) (fun _ hk => hk.2) (.int .i64 ((rd_T96 l0 x35_3).f2))) (fun _ hk => ⟨hk.1.1, hk.1.2⟩)))⟩; have n3_ : Aside0 (w76.heap[gb189]? = some (.cells #[.int .i64 ((rd_T96 l0 x35_3).f0), .int .i64 ((rd_T96 l0 x35_3).f1), .int .i64 ((rd_T96 l0 x35_3).f2)] 96 (0, 0))) := ⟨(by rw [hw]; exact (by refine blk_put (cs := #[.int .i64 ((rd_T96 l0 x35_3).f0), .int .i64 ((rd_T96 l0 x35_3).f1), .int .i64 0]) ?_ 2 _ rfl; refine blk_put (cs := #[.int .i64 ((rd_T96 l0 x35_3).f0), .int .i64 0, .int .i64 0]) ?_ 1 _ rfl; refine blk_put (cs := #[.int .i64 0, .int .i64 0, .int .i64 0]) ?_ 0 _ rfl; exact BK189.out))⟩; have n4_ : Aside0 (Below w.heap.size w w76) := ⟨(by rw [hw]; exact (by repeat (first | (with_reducible first | exact HB.out | apply below_alloc | apply pw_below_drewN | apply below_drew1 | refine below_set ?_ GE189.out) | exact HB.out)))⟩; clear hw; clear HO_6; clear HO_7; clear HO_8; clear BK189; clear HB; have HO_6 := n0_; have HO_7 := n1_; have HO_8 := n2_; have BK189 := n3_; have HB := n4_; clear n0_ n1_ n2_ n3_ n4_; have hcz77_0 : w76.cell? ⟨gb189, 0, none⟩ = some (.int .i64 ((rd_T96 l0 x35_3).f0)) := (blk_cell BK189.out 0).trans rfl; have hcz77_1 : w76.cell? ⟨gb189, 1, none⟩ = some (.int .i64 ((rd_T96 l0 x35_3).f1)) := (blk_cell BK189.out 1).trans rfl; have hcz77_2 : w76.cell? ⟨gb189, 2, none⟩ = some (.int .i64 ((rd_T96 l0 x35_3).f2)) := (blk_cell BK189.out 2).trans rfl; have hfz77_0 := blk_frozen BK189.out 0; have hfz77_1 := blk_frozen BK189.out 1; have hfz77_2 := blk_frozen BK189.out 2; obtain ⟨Ao78, co78, eo78⟩ := Kd.R_slice HO_8.out; subst eo78; have p190 : 0 ≤ (x35_3 : Int) := of_decide_eq_true (by with_reducible assumption); have q190 : x35_3 < (x8_3.length : Int) := of_decide_eq_true (by with_reducible assumption); obtain ⟨ad190, e190, hx190_0⟩ := Kd.at_int (Kd.R_reads' HO_8.out).2.2 x35_3 p190 q190; cases e190; replace p190 := eq_true p190; replace q190 := eq_true q190; obtain ⟨Ao79, co79, eo79⟩ := Kd.R_slice HO_7.out; subst eo79; have p191 : 0 ≤ (x35_3 : Int) := of_decide_eq_true (by with_reducible assumption); have q191 : x35_3 < (x7_3.length : Int) := of_decide_eq_true (by with_reducible assumption); obtain ⟨ad191, e191, hx191_0⟩ := Kd.at_int (Kd.R_reads' HO_7.out).2.2 x35_3 p191 q191; cases e191; replace p191 := eq_true p191; replace q191 := eq_true q191; have p31 : 0 ≤ (x35_3 : Int) := of_decide_eq_true (by with_reducible assumption); have q31 : (x35_3 : Int) < ((x7_3.length : Int) : Int) := of_decide_eq_true (by with_reducible assumption); obtain ⟨go31, co31, eo31, gb31, gl31, cl31, HG31⟩ := Kd.R_form HO_7.out (by omega); (first | cases eo31 | (injection eo31 with ea_ en_ ec_; (first | subst ea_ | (injection ea_ with ea_; subst ea_)); subst ec_; clear en_)); have GB31 := Aside0.mk gb31; have GG31 := Aside0.mk HG31; clear gb31 gl31 HG31; (first | simp only [add_plain] at hx191_0 | skip); obtain ⟨hx31_0, hf31_0⟩ := Kd.R_celln 0 HO_7.out (x35_3 : Int) p31 q31; replace p31 := eq_true p31; replace q31 := eq_true q31; obtain ⟨hy80_, hz80_⟩ := Kd.R_celln 0 HO_7.out (x35_3 : Int) (of_decide_eq_true (by with_reducible assumption)) (of_decide_eq_true (by with_reducible assumption)); have HP80 := Kd.R_putg HO_7.out (x35_3 : Int) (wrap64 ((rd x7_3 x35_3) + 1))) | ((with_reducible refine gate_store (t := 3) (p := 55) rfl ?_); refine store_event (t := 3) (p := 55) (v := ?vo_w81) (w1 := (w76.setCell ⟨go31, (x35_3 : Int).toNat, none⟩ (.int .i64 (wrap64 ((rd x7_3 x35_3) + 1))))) ?hg ?ho ?hn ?hr ?_; (case ho => rfl); (case hg => rfl); (case hn => rfl); (case hr => first | (go_simp; done) | (go_simp; rfl)); intro w81 hw; have hg : w76.grownBy w81 (some go31) := (by rw [hw]; exact HP80.2); have hp_ : Kd.R (Kd.int .i64) 3 w81 w.heap.size (fun k_ => some k_ ≠ (v177 : Value).ownBlock ∧ some k_ ≠ (.slice (some ad190) x8_3.length co78 : Value).ownBlock) (.slice (some ⟨go31, 0, none⟩) x7_3.length co79) y192 := (by rw [hw, Ny192.out]; exact HP80.1); clear HP80; have n0_ := Aside0.mk (Kd.R_after (v := (.slice (some ⟨go31, 0, none⟩) x7_3.length co79)) (v1 := (.slice (some ⟨go31, 0, none⟩) x7_3.length co79)) (ok := (fun k_ => some k_ ≠ (.slice (some ad190) x8_3.length co78 : Value).ownBlock)) (by exact Kd.R_mono HO_6.out (fun _ hk => ⟨hk.2, hk.1⟩)) hg (.inl rfl)); have n1_ := Aside0.mk (hp_); have n2_ := Aside0.mk (Kd.R_after (v := (.slice (some ⟨go31, 0, none⟩) x7_3.length co79)) (v1 := (.slice (some ⟨go31, 0, none⟩) x7_3.length co79)) (ok := (fun k_ => some k_ ≠ (v177 : Value).ownBlock)) HO_8.out hg (.inl rfl)); have n3_ := Aside0.mk (blk_grown (g := gb189) (o := .cells #[.int .i64 ((rd_T96 l0 x35_3).f0), .int .i64 ((rd_T96 l0 x35_3).f1), .int .i64 ((rd_T96 l0 x35_3).f2)] 96 (0, 0)) (by exact BK189.out) hg (Kd.R_ne HO_7.out BK189.out (by decide))); have n4_ := Aside0.mk ((by rw [hw]; exact below_set (HB.out) GB31.out : Below w.heap.size w w81)); clear HO_6; clear HO_7; clear HO_8; clear BK189; clear HB; have HO_6 := n0_; have HO_7 := n1_; have HO_8 := n2_; have BK189 := n3_; have HB := n4_; clear n0_ n1_ n2_ n3_ n4_; clear hg hw hp_; have hcz82_0 : w81.cell? ⟨gb189, 0, none⟩ = some (.int .i64 ((rd_T96 l0 x35_3).f0)) := (blk_cell BK189.out 0).trans rfl; have hcz82_1 : w81.cell? ⟨gb189, 1, none⟩ = some (.int .i64 ((rd_T96 l0 x35_3).f1)) := (blk_cell BK189.out 1).trans rfl; have hcz82_2 : w81.cell? ⟨gb189, 2, none⟩ = some (.int .i64 ((rd_T96 l0 x35_3).f2)) := (blk_cell BK189.out 2).trans rfl; have hfz82_0 := blk_frozen BK189.out 0; have hfz82_1 := blk_frozen BK189.out 1; have hfz82_2 := blk_frozen BK189.out 2; have p32 : 0 ≤ (x35_3 : Int) := of_decide_eq_true (by with_reducible assumption); have q32 : (x35_3 : Int) < ((x8_3.length : Int) : Int) := of_decide_eq_true (by with_reducible assumption); obtain ⟨go32, co32, eo32, gb32, gl32, cl32, HG32⟩ := Kd.R_form HO_8.out (by omega); (first | cases eo32 | (injection eo32 with ea_ en_ ec_; (first | subst ea_ | (injection ea_ with ea_; subst ea_)); subst ec_; clear en_)); have GB32 := Aside0.mk gb32; have GG32 := Aside0.mk HG32; clear gb32 gl32 HG32; (first | simp only [add_plain] at hx190_0 | skip); obtain ⟨hx32_0, hf32_0⟩ := Kd.R_celln 0 HO_8.out (x35_3 : Int) p32 q32; replace p32 := eq_true p32; replace q32 := eq_true q32; obtain ⟨hy83_, hz83_⟩ := Kd.R_celln 0 HO_8.out (x35_3 : Int) (of_decide_eq_true (by with_reducible assumption)) (of_decide_eq_true (by with_reducible assumption)); have HP83 := Kd.R_putg HO_8.out (x35_3 : Int) ((rd_T96 l0 x35_3).f1)) | ((with_reducible refine gate_store (t := 3) (p := 60) rfl ?_); refine store_event (t := 3) (p := 60) (v := ?vo_w84) (w1 := (w81.setCell ⟨go32, (x35_3 : Int).toNat, none⟩ (.int .i64 ((rd_T96 l0 x35_3).f1)))) ?hg ?ho ?hn ?hr ?_; (case ho => rfl); (case hg => rfl); (case hn => rfl); (case hr => first | (go_simp; done) | (go_simp; rfl)); intro w84 hw; have hg : w81.grownBy w84 (some go32) := (by rw [hw]; exact HP83.2); have hp_ : Kd.R (Kd.int .i64) 3 w84 w.heap.size (fun k_ => some k_ ≠ (v177 : Value).ownBlock ∧ some k_ ≠ (.slice (some ⟨go31, 0, none⟩) x7_3.length co79 : Value).ownBlock) (.slice (some ⟨go32, 0, none⟩) x8_3.length co78) y193 := (by rw [hw, Ny193.out]; exact HP83.1); clear HP83; have n0_ := Aside0.mk (Kd.R_after (v := (.slice (some ⟨go32, 0, none⟩) x8_3.length co78)) (v1 := (.slice (some ⟨go32, 0, none⟩) x8_3.length co78)) (ok := (fun k_ => some k_ ≠ (.slice (some ⟨go31, 0, none⟩) x7_3.length co79 : Value).ownBlock)) (by exact Kd.R_mono HO_6.out (fun _ hk => ⟨hk.2, hk.1⟩)) hg (.inl rfl)); have n1_ := Aside0.mk (Kd.R_after (v := (.slice (some ⟨go32, 0, none⟩) x8_3.length co78)) (v1 := (.slice (some ⟨go32, 0, none⟩) x8_3.length co78)) (ok := (fun k_ => some k_ ≠ (v177 : Value).ownBlock)) HO_7.out hg (.inl rfl)); have n2_ := Aside0.mk (hp_); have n3_ := Aside0.mk (blk_grown (g := gb189) (o := .cells #[.int .i64 ((rd_T96 l0 x35_3).f0), .int .i64 ((rd_T96 l0 x35_3).f1), .int .i64 ((rd_T96 l0 x35_3).f2)] 96 (0, 0)) (by exact BK189.out) hg (Kd.R_ne HO_8.out BK189.out (by decide))); have n4_ := Aside0.mk ((by rw [hw]; exact below_set (HB.out) GB32.out : Below w.heap.size w w84)); clear HO_6; clear HO_7; clear HO_8; clear BK189; clear HB; have HO_6 := n0_; have HO_7 := n1_; have HO_8 := n2_; have BK189 := n3_; have HB := n4_; clear n0_ n1_ n2_ n3_ n4_; clear hg hw hp_))
    have n0_ := Aside0.mk (Kd.R_drew HO_6.out)
    have n1_ := Aside0.mk (Kd.R_drew HO_7.out)
    have n2_ := Aside0.mk (Kd.R_drew HO_8.out)
    have n3_ := Aside0.mk (blk_drew BK189.out)
    have n4_ := Aside0.mk (below_drew1 HB.out)
    clear HO_6
    clear HO_7
    clear HO_8
    clear BK189
    clear HB
    have HO_6 := n0_
    have HO_7 := n1_
    have HO_8 := n2_
    have BK189 := n3_
    have HB := n4_
    clear n0_ n1_ n2_ n3_ n4_
    have p194 : 0 ≤ (x35_3 : Int) := of_decide_eq_true (by with_reducible assumption)
    have q194 : x35_3 < (y193.length : Int) := (by have h_ : (x35_3 : Int) < ((x8_3.length : Int) : Int) := of_decide_eq_true (by with_reducible assumption); first | (have e_ := (Kd.R_reads' HO_8.out).1; omega) | simpa only [Ny193.out, List.length_set] using h_)
    have ql194 : ((x35_3 : Int) < ((x8_3.length : Int) : Int)) = True := eq_true (of_decide_eq_true (by with_reducible assumption))
    obtain ⟨ad194, e194, hx194_0⟩ := Kd.at_int (Kd.R_reads' HO_8.out).2.2 x35_3 p194 q194
    obtain rfl : (⟨go32, 0, none⟩ : Addr) = ad194 := (by injection e194)
    (first | simp only [add_plain] at hx194_0 | simp only [add_at] at hx194_0 | simp only [Addr.add, Nat.zero_add] at hx194_0 | skip)
    replace p194 := eq_true p194
    replace q194 := eq_true q194
    refine start_ (n := 19) (S := fun w' => w'.cell? ⟨go32, (x35_3).toNat, none⟩ = some (.int .i64 (rd y193 x35_3))) (ds := []) #[oF,oF,oF,oF,oF,oF,oF,oF,oF,oF,oF,oF,oF,oF,oF,oF,oF,oF,oF] (by kernel_rfl) rfl rfl (hx194_0) (fun hHeld => ?_); refine with_tabW impl_TaskSchedule.tab16 impl_TaskSchedule.bits16 (fun HT_ HW_ => ?_)
    generalize w84.drew = w85 at HO_6 HO_7 HO_8 BK189 HB hx194_0 hHeld ⊢
    refine pure_ (i := 0) (N := some 61) (v := ?_) (a' := ?_) #[oT,oF,oF,oF,oF,oF,oF,oF,oF,oF,oF,oF,oF,oF,oF,oF,oF,oF,oF] rfl rfl (any_of HT_.out (by kernel_rfl)) (fun _ _ _ h => h) (Or.inl ⟨by rfl, ?_⟩) ?_ ?_
    rotate_left
    · intro w'
      go_simp
      with_reducible rfl
    rotate_left
    · simp only [Act.put, List.setIfInBounds_toArray, List.set_cons_zero, List.set_cons_succ, i64_w, i32_w]
      rfl
    refine pure_ (i := 1) (N := some 62) (v := ?_) (a' := ?_) #[oT,oT,oF,oF,oF,oF,oF,oF,oF,oF,oF,oF,oF,oF,oF,oF,oF,oF,oF] rfl rfl (any_of HT_.out (by kernel_rfl)) (fun _ _ _ h => h) (Or.inl ⟨by rfl, ?_⟩) ?_ ?_
    rotate_left
    · intro w'
      go_simp
      with_reducible rfl
    rotate_left
    · simp only [Act.put, List.setIfInBounds_toArray, List.set_cons_zero, List.set_cons_succ, i64_w, i32_w]
      rfl
    refine pure_ (i := 2) (N := some 63) (v := ?_) (a' := ?_) #[oT,oT,oT,oF,oF,oF,oF,oF,oF,oF,oF,oF,oF,oF,oF,oF,oF,oF,oF] rfl rfl (any_of HT_.out (by kernel_rfl)) (fun _ _ _ h => h) (Or.inl ⟨by rfl, ?_⟩) ?_ ?_
    rotate_left
    · intro w'
      go_simp
      with_reducible rfl
    rotate_left
    · simp only [Act.put, List.setIfInBounds_toArray, List.set_cons_zero, List.set_cons_succ, i64_w, i32_w]
      rfl
    refine take_ (i := 3) (N := some 64) (v := ?_) (a' := ?_) #[oT,oT,oT,oT,oF,oF,oF,oF,oF,oF,oF,oF,oF,oF,oF,oF,oF,oF,oF] rfl rfl (take_ofW HT_.out HW_.out (by kernel_rfl)) (fun _ _ _ h => h) (Or.inl ⟨by rfl, ?_⟩) hHeld ?_ ?_
    rotate_left
    · intro w' s0
      go_simp
      with_reducible rfl
    rotate_left
    · simp only [Act.put, List.setIfInBounds_toArray, List.set_cons_zero, List.set_cons_succ, i64_w, i32_w]
      rfl
    refine pure_ (i := 4) (N := some 65) (v := ?_) (a' := ?_) #[oT,oT,oT,oT,oT,oF,oF,oF,oF,oF,oF,oF,oF,oF,oF,oF,oF,oF,oF] rfl rfl (any_of HT_.out (by kernel_rfl)) (fun _ _ _ h => h) (Or.inl ⟨by rfl, ?_⟩) ?_ ?_
    rotate_left
    · intro w'
      go_simp
      with_reducible rfl
    rotate_left
    · simp only [Act.put, List.setIfInBounds_toArray, List.set_cons_zero, List.set_cons_succ, i64_w, i32_w]
      rfl
    refine pure_ (i := 5) (N := some 66) (v := ?_) (a' := ?_) #[oT,oT,oT,oT,oT,oT,oF,oF,oF,oF,oF,oF,oF,oF,oF,oF,oF,oF,oF] rfl rfl (any_of HT_.out (by kernel_rfl)) (fun _ _ _ h => h) (Or.inl ⟨by rfl, ?_⟩) ?_ ?_
    rotate_left
    · intro w'
      go_simp
      with_reducible rfl
    rotate_left
    · simp only [Act.put, List.setIfInBounds_toArray, List.set_cons_zero, List.set_cons_succ, i64_w, i32_w]
      rfl
    refine pure_ (i := 6) (N := some 67) (v := undef) (a' := ?_) #[oT,oT,oT,oT,oT,oT,oT,oF,oF,oF,oF,oF,oF,oF,oF,oF,oF,oF,oF] rfl rfl (any_of HT_.out (by kernel_rfl)) (fun _ _ _ h => h) (Or.inr ⟨by rfl, rfl⟩) ?_ ?_
    rotate_left
    · simp only [Act.put, List.setIfInBounds_toArray, List.set_cons_zero, List.set_cons_succ, i64_w, i32_w]
      rfl
    refine pure_ (i := 7) (N := some 68) (v := undef) (a' := ?_) #[oT,oT,oT,oT,oT,oT,oT,oT,oF,oF,oF,oF,oF,oF,oF,oF,oF,oF,oF] rfl rfl (any_of HT_.out (by kernel_rfl)) (fun _ _ _ h => h) (Or.inr ⟨by rfl, rfl⟩) ?_ ?_
    rotate_left
    · simp only [Act.put, List.setIfInBounds_toArray, List.set_cons_zero, List.set_cons_succ, i64_w, i32_w]
      rfl
    refine pure_ (i := 8) (N := some 69) (v := undef) (a' := ?_) #[oT,oT,oT,oT,oT,oT,oT,oT,oT,oF,oF,oF,oF,oF,oF,oF,oF,oF,oF] rfl rfl (any_of HT_.out (by kernel_rfl)) (fun _ _ _ h => h) (Or.inr ⟨by rfl, rfl⟩) ?_ ?_
    rotate_left
    · simp only [Act.put, List.setIfInBounds_toArray, List.set_cons_zero, List.set_cons_succ, i64_w, i32_w]
      rfl
    refine pure_ (i := 9) (N := some 70) (v := undef) (a' := ?_) #[oT,oT,oT,oT,oT,oT,oT,oT,oT,oT,oF,oF,oF,oF,oF,oF,oF,oF,oF] rfl rfl (any_of HT_.out (by kernel_rfl)) (fun _ _ _ h => h) (Or.inr ⟨by rfl, rfl⟩) ?_ ?_
    rotate_left
    · simp only [Act.put, List.setIfInBounds_toArray, List.set_cons_zero, List.set_cons_succ, i64_w, i32_w]
      rfl
    refine pure_ (i := 10) (N := some 71) (v := undef) (a' := ?_) #[oT,oT,oT,oT,oT,oT,oT,oT,oT,oT,oT,oF,oF,oF,oF,oF,oF,oF,oF] rfl rfl (any_of HT_.out (by kernel_rfl)) (fun _ _ _ h => h) (Or.inr ⟨by rfl, rfl⟩) ?_ ?_
    rotate_left
    · simp only [Act.put, List.setIfInBounds_toArray, List.set_cons_zero, List.set_cons_succ, i64_w, i32_w]
      rfl
    refine pure_ (i := 11) (N := some 72) (v := undef) (a' := ?_) #[oT,oT,oT,oT,oT,oT,oT,oT,oT,oT,oT,oT,oF,oF,oF,oF,oF,oF,oF] rfl rfl (any_of HT_.out (by kernel_rfl)) (fun _ _ _ h => h) (Or.inr ⟨by rfl, rfl⟩) ?_ ?_
    rotate_left
    · simp only [Act.put, List.setIfInBounds_toArray, List.set_cons_zero, List.set_cons_succ, i64_w, i32_w]
      rfl
    refine pure_ (i := 12) (N := some 73) (v := undef) (a' := ?_) #[oT,oT,oT,oT,oT,oT,oT,oT,oT,oT,oT,oT,oT,oF,oF,oF,oF,oF,oF] rfl rfl (any_of HT_.out (by kernel_rfl)) (fun _ _ _ h => h) (Or.inr ⟨by rfl, rfl⟩) ?_ ?_
    rotate_left
    · simp only [Act.put, List.setIfInBounds_toArray, List.set_cons_zero, List.set_cons_succ, i64_w, i32_w]
      rfl
    refine pure_ (i := 13) (N := some 74) (v := undef) (a' := ?_) #[oT,oT,oT,oT,oT,oT,oT,oT,oT,oT,oT,oT,oT,oT,oF,oF,oF,oF,oF] rfl rfl (any_of HT_.out (by kernel_rfl)) (fun _ _ _ h => h) (Or.inr ⟨by rfl, rfl⟩) ?_ ?_
    rotate_left
    · simp only [Act.put, List.setIfInBounds_toArray, List.set_cons_zero, List.set_cons_succ, i64_w, i32_w]
      rfl
    refine pure_ (i := 14) (N := some 75) (v := undef) (a' := ?_) #[oT,oT,oT,oT,oT,oT,oT,oT,oT,oT,oT,oT,oT,oT,oT,oF,oF,oF,oF] rfl rfl (any_of HT_.out (by kernel_rfl)) (fun _ _ _ h => h) (Or.inr ⟨by rfl, rfl⟩) ?_ ?_
    rotate_left
    · simp only [Act.put, List.setIfInBounds_toArray, List.set_cons_zero, List.set_cons_succ, i64_w, i32_w]
      rfl
    refine pure_ (i := 15) (N := some 76) (v := undef) (a' := ?_) #[oT,oT,oT,oT,oT,oT,oT,oT,oT,oT,oT,oT,oT,oT,oT,oT,oF,oF,oF] rfl rfl (any_of HT_.out (by kernel_rfl)) (fun _ _ _ h => h) (Or.inr ⟨by rfl, rfl⟩) ?_ ?_
    rotate_left
    · simp only [Act.put, List.setIfInBounds_toArray, List.set_cons_zero, List.set_cons_succ, i64_w, i32_w]
      rfl
    refine pure_ (i := 16) (N := some 77) (v := undef) (a' := ?_) #[oT,oT,oT,oT,oT,oT,oT,oT,oT,oT,oT,oT,oT,oT,oT,oT,oT,oF,oF] rfl rfl (any_of HT_.out (by kernel_rfl)) (fun _ _ _ h => h) (Or.inr ⟨by rfl, rfl⟩) ?_ ?_
    rotate_left
    · simp only [Act.put, List.setIfInBounds_toArray, List.set_cons_zero, List.set_cons_succ, i64_w, i32_w]
      rfl
    refine pure_ (i := 17) (N := some 78) (v := undef) (a' := ?_) #[oT,oT,oT,oT,oT,oT,oT,oT,oT,oT,oT,oT,oT,oT,oT,oT,oT,oT,oF] rfl rfl (any_of HT_.out (by kernel_rfl)) (fun _ _ _ h => h) (Or.inr ⟨by rfl, rfl⟩) ?_ ?_
    rotate_left
    · simp only [Act.put, List.setIfInBounds_toArray, List.set_cons_zero, List.set_cons_succ, i64_w, i32_w]
      rfl
    refine pure_ (i := 18) (N := some 79) (v := ?_) (a' := ?_) #[oT,oT,oT,oT,oT,oT,oT,oT,oT,oT,oT,oT,oT,oT,oT,oT,oT,oT,oT] rfl rfl (any_of HT_.out (by kernel_rfl)) (fun _ _ _ h => h) (Or.inl ⟨by rfl, ?_⟩) ?_ ?_
    rotate_left
    · intro w'
      go_simp
      with_reducible rfl
    rotate_left
    · simp only [Act.put, List.setIfInBounds_toArray, List.set_cons_zero, List.set_cons_succ, i64_w, i32_w]
      rfl
    refine done_ (done_of HT_.out (by kernel_rfl)) ?_
    try go_wp2
    go_roundg k3
    case measure => have := HJ2.out; have := HK2.out; have := HK3.out; omega
    case rel => exact ⟨(y192), (y193), (x10_3), (wrap64 (x35_3 + 1)), (by first | rfl | (simp; done) | (simp [*]; done)), (by first | rfl | (simp; done) | (simp [*]; done)), H', ⟨by have := HJ2.out; have := HK2.out; have := HK3.out; omega⟩, ⟨by (with_reducible repeat (first | apply Kd.R_alloc | apply Kd.R_drewN | apply Kd.R_drew)); exact HO_6.out⟩, ⟨by (with_reducible repeat (first | apply Kd.R_alloc | apply Kd.R_drewN | apply Kd.R_drew)); exact HO_7.out⟩, ⟨by (with_reducible repeat (first | apply Kd.R_alloc | apply Kd.R_drewN | apply Kd.R_drew)); exact HO_8.out⟩, ⟨by repeat (first | (with_reducible first | exact HB.out | apply below_alloc | apply pw_below_drewN | apply below_drew1 | refine below_set ?_ GE189.out) | exact HB.out)⟩⟩
  rw [if_pos c33] at H
  have c33b0 : decide (0 < (rd y193 x35_3)) = true := decide_eq_true c33
  clear c33
  by_cases c34 : x10_3 < 0
  · rw [if_pos c34] at H
    have c34b0 : decide (x10_3 < 0) = true := decide_eq_true c34
    clear c34
    have H' := Aside0.mk H
    clear H
    have p188 : 0 ≤ (x35_3 : Int) := of_decide_eq_true (by with_reducible assumption)
    have q188 : x35_3 < (l0.length : Int) := of_decide_eq_true (by with_reducible assumption)
    obtain ⟨ad188, e188, hx188_0, hx188_1, hx188_2⟩ := at_T96 HR0.out x35_3 p188 q188
    cases e188
    replace hx188_0 := (HB.out.cell (World.block_lt_of_cell? w _ hx188_0)).trans hx188_0
    replace hx188_1 := (HB.out.cell (World.block_lt_of_cell? w _ hx188_1)).trans hx188_1
    replace hx188_2 := (HB.out.cell (World.block_lt_of_cell? w _ hx188_2)).trans hx188_2
    replace p188 := eq_true p188
    replace q188 := eq_true q188
    try go_wp2_with (first | ((with_reducible refine gate_dst (N := 12) rfl ?_); refine box_event ?hg (N := 12) ?hd (cs := #[.int .i64 0, .int .i64 0, .int .i64 0]) (t := 96) ?hr ?_; (case hd => rfl); (case hg => rfl); (case hr => first | (go_simp; done) | (go_simp; rfl)); intro gb189 hg w35 hbox hb; have n0_ := Aside0.mk (Kd.R_below HO_6.out hb); have n1_ := Aside0.mk (Kd.R_below HO_7.out hb); have n2_ := Aside0.mk (Kd.R_below HO_8.out hb); have n3_ := Aside0.mk (below_step HB.out hb); have n4_ := Aside0.mk (hbox); have n5_ := Aside0.mk ((by rw [hg]; exact (below_size HB.out) : w.heap.size ≤ gb189)); have n6_ := Aside0.mk ((by rw [hg]; exact (below_size HB.out) : w.heap.size ≤ gb189)); clear HO_6; clear HO_7; clear HO_8; clear HB; have HO_6 := n0_; have HO_7 := n1_; have HO_8 := n2_; have HB := n3_; have BK189 := n4_; have GW189 := n5_; have GE189 := n6_; clear n0_ n1_ n2_ n3_ n4_ n5_ n6_; clear hb hbox hg; have hcz36_0 : w35.cell? ⟨gb189, 0, none⟩ = some (.int .i64 0) := (blk_cell BK189.out 0).trans rfl; have hcz36_1 : w35.cell? ⟨gb189, 1, none⟩ = some (.int .i64 0) := (blk_cell BK189.out 1).trans rfl; have hcz36_2 : w35.cell? ⟨gb189, 2, none⟩ = some (.int .i64 0) := (blk_cell BK189.out 2).trans rfl; have hfz36_0 := blk_frozen BK189.out 0; have hfz36_1 := blk_frozen BK189.out 1; have hfz36_2 := blk_frozen BK189.out 2) | ((with_reducible refine gate_store (t := 96) (p := 12) rfl ?_); refine store_event (t := 96) (p := 12) (v := ?vo_w37) (w1 := (((w35.setCell ⟨gb189, 0, none⟩ (.int .i64 ((rd_T96 l0 x35_3).f0))).setCell ⟨gb189, 1, none⟩ (.int .i64 ((rd_T96 l0 x35_3).f1))).setCell ⟨gb189, 2, none⟩ (.int .i64 ((rd_T96 l0 x35_3).f2)))) ?hg ?ho ?hn ?hr ?_; (case ho => rfl); (case hg => rfl); (case hn => rfl); (case hr => first | (go_simp; done) | (go_simp; rfl)); intro w37 hw; have n0_ : Aside0 (Kd.R (Kd.int .i64) 3 w37 w.heap.size (fun k_ => some k_ ≠ (v180 : Value).ownBlock ∧ some k_ ≠ (v183 : Value).ownBlock) v177 x6_2) := ⟨(by rw [hw]; exact (by exact Kd.R_mono (Kd.R_far (p := ⟨gb189, 2, none⟩) (Kd.R_far (p := ⟨gb189, 1, none⟩) (Kd.R_far (p := ⟨gb189, 0, none⟩) (Kd.R_types HO_6.out BK189.out (by decide)) (fun _ hk => hk.2) (.int .i64 ((rd_T96 l0 x35_3).f0))) (fun _ hk => hk.2) (.int .i64 ((rd_T96 l0 x35_3).f1))) (fun _ hk => hk.2) (.int .i64 ((rd_T96 l0 x35_3).f2))) (fun _ hk => ⟨hk.1.1, hk.1.2⟩)))⟩; have n1_ : Aside0 (Kd.R (Kd.int .i64) 3 w37 w.heap.size (fun k_ => some k_ ≠ (v177 : Value).ownBlock ∧ some k_ ≠ (v183 : Value).ownBlock) v180 x7_3) := ⟨(by rw [hw]; exact (by exact Kd.R_mono (Kd.R_far (p := ⟨gb189, 2, none⟩) (Kd.R_far (p := ⟨gb189, 1, none⟩) (Kd.R_far (p := ⟨gb189, 0, none⟩) (Kd.R_types HO_7.out BK189.out (by decide)) (fun _ hk => hk.2) (.int .i64 ((rd_T96 l0 x35_3).f0))) (fun _ hk => hk.2) (.int .i64 ((rd_T96 l0 x35_3).f1))) (fun _ hk => hk.2) (.int .i64 ((rd_T96 l0 x35_3).f2))) (fun _ hk => ⟨hk.1.1, hk.1.2⟩)))⟩; have n2_ : Aside0 (Kd.R (Kd.int .i64) 3 w37 w.heap.size (fun k_ => some k_ ≠ (v177 : Value).ownBlock ∧ some k_ ≠ (v180 : Value).ownBlock) v183 x8_3) := ⟨(by rw [hw]; exact (by exact Kd.R_mono (Kd.R_far (p := ⟨gb189, 2, none⟩) (Kd.R_far (p := ⟨gb189, 1, none⟩) (Kd.R_far (p := ⟨gb189, 0, none⟩) (Kd.R_types HO_8.out BK189.out (by decide)) (fun _ hk => hk.2) (.int .i64 ((rd_T96 l0 x35_3).f0))) (fun _ hk => hk.2) (.int .i64 ((rd_T96 l0 x35_3).f1))) (fun _ hk => hk.2) (.int .i64 ((rd_T96 l0 x35_3).f2))) (fun _ hk => ⟨hk.1.1, hk.1.2⟩)))⟩; have n3_ : Aside0 (w37.heap[gb189]? = some (.cells #[.int .i64 ((rd_T96 l0 x35_3).f0), .int .i64 ((rd_T96 l0 x35_3).f1), .int .i64 ((rd_T96 l0 x35_3).f2)] 96 (0, 0))) := ⟨(by rw [hw]; exact (by refine blk_put (cs := #[.int .i64 ((rd_T96 l0 x35_3).f0), .int .i64 ((rd_T96 l0 x35_3).f1), .int .i64 0]) ?_ 2 _ rfl; refine blk_put (cs := #[.int .i64 ((rd_T96 l0 x35_3).f0), .int .i64 0, .int .i64 0]) ?_ 1 _ rfl; refine blk_put (cs := #[.int .i64 0, .int .i64 0, .int .i64 0]) ?_ 0 _ rfl; exact BK189.out))⟩; have n4_ : Aside0 (Below w.heap.size w w37) := ⟨(by rw [hw]; exact (by repeat (first | (with_reducible first | exact HB.out | apply below_alloc | apply pw_below_drewN | apply below_drew1 | refine below_set ?_ GE189.out) | exact HB.out)))⟩; clear hw; clear HO_6; clear HO_7; clear HO_8; clear BK189; clear HB; have HO_6 := n0_; have HO_7 := n1_; have HO_8 := n2_; have BK189 := n3_; have HB := n4_; clear n0_ n1_ n2_ n3_ n4_; have hcz38_0 : w37.cell? ⟨gb189, 0, none⟩ = some (.int .i64 ((rd_T96 l0 x35_3).f0)) := (blk_cell BK189.out 0).trans rfl; have hcz38_1 : w37.cell? ⟨gb189, 1, none⟩ = some (.int .i64 ((rd_T96 l0 x35_3).f1)) := (blk_cell BK189.out 1).trans rfl; have hcz38_2 : w37.cell? ⟨gb189, 2, none⟩ = some (.int .i64 ((rd_T96 l0 x35_3).f2)) := (blk_cell BK189.out 2).trans rfl; have hfz38_0 := blk_frozen BK189.out 0; have hfz38_1 := blk_frozen BK189.out 1; have hfz38_2 := blk_frozen BK189.out 2; obtain ⟨Ao39, co39, eo39⟩ := Kd.R_slice HO_8.out; subst eo39; have p190 : 0 ≤ (x35_3 : Int) := of_decide_eq_true (by with_reducible assumption); have q190 : x35_3 < (x8_3.length : Int) := of_decide_eq_true (by with_reducible assumption); obtain ⟨ad190, e190, hx190_0⟩ := Kd.at_int (Kd.R_reads' HO_8.out).2.2 x35_3 p190 q190; cases e190; replace p190 := eq_true p190; replace q190 := eq_true q190; obtain ⟨Ao40, co40, eo40⟩ := Kd.R_slice HO_7.out; subst eo40; have p191 : 0 ≤ (x35_3 : Int) := of_decide_eq_true (by with_reducible assumption); have q191 : x35_3 < (x7_3.length : Int) := of_decide_eq_true (by with_reducible assumption); obtain ⟨ad191, e191, hx191_0⟩ := Kd.at_int (Kd.R_reads' HO_7.out).2.2 x35_3 p191 q191; cases e191; replace p191 := eq_true p191; replace q191 := eq_true q191; have p31 : 0 ≤ (x35_3 : Int) := of_decide_eq_true (by with_reducible assumption); have q31 : (x35_3 : Int) < ((x7_3.length : Int) : Int) := of_decide_eq_true (by with_reducible assumption); obtain ⟨go31, co31, eo31, gb31, gl31, cl31, HG31⟩ := Kd.R_form HO_7.out (by omega); (first | cases eo31 | (injection eo31 with ea_ en_ ec_; (first | subst ea_ | (injection ea_ with ea_; subst ea_)); subst ec_; clear en_)); have GB31 := Aside0.mk gb31; have GG31 := Aside0.mk HG31; clear gb31 gl31 HG31; (first | simp only [add_plain] at hx191_0 | skip); obtain ⟨hx31_0, hf31_0⟩ := Kd.R_celln 0 HO_7.out (x35_3 : Int) p31 q31; replace p31 := eq_true p31; replace q31 := eq_true q31; obtain ⟨hy41_, hz41_⟩ := Kd.R_celln 0 HO_7.out (x35_3 : Int) (of_decide_eq_true (by with_reducible assumption)) (of_decide_eq_true (by with_reducible assumption)); have HP41 := Kd.R_putg HO_7.out (x35_3 : Int) (wrap64 ((rd x7_3 x35_3) + 1))) | ((with_reducible refine gate_store (t := 3) (p := 55) rfl ?_); refine store_event (t := 3) (p := 55) (v := ?vo_w42) (w1 := (w37.setCell ⟨go31, (x35_3 : Int).toNat, none⟩ (.int .i64 (wrap64 ((rd x7_3 x35_3) + 1))))) ?hg ?ho ?hn ?hr ?_; (case ho => rfl); (case hg => rfl); (case hn => rfl); (case hr => first | (go_simp; done) | (go_simp; rfl)); intro w42 hw; have hg : w37.grownBy w42 (some go31) := (by rw [hw]; exact HP41.2); have hp_ : Kd.R (Kd.int .i64) 3 w42 w.heap.size (fun k_ => some k_ ≠ (v177 : Value).ownBlock ∧ some k_ ≠ (.slice (some ad190) x8_3.length co39 : Value).ownBlock) (.slice (some ⟨go31, 0, none⟩) x7_3.length co40) y192 := (by rw [hw, Ny192.out]; exact HP41.1); clear HP41; have n0_ := Aside0.mk (Kd.R_after (v := (.slice (some ⟨go31, 0, none⟩) x7_3.length co40)) (v1 := (.slice (some ⟨go31, 0, none⟩) x7_3.length co40)) (ok := (fun k_ => some k_ ≠ (.slice (some ad190) x8_3.length co39 : Value).ownBlock)) (by exact Kd.R_mono HO_6.out (fun _ hk => ⟨hk.2, hk.1⟩)) hg (.inl rfl)); have n1_ := Aside0.mk (hp_); have n2_ := Aside0.mk (Kd.R_after (v := (.slice (some ⟨go31, 0, none⟩) x7_3.length co40)) (v1 := (.slice (some ⟨go31, 0, none⟩) x7_3.length co40)) (ok := (fun k_ => some k_ ≠ (v177 : Value).ownBlock)) HO_8.out hg (.inl rfl)); have n3_ := Aside0.mk (blk_grown (g := gb189) (o := .cells #[.int .i64 ((rd_T96 l0 x35_3).f0), .int .i64 ((rd_T96 l0 x35_3).f1), .int .i64 ((rd_T96 l0 x35_3).f2)] 96 (0, 0)) (by exact BK189.out) hg (Kd.R_ne HO_7.out BK189.out (by decide))); have n4_ := Aside0.mk ((by rw [hw]; exact below_set (HB.out) GB31.out : Below w.heap.size w w42)); clear HO_6; clear HO_7; clear HO_8; clear BK189; clear HB; have HO_6 := n0_; have HO_7 := n1_; have HO_8 := n2_; have BK189 := n3_; have HB := n4_; clear n0_ n1_ n2_ n3_ n4_; clear hg hw hp_; have hcz43_0 : w42.cell? ⟨gb189, 0, none⟩ = some (.int .i64 ((rd_T96 l0 x35_3).f0)) := (blk_cell BK189.out 0).trans rfl; have hcz43_1 : w42.cell? ⟨gb189, 1, none⟩ = some (.int .i64 ((rd_T96 l0 x35_3).f1)) := (blk_cell BK189.out 1).trans rfl; have hcz43_2 : w42.cell? ⟨gb189, 2, none⟩ = some (.int .i64 ((rd_T96 l0 x35_3).f2)) := (blk_cell BK189.out 2).trans rfl; have hfz43_0 := blk_frozen BK189.out 0; have hfz43_1 := blk_frozen BK189.out 1; have hfz43_2 := blk_frozen BK189.out 2; have p32 : 0 ≤ (x35_3 : Int) := of_decide_eq_true (by with_reducible assumption); have q32 : (x35_3 : Int) < ((x8_3.length : Int) : Int) := of_decide_eq_true (by with_reducible assumption); obtain ⟨go32, co32, eo32, gb32, gl32, cl32, HG32⟩ := Kd.R_form HO_8.out (by omega); (first | cases eo32 | (injection eo32 with ea_ en_ ec_; (first | subst ea_ | (injection ea_ with ea_; subst ea_)); subst ec_; clear en_)); have GB32 := Aside0.mk gb32; have GG32 := Aside0.mk HG32; clear gb32 gl32 HG32; (first | simp only [add_plain] at hx190_0 | skip); obtain ⟨hx32_0, hf32_0⟩ := Kd.R_celln 0 HO_8.out (x35_3 : Int) p32 q32; replace p32 := eq_true p32; replace q32 := eq_true q32; obtain ⟨hy44_, hz44_⟩ := Kd.R_celln 0 HO_8.out (x35_3 : Int) (of_decide_eq_true (by with_reducible assumption)) (of_decide_eq_true (by with_reducible assumption)); have HP44 := Kd.R_putg HO_8.out (x35_3 : Int) ((rd_T96 l0 x35_3).f1)) | ((with_reducible refine gate_store (t := 3) (p := 60) rfl ?_); refine store_event (t := 3) (p := 60) (v := ?vo_w45) (w1 := (w42.setCell ⟨go32, (x35_3 : Int).toNat, none⟩ (.int .i64 ((rd_T96 l0 x35_3).f1)))) ?hg ?ho ?hn ?hr ?_; (case ho => rfl); (case hg => rfl); (case hn => rfl); (case hr => first | (go_simp; done) | (go_simp; rfl)); intro w45 hw; have hg : w42.grownBy w45 (some go32) := (by rw [hw]; exact HP44.2); have hp_ : Kd.R (Kd.int .i64) 3 w45 w.heap.size (fun k_ => some k_ ≠ (v177 : Value).ownBlock ∧ some k_ ≠ (.slice (some ⟨go31, 0, none⟩) x7_3.length co40 : Value).ownBlock) (.slice (some ⟨go32, 0, none⟩) x8_3.length co39) y193 := (by rw [hw, Ny193.out]; exact HP44.1); clear HP44; have n0_ := Aside0.mk (Kd.R_after (v := (.slice (some ⟨go32, 0, none⟩) x8_3.length co39)) (v1 := (.slice (some ⟨go32, 0, none⟩) x8_3.length co39)) (ok := (fun k_ => some k_ ≠ (.slice (some ⟨go31, 0, none⟩) x7_3.length co40 : Value).ownBlock)) (by exact Kd.R_mono HO_6.out (fun _ hk => ⟨hk.2, hk.1⟩)) hg (.inl rfl)); have n1_ := Aside0.mk (Kd.R_after (v := (.slice (some ⟨go32, 0, none⟩) x8_3.length co39)) (v1 := (.slice (some ⟨go32, 0, none⟩) x8_3.length co39)) (ok := (fun k_ => some k_ ≠ (v177 : Value).ownBlock)) HO_7.out hg (.inl rfl)); have n2_ := Aside0.mk (hp_); have n3_ := Aside0.mk (blk_grown (g := gb189) (o := .cells #[.int .i64 ((rd_T96 l0 x35_3).f0), .int .i64 ((rd_T96 l0 x35_3).f1), .int .i64 ((rd_T96 l0 x35_3).f2)] 96 (0, 0)) (by exact BK189.out) hg (Kd.R_ne HO_8.out BK189.out (by decide))); have n4_ := Aside0.mk ((by rw [hw]; exact below_set (HB.out) GB32.out : Below w.heap.size w w45)); clear HO_6; clear HO_7; clear HO_8; clear BK189; clear HB; have HO_6 := n0_; have HO_7 := n1_; have HO_8 := n2_; have BK189 := n3_; have HB := n4_; clear n0_ n1_ n2_ n3_ n4_; clear hg hw hp_))
    have n0_ := Aside0.mk (Kd.R_drew HO_6.out)
    have n1_ := Aside0.mk (Kd.R_drew HO_7.out)
    have n2_ := Aside0.mk (Kd.R_drew HO_8.out)
    have n3_ := Aside0.mk (blk_drew BK189.out)
    have n4_ := Aside0.mk (below_drew1 HB.out)
    clear HO_6
    clear HO_7
    clear HO_8
    clear BK189
    clear HB
    have HO_6 := n0_
    have HO_7 := n1_
    have HO_8 := n2_
    have BK189 := n3_
    have HB := n4_
    clear n0_ n1_ n2_ n3_ n4_
    have p194 : 0 ≤ (x35_3 : Int) := of_decide_eq_true (by with_reducible assumption)
    have q194 : x35_3 < (y193.length : Int) := (by have h_ : (x35_3 : Int) < ((x8_3.length : Int) : Int) := of_decide_eq_true (by with_reducible assumption); first | (have e_ := (Kd.R_reads' HO_8.out).1; omega) | simpa only [Ny193.out, List.length_set] using h_)
    have ql194 : ((x35_3 : Int) < ((x8_3.length : Int) : Int)) = True := eq_true (of_decide_eq_true (by with_reducible assumption))
    obtain ⟨ad194, e194, hx194_0⟩ := Kd.at_int (Kd.R_reads' HO_8.out).2.2 x35_3 p194 q194
    obtain rfl : (⟨go32, 0, none⟩ : Addr) = ad194 := (by injection e194)
    (first | simp only [add_plain] at hx194_0 | simp only [add_at] at hx194_0 | simp only [Addr.add, Nat.zero_add] at hx194_0 | skip)
    replace p194 := eq_true p194
    replace q194 := eq_true q194
    refine start_ (n := 19) (S := fun w' => w'.cell? ⟨go32, (x35_3).toNat, none⟩ = some (.int .i64 (rd y193 x35_3))) (ds := []) #[oF,oF,oF,oF,oF,oF,oF,oF,oF,oF,oF,oF,oF,oF,oF,oF,oF,oF,oF] (by kernel_rfl) rfl rfl (hx194_0) (fun hHeld => ?_); refine with_tabW impl_TaskSchedule.tab16 impl_TaskSchedule.bits16 (fun HT_ HW_ => ?_)
    generalize w45.drew = w46 at HO_6 HO_7 HO_8 BK189 HB hx194_0 hHeld ⊢
    refine pure_ (i := 0) (N := some 61) (v := ?_) (a' := ?_) #[oT,oF,oF,oF,oF,oF,oF,oF,oF,oF,oF,oF,oF,oF,oF,oF,oF,oF,oF] rfl rfl (any_of HT_.out (by kernel_rfl)) (fun _ _ _ h => h) (Or.inl ⟨by rfl, ?_⟩) ?_ ?_
    rotate_left
    · intro w'
      go_simp
      with_reducible rfl
    rotate_left
    · simp only [Act.put, List.setIfInBounds_toArray, List.set_cons_zero, List.set_cons_succ, i64_w, i32_w]
      rfl
    refine pure_ (i := 1) (N := some 62) (v := ?_) (a' := ?_) #[oT,oT,oF,oF,oF,oF,oF,oF,oF,oF,oF,oF,oF,oF,oF,oF,oF,oF,oF] rfl rfl (any_of HT_.out (by kernel_rfl)) (fun _ _ _ h => h) (Or.inl ⟨by rfl, ?_⟩) ?_ ?_
    rotate_left
    · intro w'
      go_simp
      with_reducible rfl
    rotate_left
    · simp only [Act.put, List.setIfInBounds_toArray, List.set_cons_zero, List.set_cons_succ, i64_w, i32_w]
      rfl
    refine pure_ (i := 2) (N := some 63) (v := ?_) (a' := ?_) #[oT,oT,oT,oF,oF,oF,oF,oF,oF,oF,oF,oF,oF,oF,oF,oF,oF,oF,oF] rfl rfl (any_of HT_.out (by kernel_rfl)) (fun _ _ _ h => h) (Or.inl ⟨by rfl, ?_⟩) ?_ ?_
    rotate_left
    · intro w'
      go_simp
      with_reducible rfl
    rotate_left
    · simp only [Act.put, List.setIfInBounds_toArray, List.set_cons_zero, List.set_cons_succ, i64_w, i32_w]
      rfl
    refine take_ (i := 3) (N := some 64) (v := ?_) (a' := ?_) #[oT,oT,oT,oT,oF,oF,oF,oF,oF,oF,oF,oF,oF,oF,oF,oF,oF,oF,oF] rfl rfl (take_ofW HT_.out HW_.out (by kernel_rfl)) (fun _ _ _ h => h) (Or.inl ⟨by rfl, ?_⟩) hHeld ?_ ?_
    rotate_left
    · intro w' s0
      go_simp
      with_reducible rfl
    rotate_left
    · simp only [Act.put, List.setIfInBounds_toArray, List.set_cons_zero, List.set_cons_succ, i64_w, i32_w]
      rfl
    refine pure_ (i := 4) (N := some 65) (v := ?_) (a' := ?_) #[oT,oT,oT,oT,oT,oF,oF,oF,oF,oF,oF,oF,oF,oF,oF,oF,oF,oF,oF] rfl rfl (any_of HT_.out (by kernel_rfl)) (fun _ _ _ h => h) (Or.inl ⟨by rfl, ?_⟩) ?_ ?_
    rotate_left
    · intro w'
      go_simp
      with_reducible rfl
    rotate_left
    · simp only [Act.put, List.setIfInBounds_toArray, List.set_cons_zero, List.set_cons_succ, i64_w, i32_w]
      rfl
    refine pure_ (i := 5) (N := some 66) (v := ?_) (a' := ?_) #[oT,oT,oT,oT,oT,oT,oF,oF,oF,oF,oF,oF,oF,oF,oF,oF,oF,oF,oF] rfl rfl (any_of HT_.out (by kernel_rfl)) (fun _ _ _ h => h) (Or.inl ⟨by rfl, ?_⟩) ?_ ?_
    rotate_left
    · intro w'
      go_simp
      with_reducible rfl
    rotate_left
    · simp only [Act.put, List.setIfInBounds_toArray, List.set_cons_zero, List.set_cons_succ, i64_w, i32_w]
      rfl
    refine pure_ (i := 6) (N := some 67) (v := ?_) (a' := ?_) #[oT,oT,oT,oT,oT,oT,oT,oF,oF,oF,oF,oF,oF,oF,oF,oF,oF,oF,oF] rfl rfl (any_of HT_.out (by kernel_rfl)) (fun _ _ _ h => h) (Or.inl ⟨by rfl, ?_⟩) ?_ ?_
    rotate_left
    · intro w'
      go_simp
      with_reducible rfl
    rotate_left
    · simp only [Act.put, List.setIfInBounds_toArray, List.set_cons_zero, List.set_cons_succ, i64_w, i32_w]
      rfl
    refine pure_ (i := 7) (N := some 68) (v := ?_) (a' := ?_) #[oT,oT,oT,oT,oT,oT,oT,oT,oF,oF,oF,oF,oF,oF,oF,oF,oF,oF,oF] rfl rfl (any_of HT_.out (by kernel_rfl)) (fun _ _ _ h => h) (Or.inl ⟨by rfl, ?_⟩) ?_ ?_
    rotate_left
    · intro w'
      go_simp
      with_reducible rfl
    rotate_left
    · simp only [Act.put, List.setIfInBounds_toArray, List.set_cons_zero, List.set_cons_succ, i64_w, i32_w]
      rfl
    refine pure_ (i := 8) (N := some 69) (v := ?_) (a' := ?_) #[oT,oT,oT,oT,oT,oT,oT,oT,oT,oF,oF,oF,oF,oF,oF,oF,oF,oF,oF] rfl rfl (any_of HT_.out (by kernel_rfl)) (fun _ _ _ h => h) (Or.inl ⟨by rfl, ?_⟩) ?_ ?_
    rotate_left
    · intro w'
      go_simp
      with_reducible rfl
    rotate_left
    · simp only [Act.put, List.setIfInBounds_toArray, List.set_cons_zero, List.set_cons_succ, i64_w, i32_w]
      rfl
    refine pure_ (i := 9) (N := some 70) (v := undef) (a' := ?_) #[oT,oT,oT,oT,oT,oT,oT,oT,oT,oT,oF,oF,oF,oF,oF,oF,oF,oF,oF] rfl rfl (any_of HT_.out (by kernel_rfl)) (fun _ _ _ h => h) (Or.inr ⟨by rfl, rfl⟩) ?_ ?_
    rotate_left
    · simp only [Act.put, List.setIfInBounds_toArray, List.set_cons_zero, List.set_cons_succ, i64_w, i32_w]
      rfl
    refine pure_ (i := 10) (N := some 71) (v := undef) (a' := ?_) #[oT,oT,oT,oT,oT,oT,oT,oT,oT,oT,oT,oF,oF,oF,oF,oF,oF,oF,oF] rfl rfl (any_of HT_.out (by kernel_rfl)) (fun _ _ _ h => h) (Or.inr ⟨by rfl, rfl⟩) ?_ ?_
    rotate_left
    · simp only [Act.put, List.setIfInBounds_toArray, List.set_cons_zero, List.set_cons_succ, i64_w, i32_w]
      rfl
    refine pure_ (i := 11) (N := some 72) (v := undef) (a' := ?_) #[oT,oT,oT,oT,oT,oT,oT,oT,oT,oT,oT,oT,oF,oF,oF,oF,oF,oF,oF] rfl rfl (any_of HT_.out (by kernel_rfl)) (fun _ _ _ h => h) (Or.inr ⟨by rfl, rfl⟩) ?_ ?_
    rotate_left
    · simp only [Act.put, List.setIfInBounds_toArray, List.set_cons_zero, List.set_cons_succ, i64_w, i32_w]
      rfl
    refine pure_ (i := 12) (N := some 73) (v := undef) (a' := ?_) #[oT,oT,oT,oT,oT,oT,oT,oT,oT,oT,oT,oT,oT,oF,oF,oF,oF,oF,oF] rfl rfl (any_of HT_.out (by kernel_rfl)) (fun _ _ _ h => h) (Or.inr ⟨by rfl, rfl⟩) ?_ ?_
    rotate_left
    · simp only [Act.put, List.setIfInBounds_toArray, List.set_cons_zero, List.set_cons_succ, i64_w, i32_w]
      rfl
    refine pure_ (i := 13) (N := some 74) (v := undef) (a' := ?_) #[oT,oT,oT,oT,oT,oT,oT,oT,oT,oT,oT,oT,oT,oT,oF,oF,oF,oF,oF] rfl rfl (any_of HT_.out (by kernel_rfl)) (fun _ _ _ h => h) (Or.inr ⟨by rfl, rfl⟩) ?_ ?_
    rotate_left
    · simp only [Act.put, List.setIfInBounds_toArray, List.set_cons_zero, List.set_cons_succ, i64_w, i32_w]
      rfl
    refine pure_ (i := 14) (N := some 75) (v := undef) (a' := ?_) #[oT,oT,oT,oT,oT,oT,oT,oT,oT,oT,oT,oT,oT,oT,oT,oF,oF,oF,oF] rfl rfl (any_of HT_.out (by kernel_rfl)) (fun _ _ _ h => h) (Or.inr ⟨by rfl, rfl⟩) ?_ ?_
    rotate_left
    · simp only [Act.put, List.setIfInBounds_toArray, List.set_cons_zero, List.set_cons_succ, i64_w, i32_w]
      rfl
    refine pure_ (i := 15) (N := some 76) (v := undef) (a' := ?_) #[oT,oT,oT,oT,oT,oT,oT,oT,oT,oT,oT,oT,oT,oT,oT,oT,oF,oF,oF] rfl rfl (any_of HT_.out (by kernel_rfl)) (fun _ _ _ h => h) (Or.inr ⟨by rfl, rfl⟩) ?_ ?_
    rotate_left
    · simp only [Act.put, List.setIfInBounds_toArray, List.set_cons_zero, List.set_cons_succ, i64_w, i32_w]
      rfl
    refine pure_ (i := 16) (N := some 77) (v := undef) (a' := ?_) #[oT,oT,oT,oT,oT,oT,oT,oT,oT,oT,oT,oT,oT,oT,oT,oT,oT,oF,oF] rfl rfl (any_of HT_.out (by kernel_rfl)) (fun _ _ _ h => h) (Or.inr ⟨by rfl, rfl⟩) ?_ ?_
    rotate_left
    · simp only [Act.put, List.setIfInBounds_toArray, List.set_cons_zero, List.set_cons_succ, i64_w, i32_w]
      rfl
    refine pure_ (i := 17) (N := some 78) (v := ?_) (a' := ?_) #[oT,oT,oT,oT,oT,oT,oT,oT,oT,oT,oT,oT,oT,oT,oT,oT,oT,oT,oF] rfl rfl (any_of HT_.out (by kernel_rfl)) (fun _ _ _ h => h) (Or.inl ⟨by rfl, ?_⟩) ?_ ?_
    rotate_left
    · intro w'
      go_simp
      with_reducible rfl
    rotate_left
    · simp only [Act.put, List.setIfInBounds_toArray, List.set_cons_zero, List.set_cons_succ, i64_w, i32_w]
      rfl
    refine pure_ (i := 18) (N := some 79) (v := ?_) (a' := ?_) #[oT,oT,oT,oT,oT,oT,oT,oT,oT,oT,oT,oT,oT,oT,oT,oT,oT,oT,oT] rfl rfl (any_of HT_.out (by kernel_rfl)) (fun _ _ _ h => h) (Or.inl ⟨by rfl, ?_⟩) ?_ ?_
    rotate_left
    · intro w'
      go_simp
      with_reducible rfl
    rotate_left
    · simp only [Act.put, List.setIfInBounds_toArray, List.set_cons_zero, List.set_cons_succ, i64_w, i32_w]
      rfl
    refine done_ (done_of HT_.out (by kernel_rfl)) ?_
    try go_wp2
    go_roundg k3
    case measure => have := HJ2.out; have := HK2.out; have := HK3.out; omega
    case rel => exact ⟨(y192), (y193), (x35_3), (wrap64 (x35_3 + 1)), (by first | rfl | (simp; done) | (simp [*]; done)), (by first | rfl | (simp; done) | (simp [*]; done)), H', ⟨by have := HJ2.out; have := HK2.out; have := HK3.out; omega⟩, ⟨by (with_reducible repeat (first | apply Kd.R_alloc | apply Kd.R_drewN | apply Kd.R_drew)); exact HO_6.out⟩, ⟨by (with_reducible repeat (first | apply Kd.R_alloc | apply Kd.R_drewN | apply Kd.R_drew)); exact HO_7.out⟩, ⟨by (with_reducible repeat (first | apply Kd.R_alloc | apply Kd.R_drewN | apply Kd.R_drew)); exact HO_8.out⟩, ⟨by repeat (first | (with_reducible first | exact HB.out | apply below_alloc | apply pw_below_drewN | apply below_drew1 | refine below_set ?_ GE189.out) | exact HB.out)⟩⟩
  rw [if_neg c34] at H
  have c34b0 : decide (x10_3 < 0) = false := decide_eq_false c34
  clear c34
  by_cases c47 : 0 ≤ x10_3
  rotate_left
  · rw [if_neg c47] at H
    exact absurd H (by simp)
  rw [if_pos c47] at H
  have c47b0 : decide (0 ≤ x10_3) = true := decide_eq_true c47
  clear c47
  by_cases c48 : x10_3 < (l0.length : Int)
  rotate_left
  · rw [if_neg c48] at H
    exact absurd H (by simp)
  rw [if_pos c48] at H
  have c48b0 : decide (x10_3 < (l0.length : Int)) = true := decide_eq_true c48
  clear c48
  by_cases c49 : ((rd_T96 l0 x35_3).f2) < ((rd_T96 l0 x10_3).f2)
  · rw [if_pos c49] at H
    have c49b0 : decide (((rd_T96 l0 x35_3).f2) < ((rd_T96 l0 x10_3).f2)) = true := decide_eq_true c49
    clear c49
    have H' := Aside0.mk H
    clear H
    have p188 : 0 ≤ (x35_3 : Int) := of_decide_eq_true (by with_reducible assumption)
    have q188 : x35_3 < (l0.length : Int) := of_decide_eq_true (by with_reducible assumption)
    obtain ⟨ad188, e188, hx188_0, hx188_1, hx188_2⟩ := at_T96 HR0.out x35_3 p188 q188
    cases e188
    replace hx188_0 := (HB.out.cell (World.block_lt_of_cell? w _ hx188_0)).trans hx188_0
    replace hx188_1 := (HB.out.cell (World.block_lt_of_cell? w _ hx188_1)).trans hx188_1
    replace hx188_2 := (HB.out.cell (World.block_lt_of_cell? w _ hx188_2)).trans hx188_2
    replace p188 := eq_true p188
    replace q188 := eq_true q188
    try go_wp2_with (first | ((with_reducible refine gate_dst (N := 12) rfl ?_); refine box_event ?hg (N := 12) ?hd (cs := #[.int .i64 0, .int .i64 0, .int .i64 0]) (t := 96) ?hr ?_; (case hd => rfl); (case hg => rfl); (case hr => first | (go_simp; done) | (go_simp; rfl)); intro gb189 hg w50 hbox hb; have n0_ := Aside0.mk (Kd.R_below HO_6.out hb); have n1_ := Aside0.mk (Kd.R_below HO_7.out hb); have n2_ := Aside0.mk (Kd.R_below HO_8.out hb); have n3_ := Aside0.mk (below_step HB.out hb); have n4_ := Aside0.mk (hbox); have n5_ := Aside0.mk ((by rw [hg]; exact (below_size HB.out) : w.heap.size ≤ gb189)); have n6_ := Aside0.mk ((by rw [hg]; exact (below_size HB.out) : w.heap.size ≤ gb189)); clear HO_6; clear HO_7; clear HO_8; clear HB; have HO_6 := n0_; have HO_7 := n1_; have HO_8 := n2_; have HB := n3_; have BK189 := n4_; have GW189 := n5_; have GE189 := n6_; clear n0_ n1_ n2_ n3_ n4_ n5_ n6_; clear hb hbox hg; have hcz51_0 : w50.cell? ⟨gb189, 0, none⟩ = some (.int .i64 0) := (blk_cell BK189.out 0).trans rfl; have hcz51_1 : w50.cell? ⟨gb189, 1, none⟩ = some (.int .i64 0) := (blk_cell BK189.out 1).trans rfl; have hcz51_2 : w50.cell? ⟨gb189, 2, none⟩ = some (.int .i64 0) := (blk_cell BK189.out 2).trans rfl; have hfz51_0 := blk_frozen BK189.out 0; have hfz51_1 := blk_frozen BK189.out 1; have hfz51_2 := blk_frozen BK189.out 2) | ((with_reducible refine gate_store (t := 96) (p := 12) rfl ?_); refine store_event (t := 96) (p := 12) (v := ?vo_w52) (w1 := (((w50.setCell ⟨gb189, 0, none⟩ (.int .i64 ((rd_T96 l0 x35_3).f0))).setCell ⟨gb189, 1, none⟩ (.int .i64 ((rd_T96 l0 x35_3).f1))).setCell ⟨gb189, 2, none⟩ (.int .i64 ((rd_T96 l0 x35_3).f2)))) ?hg ?ho ?hn ?hr ?_; (case ho => rfl); (case hg => rfl); (case hn => rfl); (case hr => first | (go_simp; done) | (go_simp; rfl)); intro w52 hw; have n0_ : Aside0 (Kd.R (Kd.int .i64) 3 w52 w.heap.size (fun k_ => some k_ ≠ (v180 : Value).ownBlock ∧ some k_ ≠ (v183 : Value).ownBlock) v177 x6_2) := ⟨(by rw [hw]; exact (by exact Kd.R_mono (Kd.R_far (p := ⟨gb189, 2, none⟩) (Kd.R_far (p := ⟨gb189, 1, none⟩) (Kd.R_far (p := ⟨gb189, 0, none⟩) (Kd.R_types HO_6.out BK189.out (by decide)) (fun _ hk => hk.2) (.int .i64 ((rd_T96 l0 x35_3).f0))) (fun _ hk => hk.2) (.int .i64 ((rd_T96 l0 x35_3).f1))) (fun _ hk => hk.2) (.int .i64 ((rd_T96 l0 x35_3).f2))) (fun _ hk => ⟨hk.1.1, hk.1.2⟩)))⟩; have n1_ : Aside0 (Kd.R (Kd.int .i64) 3 w52 w.heap.size (fun k_ => some k_ ≠ (v177 : Value).ownBlock ∧ some k_ ≠ (v183 : Value).ownBlock) v180 x7_3) := ⟨(by rw [hw]; exact (by exact Kd.R_mono (Kd.R_far (p := ⟨gb189, 2, none⟩) (Kd.R_far (p := ⟨gb189, 1, none⟩) (Kd.R_far (p := ⟨gb189, 0, none⟩) (Kd.R_types HO_7.out BK189.out (by decide)) (fun _ hk => hk.2) (.int .i64 ((rd_T96 l0 x35_3).f0))) (fun _ hk => hk.2) (.int .i64 ((rd_T96 l0 x35_3).f1))) (fun _ hk => hk.2) (.int .i64 ((rd_T96 l0 x35_3).f2))) (fun _ hk => ⟨hk.1.1, hk.1.2⟩)))⟩; have n2_ : Aside0 (Kd.R (Kd.int .i64) 3 w52 w.heap.size (fun k_ => some k_ ≠ (v177 : Value).ownBlock ∧ some k_ ≠ (v180 : Value).ownBlock) v183 x8_3) := ⟨(by rw [hw]; exact (by exact Kd.R_mono (Kd.R_far (p := ⟨gb189, 2, none⟩) (Kd.R_far (p := ⟨gb189, 1, none⟩) (Kd.R_far (p := ⟨gb189, 0, none⟩) (Kd.R_types HO_8.out BK189.out (by decide)) (fun _ hk => hk.2) (.int .i64 ((rd_T96 l0 x35_3).f0))) (fun _ hk => hk.2) (.int .i64 ((rd_T96 l0 x35_3).f1))) (fun _ hk => hk.2) (.int .i64 ((rd_T96 l0 x35_3).f2))) (fun _ hk => ⟨hk.1.1, hk.1.2⟩)))⟩; have n3_ : Aside0 (w52.heap[gb189]? = some (.cells #[.int .i64 ((rd_T96 l0 x35_3).f0), .int .i64 ((rd_T96 l0 x35_3).f1), .int .i64 ((rd_T96 l0 x35_3).f2)] 96 (0, 0))) := ⟨(by rw [hw]; exact (by refine blk_put (cs := #[.int .i64 ((rd_T96 l0 x35_3).f0), .int .i64 ((rd_T96 l0 x35_3).f1), .int .i64 0]) ?_ 2 _ rfl; refine blk_put (cs := #[.int .i64 ((rd_T96 l0 x35_3).f0), .int .i64 0, .int .i64 0]) ?_ 1 _ rfl; refine blk_put (cs := #[.int .i64 0, .int .i64 0, .int .i64 0]) ?_ 0 _ rfl; exact BK189.out))⟩; have n4_ : Aside0 (Below w.heap.size w w52) := ⟨(by rw [hw]; exact (by repeat (first | (with_reducible first | exact HB.out | apply below_alloc | apply pw_below_drewN | apply below_drew1 | refine below_set ?_ GE189.out) | exact HB.out)))⟩; clear hw; clear HO_6; clear HO_7; clear HO_8; clear BK189; clear HB; have HO_6 := n0_; have HO_7 := n1_; have HO_8 := n2_; have BK189 := n3_; have HB := n4_; clear n0_ n1_ n2_ n3_ n4_; have hcz53_0 : w52.cell? ⟨gb189, 0, none⟩ = some (.int .i64 ((rd_T96 l0 x35_3).f0)) := (blk_cell BK189.out 0).trans rfl; have hcz53_1 : w52.cell? ⟨gb189, 1, none⟩ = some (.int .i64 ((rd_T96 l0 x35_3).f1)) := (blk_cell BK189.out 1).trans rfl; have hcz53_2 : w52.cell? ⟨gb189, 2, none⟩ = some (.int .i64 ((rd_T96 l0 x35_3).f2)) := (blk_cell BK189.out 2).trans rfl; have hfz53_0 := blk_frozen BK189.out 0; have hfz53_1 := blk_frozen BK189.out 1; have hfz53_2 := blk_frozen BK189.out 2; obtain ⟨Ao54, co54, eo54⟩ := Kd.R_slice HO_8.out; subst eo54; have p190 : 0 ≤ (x35_3 : Int) := of_decide_eq_true (by with_reducible assumption); have q190 : x35_3 < (x8_3.length : Int) := of_decide_eq_true (by with_reducible assumption); obtain ⟨ad190, e190, hx190_0⟩ := Kd.at_int (Kd.R_reads' HO_8.out).2.2 x35_3 p190 q190; cases e190; replace p190 := eq_true p190; replace q190 := eq_true q190; obtain ⟨Ao55, co55, eo55⟩ := Kd.R_slice HO_7.out; subst eo55; have p191 : 0 ≤ (x35_3 : Int) := of_decide_eq_true (by with_reducible assumption); have q191 : x35_3 < (x7_3.length : Int) := of_decide_eq_true (by with_reducible assumption); obtain ⟨ad191, e191, hx191_0⟩ := Kd.at_int (Kd.R_reads' HO_7.out).2.2 x35_3 p191 q191; cases e191; replace p191 := eq_true p191; replace q191 := eq_true q191; have p31 : 0 ≤ (x35_3 : Int) := of_decide_eq_true (by with_reducible assumption); have q31 : (x35_3 : Int) < ((x7_3.length : Int) : Int) := of_decide_eq_true (by with_reducible assumption); obtain ⟨go31, co31, eo31, gb31, gl31, cl31, HG31⟩ := Kd.R_form HO_7.out (by omega); (first | cases eo31 | (injection eo31 with ea_ en_ ec_; (first | subst ea_ | (injection ea_ with ea_; subst ea_)); subst ec_; clear en_)); have GB31 := Aside0.mk gb31; have GG31 := Aside0.mk HG31; clear gb31 gl31 HG31; (first | simp only [add_plain] at hx191_0 | skip); obtain ⟨hx31_0, hf31_0⟩ := Kd.R_celln 0 HO_7.out (x35_3 : Int) p31 q31; replace p31 := eq_true p31; replace q31 := eq_true q31; obtain ⟨hy56_, hz56_⟩ := Kd.R_celln 0 HO_7.out (x35_3 : Int) (of_decide_eq_true (by with_reducible assumption)) (of_decide_eq_true (by with_reducible assumption)); have HP56 := Kd.R_putg HO_7.out (x35_3 : Int) (wrap64 ((rd x7_3 x35_3) + 1))) | ((with_reducible refine gate_store (t := 3) (p := 55) rfl ?_); refine store_event (t := 3) (p := 55) (v := ?vo_w57) (w1 := (w52.setCell ⟨go31, (x35_3 : Int).toNat, none⟩ (.int .i64 (wrap64 ((rd x7_3 x35_3) + 1))))) ?hg ?ho ?hn ?hr ?_; (case ho => rfl); (case hg => rfl); (case hn => rfl); (case hr => first | (go_simp; done) | (go_simp; rfl)); intro w57 hw; have hg : w52.grownBy w57 (some go31) := (by rw [hw]; exact HP56.2); have hp_ : Kd.R (Kd.int .i64) 3 w57 w.heap.size (fun k_ => some k_ ≠ (v177 : Value).ownBlock ∧ some k_ ≠ (.slice (some ad190) x8_3.length co54 : Value).ownBlock) (.slice (some ⟨go31, 0, none⟩) x7_3.length co55) y192 := (by rw [hw, Ny192.out]; exact HP56.1); clear HP56; have n0_ := Aside0.mk (Kd.R_after (v := (.slice (some ⟨go31, 0, none⟩) x7_3.length co55)) (v1 := (.slice (some ⟨go31, 0, none⟩) x7_3.length co55)) (ok := (fun k_ => some k_ ≠ (.slice (some ad190) x8_3.length co54 : Value).ownBlock)) (by exact Kd.R_mono HO_6.out (fun _ hk => ⟨hk.2, hk.1⟩)) hg (.inl rfl)); have n1_ := Aside0.mk (hp_); have n2_ := Aside0.mk (Kd.R_after (v := (.slice (some ⟨go31, 0, none⟩) x7_3.length co55)) (v1 := (.slice (some ⟨go31, 0, none⟩) x7_3.length co55)) (ok := (fun k_ => some k_ ≠ (v177 : Value).ownBlock)) HO_8.out hg (.inl rfl)); have n3_ := Aside0.mk (blk_grown (g := gb189) (o := .cells #[.int .i64 ((rd_T96 l0 x35_3).f0), .int .i64 ((rd_T96 l0 x35_3).f1), .int .i64 ((rd_T96 l0 x35_3).f2)] 96 (0, 0)) (by exact BK189.out) hg (Kd.R_ne HO_7.out BK189.out (by decide))); have n4_ := Aside0.mk ((by rw [hw]; exact below_set (HB.out) GB31.out : Below w.heap.size w w57)); clear HO_6; clear HO_7; clear HO_8; clear BK189; clear HB; have HO_6 := n0_; have HO_7 := n1_; have HO_8 := n2_; have BK189 := n3_; have HB := n4_; clear n0_ n1_ n2_ n3_ n4_; clear hg hw hp_; have hcz58_0 : w57.cell? ⟨gb189, 0, none⟩ = some (.int .i64 ((rd_T96 l0 x35_3).f0)) := (blk_cell BK189.out 0).trans rfl; have hcz58_1 : w57.cell? ⟨gb189, 1, none⟩ = some (.int .i64 ((rd_T96 l0 x35_3).f1)) := (blk_cell BK189.out 1).trans rfl; have hcz58_2 : w57.cell? ⟨gb189, 2, none⟩ = some (.int .i64 ((rd_T96 l0 x35_3).f2)) := (blk_cell BK189.out 2).trans rfl; have hfz58_0 := blk_frozen BK189.out 0; have hfz58_1 := blk_frozen BK189.out 1; have hfz58_2 := blk_frozen BK189.out 2; have p32 : 0 ≤ (x35_3 : Int) := of_decide_eq_true (by with_reducible assumption); have q32 : (x35_3 : Int) < ((x8_3.length : Int) : Int) := of_decide_eq_true (by with_reducible assumption); obtain ⟨go32, co32, eo32, gb32, gl32, cl32, HG32⟩ := Kd.R_form HO_8.out (by omega); (first | cases eo32 | (injection eo32 with ea_ en_ ec_; (first | subst ea_ | (injection ea_ with ea_; subst ea_)); subst ec_; clear en_)); have GB32 := Aside0.mk gb32; have GG32 := Aside0.mk HG32; clear gb32 gl32 HG32; (first | simp only [add_plain] at hx190_0 | skip); obtain ⟨hx32_0, hf32_0⟩ := Kd.R_celln 0 HO_8.out (x35_3 : Int) p32 q32; replace p32 := eq_true p32; replace q32 := eq_true q32; obtain ⟨hy59_, hz59_⟩ := Kd.R_celln 0 HO_8.out (x35_3 : Int) (of_decide_eq_true (by with_reducible assumption)) (of_decide_eq_true (by with_reducible assumption)); have HP59 := Kd.R_putg HO_8.out (x35_3 : Int) ((rd_T96 l0 x35_3).f1)) | ((with_reducible refine gate_store (t := 3) (p := 60) rfl ?_); refine store_event (t := 3) (p := 60) (v := ?vo_w60) (w1 := (w57.setCell ⟨go32, (x35_3 : Int).toNat, none⟩ (.int .i64 ((rd_T96 l0 x35_3).f1)))) ?hg ?ho ?hn ?hr ?_; (case ho => rfl); (case hg => rfl); (case hn => rfl); (case hr => first | (go_simp; done) | (go_simp; rfl)); intro w60 hw; have hg : w57.grownBy w60 (some go32) := (by rw [hw]; exact HP59.2); have hp_ : Kd.R (Kd.int .i64) 3 w60 w.heap.size (fun k_ => some k_ ≠ (v177 : Value).ownBlock ∧ some k_ ≠ (.slice (some ⟨go31, 0, none⟩) x7_3.length co55 : Value).ownBlock) (.slice (some ⟨go32, 0, none⟩) x8_3.length co54) y193 := (by rw [hw, Ny193.out]; exact HP59.1); clear HP59; have n0_ := Aside0.mk (Kd.R_after (v := (.slice (some ⟨go32, 0, none⟩) x8_3.length co54)) (v1 := (.slice (some ⟨go32, 0, none⟩) x8_3.length co54)) (ok := (fun k_ => some k_ ≠ (.slice (some ⟨go31, 0, none⟩) x7_3.length co55 : Value).ownBlock)) (by exact Kd.R_mono HO_6.out (fun _ hk => ⟨hk.2, hk.1⟩)) hg (.inl rfl)); have n1_ := Aside0.mk (Kd.R_after (v := (.slice (some ⟨go32, 0, none⟩) x8_3.length co54)) (v1 := (.slice (some ⟨go32, 0, none⟩) x8_3.length co54)) (ok := (fun k_ => some k_ ≠ (v177 : Value).ownBlock)) HO_7.out hg (.inl rfl)); have n2_ := Aside0.mk (hp_); have n3_ := Aside0.mk (blk_grown (g := gb189) (o := .cells #[.int .i64 ((rd_T96 l0 x35_3).f0), .int .i64 ((rd_T96 l0 x35_3).f1), .int .i64 ((rd_T96 l0 x35_3).f2)] 96 (0, 0)) (by exact BK189.out) hg (Kd.R_ne HO_8.out BK189.out (by decide))); have n4_ := Aside0.mk ((by rw [hw]; exact below_set (HB.out) GB32.out : Below w.heap.size w w60)); clear HO_6; clear HO_7; clear HO_8; clear BK189; clear HB; have HO_6 := n0_; have HO_7 := n1_; have HO_8 := n2_; have BK189 := n3_; have HB := n4_; clear n0_ n1_ n2_ n3_ n4_; clear hg hw hp_))
    have n0_ := Aside0.mk (Kd.R_drew HO_6.out)
    have n1_ := Aside0.mk (Kd.R_drew HO_7.out)
    have n2_ := Aside0.mk (Kd.R_drew HO_8.out)
    have n3_ := Aside0.mk (blk_drew BK189.out)
    have n4_ := Aside0.mk (below_drew1 HB.out)
    clear HO_6
    clear HO_7
    clear HO_8
    clear BK189
    clear HB
    have HO_6 := n0_
    have HO_7 := n1_
    have HO_8 := n2_
    have BK189 := n3_
    have HB := n4_
    clear n0_ n1_ n2_ n3_ n4_
    have p194 : 0 ≤ (x35_3 : Int) := of_decide_eq_true (by with_reducible assumption)
    have q194 : x35_3 < (y193.length : Int) := (by have h_ : (x35_3 : Int) < ((x8_3.length : Int) : Int) := of_decide_eq_true (by with_reducible assumption); first | (have e_ := (Kd.R_reads' HO_8.out).1; omega) | simpa only [Ny193.out, List.length_set] using h_)
    have ql194 : ((x35_3 : Int) < ((x8_3.length : Int) : Int)) = True := eq_true (of_decide_eq_true (by with_reducible assumption))
    obtain ⟨ad194, e194, hx194_0⟩ := Kd.at_int (Kd.R_reads' HO_8.out).2.2 x35_3 p194 q194
    obtain rfl : (⟨go32, 0, none⟩ : Addr) = ad194 := (by injection e194)
    (first | simp only [add_plain] at hx194_0 | simp only [add_at] at hx194_0 | simp only [Addr.add, Nat.zero_add] at hx194_0 | skip)
    replace p194 := eq_true p194
    replace q194 := eq_true q194
    have p195 : 0 ≤ (x10_3 : Int) := of_decide_eq_true (by with_reducible assumption)
    have q195 : x10_3 < (l0.length : Int) := of_decide_eq_true (by with_reducible assumption)
    obtain ⟨ad195, e195, hx195_0, hx195_1, hx195_2⟩ := at_T96 HR0.out x10_3 p195 q195
    have hw195_2 := hx195_2
    have hw195_1 := hx195_1
    have hw195_0 := hx195_0
    obtain rfl : ad188 = ad195 := (by injection e195)
    replace hx195_0 := (HB.out.cell (World.block_lt_of_cell? w _ hx195_0)).trans hx195_0
    replace hx195_1 := (HB.out.cell (World.block_lt_of_cell? w _ hx195_1)).trans hx195_1
    replace hx195_2 := (HB.out.cell (World.block_lt_of_cell? w _ hx195_2)).trans hx195_2
    replace p195 := eq_true p195
    replace q195 := eq_true q195
    refine start_ (n := 19) (S := fun w' => w'.cell? ⟨gb189, 0, none⟩ = some (.int .i64 ((rd_T96 l0 x35_3).f0)) ∧ w'.cell? ⟨gb189, 1, none⟩ = some (.int .i64 ((rd_T96 l0 x35_3).f1)) ∧ w'.cell? ⟨gb189, 2, none⟩ = some (.int .i64 ((rd_T96 l0 x35_3).f2)) ∧ w'.cell? ⟨go32, (x35_3).toNat, none⟩ = some (.int .i64 (rd y193 x35_3)) ∧ w'.cell? (ad188.add ((x10_3).toNat * 3)) = some (.int .i64 ((rd_T96 l0 x10_3).f0)) ∧ w'.cell? ⟨(ad188.add ((x10_3).toNat * 3)).block, (ad188.add ((x10_3).toNat * 3)).off + 1, none⟩ = some (.int .i64 ((rd_T96 l0 x10_3).f1)) ∧ w'.cell? ⟨(ad188.add ((x10_3).toNat * 3)).block, (ad188.add ((x10_3).toNat * 3)).off + 2, none⟩ = some (.int .i64 ((rd_T96 l0 x10_3).f2))) (ds := []) #[oF,oF,oF,oF,oF,oF,oF,oF,oF,oF,oF,oF,oF,oF,oF,oF,oF,oF,oF] (by kernel_rfl) rfl rfl ⟨(blk_cell BK189.out 0).trans rfl, (blk_cell BK189.out 1).trans rfl, (blk_cell BK189.out 2).trans rfl, hx194_0, ((HB.out.cell (World.block_lt_of_cell? w _ hw195_0)).trans hw195_0), ((HB.out.cell (World.block_lt_of_cell? w _ hw195_1)).trans hw195_1), ((HB.out.cell (World.block_lt_of_cell? w _ hw195_2)).trans hw195_2)⟩ (fun hHeld => ?_); refine with_tabW impl_TaskSchedule.tab16 impl_TaskSchedule.bits16 (fun HT_ HW_ => ?_)
    generalize w60.drew = w61 at HO_6 HO_7 HO_8 BK189 HB hx194_0 hx195_0 hx195_1 hx195_2 hHeld ⊢
    refine pure_ (i := 0) (N := some 61) (v := ?_) (a' := ?_) #[oT,oF,oF,oF,oF,oF,oF,oF,oF,oF,oF,oF,oF,oF,oF,oF,oF,oF,oF] rfl rfl (any_of HT_.out (by kernel_rfl)) (fun _ _ _ h => h) (Or.inl ⟨by rfl, ?_⟩) ?_ ?_
    rotate_left
    · intro w'
      go_simp
      with_reducible rfl
    rotate_left
    · simp only [Act.put, List.setIfInBounds_toArray, List.set_cons_zero, List.set_cons_succ, i64_w, i32_w]
      rfl
    refine pure_ (i := 1) (N := some 62) (v := ?_) (a' := ?_) #[oT,oT,oF,oF,oF,oF,oF,oF,oF,oF,oF,oF,oF,oF,oF,oF,oF,oF,oF] rfl rfl (any_of HT_.out (by kernel_rfl)) (fun _ _ _ h => h) (Or.inl ⟨by rfl, ?_⟩) ?_ ?_
    rotate_left
    · intro w'
      go_simp
      with_reducible rfl
    rotate_left
    · simp only [Act.put, List.setIfInBounds_toArray, List.set_cons_zero, List.set_cons_succ, i64_w, i32_w]
      rfl
    refine pure_ (i := 2) (N := some 63) (v := ?_) (a' := ?_) #[oT,oT,oT,oF,oF,oF,oF,oF,oF,oF,oF,oF,oF,oF,oF,oF,oF,oF,oF] rfl rfl (any_of HT_.out (by kernel_rfl)) (fun _ _ _ h => h) (Or.inl ⟨by rfl, ?_⟩) ?_ ?_
    rotate_left
    · intro w'
      go_simp
      with_reducible rfl
    rotate_left
    · simp only [Act.put, List.setIfInBounds_toArray, List.set_cons_zero, List.set_cons_succ, i64_w, i32_w]
      rfl
    refine take_ (i := 3) (N := some 64) (v := ?_) (a' := ?_) #[oT,oT,oT,oT,oF,oF,oF,oF,oF,oF,oF,oF,oF,oF,oF,oF,oF,oF,oF] rfl rfl (take_ofW HT_.out HW_.out (by kernel_rfl)) (fun _ _ _ h => h) (Or.inl ⟨by rfl, ?_⟩) hHeld ?_ ?_
    rotate_left
    · rintro w' ⟨s0, s1, s2, s3, s4, s5, s6⟩
      go_simp
      with_reducible rfl
    rotate_left
    · simp only [Act.put, List.setIfInBounds_toArray, List.set_cons_zero, List.set_cons_succ, i64_w, i32_w]
      rfl
    refine pure_ (i := 4) (N := some 65) (v := ?_) (a' := ?_) #[oT,oT,oT,oT,oT,oF,oF,oF,oF,oF,oF,oF,oF,oF,oF,oF,oF,oF,oF] rfl rfl (any_of HT_.out (by kernel_rfl)) (fun _ _ _ h => h) (Or.inl ⟨by rfl, ?_⟩) ?_ ?_
    rotate_left
    · intro w'
      go_simp
      with_reducible rfl
    rotate_left
    · simp only [Act.put, List.setIfInBounds_toArray, List.set_cons_zero, List.set_cons_succ, i64_w, i32_w]
      rfl
    refine pure_ (i := 5) (N := some 66) (v := ?_) (a' := ?_) #[oT,oT,oT,oT,oT,oT,oF,oF,oF,oF,oF,oF,oF,oF,oF,oF,oF,oF,oF] rfl rfl (any_of HT_.out (by kernel_rfl)) (fun _ _ _ h => h) (Or.inl ⟨by rfl, ?_⟩) ?_ ?_
    rotate_left
    · intro w'
      go_simp
      with_reducible rfl
    rotate_left
    · simp only [Act.put, List.setIfInBounds_toArray, List.set_cons_zero, List.set_cons_succ, i64_w, i32_w]
      rfl
    refine pure_ (i := 6) (N := some 67) (v := ?_) (a' := ?_) #[oT,oT,oT,oT,oT,oT,oT,oF,oF,oF,oF,oF,oF,oF,oF,oF,oF,oF,oF] rfl rfl (any_of HT_.out (by kernel_rfl)) (fun _ _ _ h => h) (Or.inl ⟨by rfl, ?_⟩) ?_ ?_
    rotate_left
    · intro w'
      go_simp
      with_reducible rfl
    rotate_left
    · simp only [Act.put, List.setIfInBounds_toArray, List.set_cons_zero, List.set_cons_succ, i64_w, i32_w]
      rfl
    refine pure_ (i := 7) (N := some 68) (v := ?_) (a' := ?_) #[oT,oT,oT,oT,oT,oT,oT,oT,oF,oF,oF,oF,oF,oF,oF,oF,oF,oF,oF] rfl rfl (any_of HT_.out (by kernel_rfl)) (fun _ _ _ h => h) (Or.inl ⟨by rfl, ?_⟩) ?_ ?_
    rotate_left
    · intro w'
      go_simp
      with_reducible rfl
    rotate_left
    · simp only [Act.put, List.setIfInBounds_toArray, List.set_cons_zero, List.set_cons_succ, i64_w, i32_w]
      rfl
    refine pure_ (i := 8) (N := some 69) (v := ?_) (a' := ?_) #[oT,oT,oT,oT,oT,oT,oT,oT,oT,oF,oF,oF,oF,oF,oF,oF,oF,oF,oF] rfl rfl (any_of HT_.out (by kernel_rfl)) (fun _ _ _ h => h) (Or.inl ⟨by rfl, ?_⟩) ?_ ?_
    rotate_left
    · intro w'
      go_simp
      with_reducible rfl
    rotate_left
    · simp only [Act.put, List.setIfInBounds_toArray, List.set_cons_zero, List.set_cons_succ, i64_w, i32_w]
      rfl
    refine pure_ (i := 9) (N := some 70) (v := ?_) (a' := ?_) #[oT,oT,oT,oT,oT,oT,oT,oT,oT,oT,oF,oF,oF,oF,oF,oF,oF,oF,oF] rfl rfl (any_of HT_.out (by kernel_rfl)) (fun _ _ _ h => h) (Or.inl ⟨by rfl, ?_⟩) ?_ ?_
    rotate_left
    · intro w'
      go_simp
      with_reducible rfl
    rotate_left
    · simp only [Act.put, List.setIfInBounds_toArray, List.set_cons_zero, List.set_cons_succ, i64_w, i32_w]
      rfl
    refine pure_ (i := 11) (N := some 72) (v := ?_) (a' := ?_) #[oT,oT,oT,oT,oT,oT,oT,oT,oT,oT,oF,oT,oF,oF,oF,oF,oF,oF,oF] rfl rfl (any_of HT_.out (by kernel_rfl)) (fun _ _ _ h => h) (Or.inl ⟨by rfl, ?_⟩) ?_ ?_
    rotate_left
    · intro w'
      go_simp
      with_reducible rfl
    rotate_left
    · simp only [Act.put, List.setIfInBounds_toArray, List.set_cons_zero, List.set_cons_succ, i64_w, i32_w]
      rfl
    refine pure_ (i := 12) (N := some 73) (v := ?_) (a' := ?_) #[oT,oT,oT,oT,oT,oT,oT,oT,oT,oT,oF,oT,oT,oF,oF,oF,oF,oF,oF] rfl rfl (any_of HT_.out (by kernel_rfl)) (fun _ _ _ h => h) (Or.inl ⟨by rfl, ?_⟩) ?_ ?_
    rotate_left
    · intro w'
      go_simp
      with_reducible rfl
    rotate_left
    · simp only [Act.put, List.setIfInBounds_toArray, List.set_cons_zero, List.set_cons_succ, i64_w, i32_w]
      rfl
    refine pure_ (i := 13) (N := some 74) (v := ?_) (a' := ?_) #[oT,oT,oT,oT,oT,oT,oT,oT,oT,oT,oF,oT,oT,oT,oF,oF,oF,oF,oF] rfl rfl (any_of HT_.out (by kernel_rfl)) (fun _ _ _ h => h) (Or.inl ⟨by rfl, ?_⟩) ?_ ?_
    rotate_left
    · intro w'
      go_simp
      with_reducible rfl
    rotate_left
    · simp only [Act.put, List.setIfInBounds_toArray, List.set_cons_zero, List.set_cons_succ, i64_w, i32_w]
      rfl
    refine pure_ (i := 14) (N := some 75) (v := ?_) (a' := ?_) #[oT,oT,oT,oT,oT,oT,oT,oT,oT,oT,oF,oT,oT,oT,oT,oF,oF,oF,oF] rfl rfl (any_of HT_.out (by kernel_rfl)) (fun _ _ _ h => h) (Or.inl ⟨by rfl, ?_⟩) ?_ ?_
    rotate_left
    · intro w'
      go_simp
      with_reducible rfl
    rotate_left
    · simp only [Act.put, List.setIfInBounds_toArray, List.set_cons_zero, List.set_cons_succ, i64_w, i32_w]
      rfl
    refine take_ (i := 10) (N := some 71) (v := ?_) (a' := ?_) #[oT,oT,oT,oT,oT,oT,oT,oT,oT,oT,oT,oT,oT,oT,oT,oF,oF,oF,oF] rfl rfl (take_ofW HT_.out HW_.out (by kernel_rfl)) (fun _ _ _ h => h) (Or.inl ⟨by rfl, ?_⟩) hHeld ?_ ?_
    rotate_left
    · rintro w' ⟨s0, s1, s2, s3, s4, s5, s6⟩
      go_simp
      with_reducible rfl
    rotate_left
    · simp only [Act.put, List.setIfInBounds_toArray, List.set_cons_zero, List.set_cons_succ, i64_w, i32_w]
      rfl
    refine take_ (i := 15) (N := some 76) (v := ?_) (a' := ?_) #[oT,oT,oT,oT,oT,oT,oT,oT,oT,oT,oT,oT,oT,oT,oT,oT,oF,oF,oF] rfl rfl (take_ofW HT_.out HW_.out (by kernel_rfl)) (fun _ _ _ h => h) (Or.inl ⟨by rfl, ?_⟩) hHeld ?_ ?_
    rotate_left
    · rintro w' ⟨s0, s1, s2, s3, s4, s5, s6⟩
      go_simp
      with_reducible rfl
    rotate_left
    · simp only [Act.put, List.setIfInBounds_toArray, List.set_cons_zero, List.set_cons_succ, i64_w, i32_w]
      rfl
    refine pure_ (i := 16) (N := some 77) (v := ?_) (a' := ?_) #[oT,oT,oT,oT,oT,oT,oT,oT,oT,oT,oT,oT,oT,oT,oT,oT,oT,oF,oF] rfl rfl (any_of HT_.out (by kernel_rfl)) (fun _ _ _ h => h) (Or.inl ⟨by rfl, ?_⟩) ?_ ?_
    rotate_left
    · intro w'
      go_simp
      with_reducible rfl
    rotate_left
    · simp only [Act.put, List.setIfInBounds_toArray, List.set_cons_zero, List.set_cons_succ, i64_w, i32_w]
      rfl
    refine pure_ (i := 17) (N := some 78) (v := ?_) (a' := ?_) #[oT,oT,oT,oT,oT,oT,oT,oT,oT,oT,oT,oT,oT,oT,oT,oT,oT,oT,oF] rfl rfl (any_of HT_.out (by kernel_rfl)) (fun _ _ _ h => h) (Or.inl ⟨by rfl, ?_⟩) ?_ ?_
    rotate_left
    · intro w'
      go_simp
      with_reducible rfl
    rotate_left
    · simp only [Act.put, List.setIfInBounds_toArray, List.set_cons_zero, List.set_cons_succ, i64_w, i32_w]
      rfl
    refine pure_ (i := 18) (N := some 79) (v := ?_) (a' := ?_) #[oT,oT,oT,oT,oT,oT,oT,oT,oT,oT,oT,oT,oT,oT,oT,oT,oT,oT,oT] rfl rfl (any_of HT_.out (by kernel_rfl)) (fun _ _ _ h => h) (Or.inl ⟨by rfl, ?_⟩) ?_ ?_
    rotate_left
    · intro w'
      go_simp
      with_reducible rfl
    rotate_left
    · simp only [Act.put, List.setIfInBounds_toArray, List.set_cons_zero, List.set_cons_succ, i64_w, i32_w]
      rfl
    refine done_ (done_of HT_.out (by kernel_rfl)) ?_
    try go_wp2
    go_roundg k3
    case measure => have := HJ2.out; have := HK2.out; have := HK3.out; omega
    case rel => exact ⟨(y192), (y193), (x35_3), (wrap64 (x35_3 + 1)), (by first | rfl | (simp; done) | (simp [*]; done)), (by first | rfl | (simp; done) | (simp [*]; done)), H', ⟨by have := HJ2.out; have := HK2.out; have := HK3.out; omega⟩, ⟨by (with_reducible repeat (first | apply Kd.R_alloc | apply Kd.R_drewN | apply Kd.R_drew)); exact HO_6.out⟩, ⟨by (with_reducible repeat (first | apply Kd.R_alloc | apply Kd.R_drewN | apply Kd.R_drew)); exact HO_7.out⟩, ⟨by (with_reducible repeat (first | apply Kd.R_alloc | apply Kd.R_drewN | apply Kd.R_drew)); exact HO_8.out⟩, ⟨by repeat (first | (with_reducible first | exact HB.out | apply below_alloc | apply pw_below_drewN | apply below_drew1 | refine below_set ?_ GE189.out) | exact HB.out)⟩⟩
  rw [if_neg c49] at H
  have c49b0 : decide (((rd_T96 l0 x35_3).f2) < ((rd_T96 l0 x10_3).f2)) = false := decide_eq_false c49
  clear c49
  have H' := Aside0.mk H
  clear H
  have p188 : 0 ≤ (x35_3 : Int) := of_decide_eq_true (by with_reducible assumption)
  have q188 : x35_3 < (l0.length : Int) := of_decide_eq_true (by with_reducible assumption)
  obtain ⟨ad188, e188, hx188_0, hx188_1, hx188_2⟩ := at_T96 HR0.out x35_3 p188 q188
  cases e188
  replace hx188_0 := (HB.out.cell (World.block_lt_of_cell? w _ hx188_0)).trans hx188_0
  replace hx188_1 := (HB.out.cell (World.block_lt_of_cell? w _ hx188_1)).trans hx188_1
  replace hx188_2 := (HB.out.cell (World.block_lt_of_cell? w _ hx188_2)).trans hx188_2
  replace p188 := eq_true p188
  replace q188 := eq_true q188
  try go_wp2_with (first | ((with_reducible refine gate_dst (N := 12) rfl ?_); refine box_event ?hg (N := 12) ?hd (cs := #[.int .i64 0, .int .i64 0, .int .i64 0]) (t := 96) ?hr ?_; (case hd => rfl); (case hg => rfl); (case hr => first | (go_simp; done) | (go_simp; rfl)); intro gb189 hg w62 hbox hb; have n0_ := Aside0.mk (Kd.R_below HO_6.out hb); have n1_ := Aside0.mk (Kd.R_below HO_7.out hb); have n2_ := Aside0.mk (Kd.R_below HO_8.out hb); have n3_ := Aside0.mk (below_step HB.out hb); have n4_ := Aside0.mk (hbox); have n5_ := Aside0.mk ((by rw [hg]; exact (below_size HB.out) : w.heap.size ≤ gb189)); have n6_ := Aside0.mk ((by rw [hg]; exact (below_size HB.out) : w.heap.size ≤ gb189)); clear HO_6; clear HO_7; clear HO_8; clear HB; have HO_6 := n0_; have HO_7 := n1_; have HO_8 := n2_; have HB := n3_; have BK189 := n4_; have GW189 := n5_; have GE189 := n6_; clear n0_ n1_ n2_ n3_ n4_ n5_ n6_; clear hb hbox hg; have hcz63_0 : w62.cell? ⟨gb189, 0, none⟩ = some (.int .i64 0) := (blk_cell BK189.out 0).trans rfl; have hcz63_1 : w62.cell? ⟨gb189, 1, none⟩ = some (.int .i64 0) := (blk_cell BK189.out 1).trans rfl; have hcz63_2 : w62.cell? ⟨gb189, 2, none⟩ = some (.int .i64 0) := (blk_cell BK189.out 2).trans rfl; have hfz63_0 := blk_frozen BK189.out 0; have hfz63_1 := blk_frozen BK189.out 1; have hfz63_2 := blk_frozen BK189.out 2) | ((with_reducible refine gate_store (t := 96) (p := 12) rfl ?_); refine store_event (t := 96) (p := 12) (v := ?vo_w64) (w1 := (((w62.setCell ⟨gb189, 0, none⟩ (.int .i64 ((rd_T96 l0 x35_3).f0))).setCell ⟨gb189, 1, none⟩ (.int .i64 ((rd_T96 l0 x35_3).f1))).setCell ⟨gb189, 2, none⟩ (.int .i64 ((rd_T96 l0 x35_3).f2)))) ?hg ?ho ?hn ?hr ?_; (case ho => rfl); (case hg => rfl); (case hn => rfl); (case hr => first | (go_simp; done) | (go_simp; rfl)); intro w64 hw; have n0_ : Aside0 (Kd.R (Kd.int .i64) 3 w64 w.heap.size (fun k_ => some k_ ≠ (v180 : Value).ownBlock ∧ some k_ ≠ (v183 : Value).ownBlock) v177 x6_2) := ⟨(by rw [hw]; exact (by exact Kd.R_mono (Kd.R_far (p := ⟨gb189, 2, none⟩) (Kd.R_far (p := ⟨gb189, 1, none⟩) (Kd.R_far (p := ⟨gb189, 0, none⟩) (Kd.R_types HO_6.out BK189.out (by decide)) (fun _ hk => hk.2) (.int .i64 ((rd_T96 l0 x35_3).f0))) (fun _ hk => hk.2) (.int .i64 ((rd_T96 l0 x35_3).f1))) (fun _ hk => hk.2) (.int .i64 ((rd_T96 l0 x35_3).f2))) (fun _ hk => ⟨hk.1.1, hk.1.2⟩)))⟩; have n1_ : Aside0 (Kd.R (Kd.int .i64) 3 w64 w.heap.size (fun k_ => some k_ ≠ (v177 : Value).ownBlock ∧ some k_ ≠ (v183 : Value).ownBlock) v180 x7_3) := ⟨(by rw [hw]; exact (by exact Kd.R_mono (Kd.R_far (p := ⟨gb189, 2, none⟩) (Kd.R_far (p := ⟨gb189, 1, none⟩) (Kd.R_far (p := ⟨gb189, 0, none⟩) (Kd.R_types HO_7.out BK189.out (by decide)) (fun _ hk => hk.2) (.int .i64 ((rd_T96 l0 x35_3).f0))) (fun _ hk => hk.2) (.int .i64 ((rd_T96 l0 x35_3).f1))) (fun _ hk => hk.2) (.int .i64 ((rd_T96 l0 x35_3).f2))) (fun _ hk => ⟨hk.1.1, hk.1.2⟩)))⟩; have n2_ : Aside0 (Kd.R (Kd.int .i64) 3 w64 w.heap.size (fun k_ => some k_ ≠ (v177 : Value).ownBlock ∧ some k_ ≠ (v180 : Value).ownBlock) v183 x8_3) := ⟨(by rw [hw]; exact (by exact Kd.R_mono (Kd.R_far (p := ⟨gb189, 2, none⟩) (Kd.R_far (p := ⟨gb189, 1, none⟩) (Kd.R_far (p := ⟨gb189, 0, none⟩) (Kd.R_types HO_8.out BK189.out (by decide)) (fun _ hk => hk.2) (.int .i64 ((rd_T96 l0 x35_3).f0))) (fun _ hk => hk.2) (.int .i64 ((rd_T96 l0 x35_3).f1))) (fun _ hk => hk.2) (.int .i64 ((rd_T96 l0 x35_3).f2))) (fun _ hk => ⟨hk.1.1, hk.1.2⟩)))⟩; have n3_ : Aside0 (w64.heap[gb189]? = some (.cells #[.int .i64 ((rd_T96 l0 x35_3).f0), .int .i64 ((rd_T96 l0 x35_3).f1), .int .i64 ((rd_T96 l0 x35_3).f2)] 96 (0, 0))) := ⟨(by rw [hw]; exact (by refine blk_put (cs := #[.int .i64 ((rd_T96 l0 x35_3).f0), .int .i64 ((rd_T96 l0 x35_3).f1), .int .i64 0]) ?_ 2 _ rfl; refine blk_put (cs := #[.int .i64 ((rd_T96 l0 x35_3).f0), .int .i64 0, .int .i64 0]) ?_ 1 _ rfl; refine blk_put (cs := #[.int .i64 0, .int .i64 0, .int .i64 0]) ?_ 0 _ rfl; exact BK189.out))⟩; have n4_ : Aside0 (Below w.heap.size w w64) := ⟨(by rw [hw]; exact (by repeat (first | (with_reducible first | exact HB.out | apply below_alloc | apply pw_below_drewN | apply below_drew1 | refine below_set ?_ GE189.out) | exact HB.out)))⟩; clear hw; clear HO_6; clear HO_7; clear HO_8; clear BK189; clear HB; have HO_6 := n0_; have HO_7 := n1_; have HO_8 := n2_; have BK189 := n3_; have HB := n4_; clear n0_ n1_ n2_ n3_ n4_; have hcz65_0 : w64.cell? ⟨gb189, 0, none⟩ = some (.int .i64 ((rd_T96 l0 x35_3).f0)) := (blk_cell BK189.out 0).trans rfl; have hcz65_1 : w64.cell? ⟨gb189, 1, none⟩ = some (.int .i64 ((rd_T96 l0 x35_3).f1)) := (blk_cell BK189.out 1).trans rfl; have hcz65_2 : w64.cell? ⟨gb189, 2, none⟩ = some (.int .i64 ((rd_T96 l0 x35_3).f2)) := (blk_cell BK189.out 2).trans rfl; have hfz65_0 := blk_frozen BK189.out 0; have hfz65_1 := blk_frozen BK189.out 1; have hfz65_2 := blk_frozen BK189.out 2; obtain ⟨Ao66, co66, eo66⟩ := Kd.R_slice HO_8.out; subst eo66; have p190 : 0 ≤ (x35_3 : Int) := of_decide_eq_true (by with_reducible assumption); have q190 : x35_3 < (x8_3.length : Int) := of_decide_eq_true (by with_reducible assumption); obtain ⟨ad190, e190, hx190_0⟩ := Kd.at_int (Kd.R_reads' HO_8.out).2.2 x35_3 p190 q190; cases e190; replace p190 := eq_true p190; replace q190 := eq_true q190; obtain ⟨Ao67, co67, eo67⟩ := Kd.R_slice HO_7.out; subst eo67; have p191 : 0 ≤ (x35_3 : Int) := of_decide_eq_true (by with_reducible assumption); have q191 : x35_3 < (x7_3.length : Int) := of_decide_eq_true (by with_reducible assumption); obtain ⟨ad191, e191, hx191_0⟩ := Kd.at_int (Kd.R_reads' HO_7.out).2.2 x35_3 p191 q191; cases e191; replace p191 := eq_true p191; replace q191 := eq_true q191; have p31 : 0 ≤ (x35_3 : Int) := of_decide_eq_true (by with_reducible assumption); have q31 : (x35_3 : Int) < ((x7_3.length : Int) : Int) := of_decide_eq_true (by with_reducible assumption); obtain ⟨go31, co31, eo31, gb31, gl31, cl31, HG31⟩ := Kd.R_form HO_7.out (by omega); (first | cases eo31 | (injection eo31 with ea_ en_ ec_; (first | subst ea_ | (injection ea_ with ea_; subst ea_)); subst ec_; clear en_)); have GB31 := Aside0.mk gb31; have GG31 := Aside0.mk HG31; clear gb31 gl31 HG31; (first | simp only [add_plain] at hx191_0 | skip); obtain ⟨hx31_0, hf31_0⟩ := Kd.R_celln 0 HO_7.out (x35_3 : Int) p31 q31; replace p31 := eq_true p31; replace q31 := eq_true q31; obtain ⟨hy68_, hz68_⟩ := Kd.R_celln 0 HO_7.out (x35_3 : Int) (of_decide_eq_true (by with_reducible assumption)) (of_decide_eq_true (by with_reducible assumption)); have HP68 := Kd.R_putg HO_7.out (x35_3 : Int) (wrap64 ((rd x7_3 x35_3) + 1))) | ((with_reducible refine gate_store (t := 3) (p := 55) rfl ?_); refine store_event (t := 3) (p := 55) (v := ?vo_w69) (w1 := (w64.setCell ⟨go31, (x35_3 : Int).toNat, none⟩ (.int .i64 (wrap64 ((rd x7_3 x35_3) + 1))))) ?hg ?ho ?hn ?hr ?_; (case ho => rfl); (case hg => rfl); (case hn => rfl); (case hr => first | (go_simp; done) | (go_simp; rfl)); intro w69 hw; have hg : w64.grownBy w69 (some go31) := (by rw [hw]; exact HP68.2); have hp_ : Kd.R (Kd.int .i64) 3 w69 w.heap.size (fun k_ => some k_ ≠ (v177 : Value).ownBlock ∧ some k_ ≠ (.slice (some ad190) x8_3.length co66 : Value).ownBlock) (.slice (some ⟨go31, 0, none⟩) x7_3.length co67) y192 := (by rw [hw, Ny192.out]; exact HP68.1); clear HP68; have n0_ := Aside0.mk (Kd.R_after (v := (.slice (some ⟨go31, 0, none⟩) x7_3.length co67)) (v1 := (.slice (some ⟨go31, 0, none⟩) x7_3.length co67)) (ok := (fun k_ => some k_ ≠ (.slice (some ad190) x8_3.length co66 : Value).ownBlock)) (by exact Kd.R_mono HO_6.out (fun _ hk => ⟨hk.2, hk.1⟩)) hg (.inl rfl)); have n1_ := Aside0.mk (hp_); have n2_ := Aside0.mk (Kd.R_after (v := (.slice (some ⟨go31, 0, none⟩) x7_3.length co67)) (v1 := (.slice (some ⟨go31, 0, none⟩) x7_3.length co67)) (ok := (fun k_ => some k_ ≠ (v177 : Value).ownBlock)) HO_8.out hg (.inl rfl)); have n3_ := Aside0.mk (blk_grown (g := gb189) (o := .cells #[.int .i64 ((rd_T96 l0 x35_3).f0), .int .i64 ((rd_T96 l0 x35_3).f1), .int .i64 ((rd_T96 l0 x35_3).f2)] 96 (0, 0)) (by exact BK189.out) hg (Kd.R_ne HO_7.out BK189.out (by decide))); have n4_ := Aside0.mk ((by rw [hw]; exact below_set (HB.out) GB31.out : Below w.heap.size w w69)); clear HO_6; clear HO_7; clear HO_8; clear BK189; clear HB; have HO_6 := n0_; have HO_7 := n1_; have HO_8 := n2_; have BK189 := n3_; have HB := n4_; clear n0_ n1_ n2_ n3_ n4_; clear hg hw hp_; have hcz70_0 : w69.cell? ⟨gb189, 0, none⟩ = some (.int .i64 ((rd_T96 l0 x35_3).f0)) := (blk_cell BK189.out 0).trans rfl; have hcz70_1 : w69.cell? ⟨gb189, 1, none⟩ = some (.int .i64 ((rd_T96 l0 x35_3).f1)) := (blk_cell BK189.out 1).trans rfl; have hcz70_2 : w69.cell? ⟨gb189, 2, none⟩ = some (.int .i64 ((rd_T96 l0 x35_3).f2)) := (blk_cell BK189.out 2).trans rfl; have hfz70_0 := blk_frozen BK189.out 0; have hfz70_1 := blk_frozen BK189.out 1; have hfz70_2 := blk_frozen BK189.out 2; have p32 : 0 ≤ (x35_3 : Int) := of_decide_eq_true (by with_reducible assumption); have q32 : (x35_3 : Int) < ((x8_3.length : Int) : Int) := of_decide_eq_true (by with_reducible assumption); obtain ⟨go32, co32, eo32, gb32, gl32, cl32, HG32⟩ := Kd.R_form HO_8.out (by omega); (first | cases eo32 | (injection eo32 with ea_ en_ ec_; (first | subst ea_ | (injection ea_ with ea_; subst ea_)); subst ec_; clear en_)); have GB32 := Aside0.mk gb32; have GG32 := Aside0.mk HG32; clear gb32 gl32 HG32; (first | simp only [add_plain] at hx190_0 | skip); obtain ⟨hx32_0, hf32_0⟩ := Kd.R_celln 0 HO_8.out (x35_3 : Int) p32 q32; replace p32 := eq_true p32; replace q32 := eq_true q32; obtain ⟨hy71_, hz71_⟩ := Kd.R_celln 0 HO_8.out (x35_3 : Int) (of_decide_eq_true (by with_reducible assumption)) (of_decide_eq_true (by with_reducible assumption)); have HP71 := Kd.R_putg HO_8.out (x35_3 : Int) ((rd_T96 l0 x35_3).f1)) | ((with_reducible refine gate_store (t := 3) (p := 60) rfl ?_); refine store_event (t := 3) (p := 60) (v := ?vo_w72) (w1 := (w69.setCell ⟨go32, (x35_3 : Int).toNat, none⟩ (.int .i64 ((rd_T96 l0 x35_3).f1)))) ?hg ?ho ?hn ?hr ?_; (case ho => rfl); (case hg => rfl); (case hn => rfl); (case hr => first | (go_simp; done) | (go_simp; rfl)); intro w72 hw; have hg : w69.grownBy w72 (some go32) := (by rw [hw]; exact HP71.2); have hp_ : Kd.R (Kd.int .i64) 3 w72 w.heap.size (fun k_ => some k_ ≠ (v177 : Value).ownBlock ∧ some k_ ≠ (.slice (some ⟨go31, 0, none⟩) x7_3.length co67 : Value).ownBlock) (.slice (some ⟨go32, 0, none⟩) x8_3.length co66) y193 := (by rw [hw, Ny193.out]; exact HP71.1); clear HP71; have n0_ := Aside0.mk (Kd.R_after (v := (.slice (some ⟨go32, 0, none⟩) x8_3.length co66)) (v1 := (.slice (some ⟨go32, 0, none⟩) x8_3.length co66)) (ok := (fun k_ => some k_ ≠ (.slice (some ⟨go31, 0, none⟩) x7_3.length co67 : Value).ownBlock)) (by exact Kd.R_mono HO_6.out (fun _ hk => ⟨hk.2, hk.1⟩)) hg (.inl rfl)); have n1_ := Aside0.mk (Kd.R_after (v := (.slice (some ⟨go32, 0, none⟩) x8_3.length co66)) (v1 := (.slice (some ⟨go32, 0, none⟩) x8_3.length co66)) (ok := (fun k_ => some k_ ≠ (v177 : Value).ownBlock)) HO_7.out hg (.inl rfl)); have n2_ := Aside0.mk (hp_); have n3_ := Aside0.mk (blk_grown (g := gb189) (o := .cells #[.int .i64 ((rd_T96 l0 x35_3).f0), .int .i64 ((rd_T96 l0 x35_3).f1), .int .i64 ((rd_T96 l0 x35_3).f2)] 96 (0, 0)) (by exact BK189.out) hg (Kd.R_ne HO_8.out BK189.out (by decide))); have n4_ := Aside0.mk ((by rw [hw]; exact below_set (HB.out) GB32.out : Below w.heap.size w w72)); clear HO_6; clear HO_7; clear HO_8; clear BK189; clear HB; have HO_6 := n0_; have HO_7 := n1_; have HO_8 := n2_; have BK189 := n3_; have HB := n4_; clear n0_ n1_ n2_ n3_ n4_; clear hg hw hp_))
  have n0_ := Aside0.mk (Kd.R_drew HO_6.out)
  have n1_ := Aside0.mk (Kd.R_drew HO_7.out)
  have n2_ := Aside0.mk (Kd.R_drew HO_8.out)
  have n3_ := Aside0.mk (blk_drew BK189.out)
  have n4_ := Aside0.mk (below_drew1 HB.out)
  clear HO_6
  clear HO_7
  clear HO_8
  clear BK189
  clear HB
  have HO_6 := n0_
  have HO_7 := n1_
  have HO_8 := n2_
  have BK189 := n3_
  have HB := n4_
  clear n0_ n1_ n2_ n3_ n4_
  have p194 : 0 ≤ (x35_3 : Int) := of_decide_eq_true (by with_reducible assumption)
  have q194 : x35_3 < (y193.length : Int) := (by have h_ : (x35_3 : Int) < ((x8_3.length : Int) : Int) := of_decide_eq_true (by with_reducible assumption); first | (have e_ := (Kd.R_reads' HO_8.out).1; omega) | simpa only [Ny193.out, List.length_set] using h_)
  have ql194 : ((x35_3 : Int) < ((x8_3.length : Int) : Int)) = True := eq_true (of_decide_eq_true (by with_reducible assumption))
  obtain ⟨ad194, e194, hx194_0⟩ := Kd.at_int (Kd.R_reads' HO_8.out).2.2 x35_3 p194 q194
  obtain rfl : (⟨go32, 0, none⟩ : Addr) = ad194 := (by injection e194)
  (first | simp only [add_plain] at hx194_0 | simp only [add_at] at hx194_0 | simp only [Addr.add, Nat.zero_add] at hx194_0 | skip)
  replace p194 := eq_true p194
  replace q194 := eq_true q194
  have p195 : 0 ≤ (x10_3 : Int) := of_decide_eq_true (by with_reducible assumption)
  have q195 : x10_3 < (l0.length : Int) := of_decide_eq_true (by with_reducible assumption)
  obtain ⟨ad195, e195, hx195_0, hx195_1, hx195_2⟩ := at_T96 HR0.out x10_3 p195 q195
  have hw195_2 := hx195_2
  have hw195_1 := hx195_1
  have hw195_0 := hx195_0
  obtain rfl : ad188 = ad195 := (by injection e195)
  replace hx195_0 := (HB.out.cell (World.block_lt_of_cell? w _ hx195_0)).trans hx195_0
  replace hx195_1 := (HB.out.cell (World.block_lt_of_cell? w _ hx195_1)).trans hx195_1
  replace hx195_2 := (HB.out.cell (World.block_lt_of_cell? w _ hx195_2)).trans hx195_2
  replace p195 := eq_true p195
  replace q195 := eq_true q195
  refine start_ (n := 19) (S := fun w' => w'.cell? ⟨gb189, 0, none⟩ = some (.int .i64 ((rd_T96 l0 x35_3).f0)) ∧ w'.cell? ⟨gb189, 1, none⟩ = some (.int .i64 ((rd_T96 l0 x35_3).f1)) ∧ w'.cell? ⟨gb189, 2, none⟩ = some (.int .i64 ((rd_T96 l0 x35_3).f2)) ∧ w'.cell? ⟨go32, (x35_3).toNat, none⟩ = some (.int .i64 (rd y193 x35_3)) ∧ w'.cell? (ad188.add ((x10_3).toNat * 3)) = some (.int .i64 ((rd_T96 l0 x10_3).f0)) ∧ w'.cell? ⟨(ad188.add ((x10_3).toNat * 3)).block, (ad188.add ((x10_3).toNat * 3)).off + 1, none⟩ = some (.int .i64 ((rd_T96 l0 x10_3).f1)) ∧ w'.cell? ⟨(ad188.add ((x10_3).toNat * 3)).block, (ad188.add ((x10_3).toNat * 3)).off + 2, none⟩ = some (.int .i64 ((rd_T96 l0 x10_3).f2))) (ds := []) #[oF,oF,oF,oF,oF,oF,oF,oF,oF,oF,oF,oF,oF,oF,oF,oF,oF,oF,oF] (by kernel_rfl) rfl rfl ⟨(blk_cell BK189.out 0).trans rfl, (blk_cell BK189.out 1).trans rfl, (blk_cell BK189.out 2).trans rfl, hx194_0, ((HB.out.cell (World.block_lt_of_cell? w _ hw195_0)).trans hw195_0), ((HB.out.cell (World.block_lt_of_cell? w _ hw195_1)).trans hw195_1), ((HB.out.cell (World.block_lt_of_cell? w _ hw195_2)).trans hw195_2)⟩ (fun hHeld => ?_); refine with_tabW impl_TaskSchedule.tab16 impl_TaskSchedule.bits16 (fun HT_ HW_ => ?_)
  generalize w72.drew = w73 at HO_6 HO_7 HO_8 BK189 HB hx194_0 hx195_0 hx195_1 hx195_2 hHeld ⊢
  refine pure_ (i := 0) (N := some 61) (v := ?_) (a' := ?_) #[oT,oF,oF,oF,oF,oF,oF,oF,oF,oF,oF,oF,oF,oF,oF,oF,oF,oF,oF] rfl rfl (any_of HT_.out (by kernel_rfl)) (fun _ _ _ h => h) (Or.inl ⟨by rfl, ?_⟩) ?_ ?_
  rotate_left
  · intro w'
    go_simp
    with_reducible rfl
  rotate_left
  · simp only [Act.put, List.setIfInBounds_toArray, List.set_cons_zero, List.set_cons_succ, i64_w, i32_w]
    rfl
  refine pure_ (i := 1) (N := some 62) (v := ?_) (a' := ?_) #[oT,oT,oF,oF,oF,oF,oF,oF,oF,oF,oF,oF,oF,oF,oF,oF,oF,oF,oF] rfl rfl (any_of HT_.out (by kernel_rfl)) (fun _ _ _ h => h) (Or.inl ⟨by rfl, ?_⟩) ?_ ?_
  rotate_left
  · intro w'
    go_simp
    with_reducible rfl
  rotate_left
  · simp only [Act.put, List.setIfInBounds_toArray, List.set_cons_zero, List.set_cons_succ, i64_w, i32_w]
    rfl
  refine pure_ (i := 2) (N := some 63) (v := ?_) (a' := ?_) #[oT,oT,oT,oF,oF,oF,oF,oF,oF,oF,oF,oF,oF,oF,oF,oF,oF,oF,oF] rfl rfl (any_of HT_.out (by kernel_rfl)) (fun _ _ _ h => h) (Or.inl ⟨by rfl, ?_⟩) ?_ ?_
  rotate_left
  · intro w'
    go_simp
    with_reducible rfl
  rotate_left
  · simp only [Act.put, List.setIfInBounds_toArray, List.set_cons_zero, List.set_cons_succ, i64_w, i32_w]
    rfl
  refine take_ (i := 3) (N := some 64) (v := ?_) (a' := ?_) #[oT,oT,oT,oT,oF,oF,oF,oF,oF,oF,oF,oF,oF,oF,oF,oF,oF,oF,oF] rfl rfl (take_ofW HT_.out HW_.out (by kernel_rfl)) (fun _ _ _ h => h) (Or.inl ⟨by rfl, ?_⟩) hHeld ?_ ?_
  rotate_left
  · rintro w' ⟨s0, s1, s2, s3, s4, s5, s6⟩
    go_simp
    with_reducible rfl
  rotate_left
  · simp only [Act.put, List.setIfInBounds_toArray, List.set_cons_zero, List.set_cons_succ, i64_w, i32_w]
    rfl
  refine pure_ (i := 4) (N := some 65) (v := ?_) (a' := ?_) #[oT,oT,oT,oT,oT,oF,oF,oF,oF,oF,oF,oF,oF,oF,oF,oF,oF,oF,oF] rfl rfl (any_of HT_.out (by kernel_rfl)) (fun _ _ _ h => h) (Or.inl ⟨by rfl, ?_⟩) ?_ ?_
  rotate_left
  · intro w'
    go_simp
    with_reducible rfl
  rotate_left
  · simp only [Act.put, List.setIfInBounds_toArray, List.set_cons_zero, List.set_cons_succ, i64_w, i32_w]
    rfl
  refine pure_ (i := 5) (N := some 66) (v := ?_) (a' := ?_) #[oT,oT,oT,oT,oT,oT,oF,oF,oF,oF,oF,oF,oF,oF,oF,oF,oF,oF,oF] rfl rfl (any_of HT_.out (by kernel_rfl)) (fun _ _ _ h => h) (Or.inl ⟨by rfl, ?_⟩) ?_ ?_
  rotate_left
  · intro w'
    go_simp
    with_reducible rfl
  rotate_left
  · simp only [Act.put, List.setIfInBounds_toArray, List.set_cons_zero, List.set_cons_succ, i64_w, i32_w]
    rfl
  refine pure_ (i := 6) (N := some 67) (v := ?_) (a' := ?_) #[oT,oT,oT,oT,oT,oT,oT,oF,oF,oF,oF,oF,oF,oF,oF,oF,oF,oF,oF] rfl rfl (any_of HT_.out (by kernel_rfl)) (fun _ _ _ h => h) (Or.inl ⟨by rfl, ?_⟩) ?_ ?_
  rotate_left
  · intro w'
    go_simp
    with_reducible rfl
  rotate_left
  · simp only [Act.put, List.setIfInBounds_toArray, List.set_cons_zero, List.set_cons_succ, i64_w, i32_w]
    rfl
  refine pure_ (i := 7) (N := some 68) (v := ?_) (a' := ?_) #[oT,oT,oT,oT,oT,oT,oT,oT,oF,oF,oF,oF,oF,oF,oF,oF,oF,oF,oF] rfl rfl (any_of HT_.out (by kernel_rfl)) (fun _ _ _ h => h) (Or.inl ⟨by rfl, ?_⟩) ?_ ?_
  rotate_left
  · intro w'
    go_simp
    with_reducible rfl
  rotate_left
  · simp only [Act.put, List.setIfInBounds_toArray, List.set_cons_zero, List.set_cons_succ, i64_w, i32_w]
    rfl
  refine pure_ (i := 8) (N := some 69) (v := ?_) (a' := ?_) #[oT,oT,oT,oT,oT,oT,oT,oT,oT,oF,oF,oF,oF,oF,oF,oF,oF,oF,oF] rfl rfl (any_of HT_.out (by kernel_rfl)) (fun _ _ _ h => h) (Or.inl ⟨by rfl, ?_⟩) ?_ ?_
  rotate_left
  · intro w'
    go_simp
    with_reducible rfl
  rotate_left
  · simp only [Act.put, List.setIfInBounds_toArray, List.set_cons_zero, List.set_cons_succ, i64_w, i32_w]
    rfl
  refine pure_ (i := 9) (N := some 70) (v := ?_) (a' := ?_) #[oT,oT,oT,oT,oT,oT,oT,oT,oT,oT,oF,oF,oF,oF,oF,oF,oF,oF,oF] rfl rfl (any_of HT_.out (by kernel_rfl)) (fun _ _ _ h => h) (Or.inl ⟨by rfl, ?_⟩) ?_ ?_
  rotate_left
  · intro w'
    go_simp
    with_reducible rfl
  rotate_left
  · simp only [Act.put, List.setIfInBounds_toArray, List.set_cons_zero, List.set_cons_succ, i64_w, i32_w]
    rfl
  refine pure_ (i := 11) (N := some 72) (v := ?_) (a' := ?_) #[oT,oT,oT,oT,oT,oT,oT,oT,oT,oT,oF,oT,oF,oF,oF,oF,oF,oF,oF] rfl rfl (any_of HT_.out (by kernel_rfl)) (fun _ _ _ h => h) (Or.inl ⟨by rfl, ?_⟩) ?_ ?_
  rotate_left
  · intro w'
    go_simp
    with_reducible rfl
  rotate_left
  · simp only [Act.put, List.setIfInBounds_toArray, List.set_cons_zero, List.set_cons_succ, i64_w, i32_w]
    rfl
  refine pure_ (i := 12) (N := some 73) (v := ?_) (a' := ?_) #[oT,oT,oT,oT,oT,oT,oT,oT,oT,oT,oF,oT,oT,oF,oF,oF,oF,oF,oF] rfl rfl (any_of HT_.out (by kernel_rfl)) (fun _ _ _ h => h) (Or.inl ⟨by rfl, ?_⟩) ?_ ?_
  rotate_left
  · intro w'
    go_simp
    with_reducible rfl
  rotate_left
  · simp only [Act.put, List.setIfInBounds_toArray, List.set_cons_zero, List.set_cons_succ, i64_w, i32_w]
    rfl
  refine pure_ (i := 13) (N := some 74) (v := ?_) (a' := ?_) #[oT,oT,oT,oT,oT,oT,oT,oT,oT,oT,oF,oT,oT,oT,oF,oF,oF,oF,oF] rfl rfl (any_of HT_.out (by kernel_rfl)) (fun _ _ _ h => h) (Or.inl ⟨by rfl, ?_⟩) ?_ ?_
  rotate_left
  · intro w'
    go_simp
    with_reducible rfl
  rotate_left
  · simp only [Act.put, List.setIfInBounds_toArray, List.set_cons_zero, List.set_cons_succ, i64_w, i32_w]
    rfl
  refine pure_ (i := 14) (N := some 75) (v := ?_) (a' := ?_) #[oT,oT,oT,oT,oT,oT,oT,oT,oT,oT,oF,oT,oT,oT,oT,oF,oF,oF,oF] rfl rfl (any_of HT_.out (by kernel_rfl)) (fun _ _ _ h => h) (Or.inl ⟨by rfl, ?_⟩) ?_ ?_
  rotate_left
  · intro w'
    go_simp
    with_reducible rfl
  rotate_left
  · simp only [Act.put, List.setIfInBounds_toArray, List.set_cons_zero, List.set_cons_succ, i64_w, i32_w]
    rfl
  refine take_ (i := 10) (N := some 71) (v := ?_) (a' := ?_) #[oT,oT,oT,oT,oT,oT,oT,oT,oT,oT,oT,oT,oT,oT,oT,oF,oF,oF,oF] rfl rfl (take_ofW HT_.out HW_.out (by kernel_rfl)) (fun _ _ _ h => h) (Or.inl ⟨by rfl, ?_⟩) hHeld ?_ ?_
  rotate_left
  · rintro w' ⟨s0, s1, s2, s3, s4, s5, s6⟩
    go_simp
    with_reducible rfl
  rotate_left
  · simp only [Act.put, List.setIfInBounds_toArray, List.set_cons_zero, List.set_cons_succ, i64_w, i32_w]
    rfl
  refine take_ (i := 15) (N := some 76) (v := ?_) (a' := ?_) #[oT,oT,oT,oT,oT,oT,oT,oT,oT,oT,oT,oT,oT,oT,oT,oT,oF,oF,oF] rfl rfl (take_ofW HT_.out HW_.out (by kernel_rfl)) (fun _ _ _ h => h) (Or.inl ⟨by rfl, ?_⟩) hHeld ?_ ?_
  rotate_left
  · rintro w' ⟨s0, s1, s2, s3, s4, s5, s6⟩
    go_simp
    with_reducible rfl
  rotate_left
  · simp only [Act.put, List.setIfInBounds_toArray, List.set_cons_zero, List.set_cons_succ, i64_w, i32_w]
    rfl
  refine pure_ (i := 16) (N := some 77) (v := ?_) (a' := ?_) #[oT,oT,oT,oT,oT,oT,oT,oT,oT,oT,oT,oT,oT,oT,oT,oT,oT,oF,oF] rfl rfl (any_of HT_.out (by kernel_rfl)) (fun _ _ _ h => h) (Or.inl ⟨by rfl, ?_⟩) ?_ ?_
  rotate_left
  · intro w'
    go_simp
    with_reducible rfl
  rotate_left
  · simp only [Act.put, List.setIfInBounds_toArray, List.set_cons_zero, List.set_cons_succ, i64_w, i32_w]
    rfl
  refine pure_ (i := 17) (N := some 78) (v := ?_) (a' := ?_) #[oT,oT,oT,oT,oT,oT,oT,oT,oT,oT,oT,oT,oT,oT,oT,oT,oT,oT,oF] rfl rfl (any_of HT_.out (by kernel_rfl)) (fun _ _ _ h => h) (Or.inl ⟨by rfl, ?_⟩) ?_ ?_
  rotate_left
  · intro w'
    go_simp
    with_reducible rfl
  rotate_left
  · simp only [Act.put, List.setIfInBounds_toArray, List.set_cons_zero, List.set_cons_succ, i64_w, i32_w]
    rfl
  refine pure_ (i := 18) (N := some 79) (v := ?_) (a' := ?_) #[oT,oT,oT,oT,oT,oT,oT,oT,oT,oT,oT,oT,oT,oT,oT,oT,oT,oT,oT] rfl rfl (any_of HT_.out (by kernel_rfl)) (fun _ _ _ h => h) (Or.inl ⟨by rfl, ?_⟩) ?_ ?_
  rotate_left
  · intro w'
    go_simp
    with_reducible rfl
  rotate_left
  · simp only [Act.put, List.setIfInBounds_toArray, List.set_cons_zero, List.set_cons_succ, i64_w, i32_w]
    rfl
  refine done_ (done_of HT_.out (by kernel_rfl)) ?_
  try go_wp2
  go_roundg k3
  case measure => have := HJ2.out; have := HK2.out; have := HK3.out; omega
  case rel => exact ⟨(y192), (y193), (x10_3), (wrap64 (x35_3 + 1)), (by first | rfl | (simp; done) | (simp [*]; done)), (by first | rfl | (simp; done) | (simp [*]; done)), H', ⟨by have := HJ2.out; have := HK2.out; have := HK3.out; omega⟩, ⟨by (with_reducible repeat (first | apply Kd.R_alloc | apply Kd.R_drewN | apply Kd.R_drew)); exact HO_6.out⟩, ⟨by (with_reducible repeat (first | apply Kd.R_alloc | apply Kd.R_drewN | apply Kd.R_drew)); exact HO_7.out⟩, ⟨by (with_reducible repeat (first | apply Kd.R_alloc | apply Kd.R_drewN | apply Kd.R_drew)); exact HO_8.out⟩, ⟨by repeat (first | (with_reducible first | exact HB.out | apply below_alloc | apply pw_below_drewN | apply below_drew1 | refine below_set ?_ GE189.out) | exact HB.out)⟩⟩
end Go.Proofs.Ythbbhdadioiefaa.QFnExactWatchdogTrips
