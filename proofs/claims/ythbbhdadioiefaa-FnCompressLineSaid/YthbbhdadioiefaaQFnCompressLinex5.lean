-- Written by wip/pr2.py: a program of this session's own, which runs the kit's print over contracts of its own.
import Derived.Test.YthbbhdadioiefaaQFnCompressLinex0
namespace Go.Proofs.Ythbbhdadioiefaa.QFnCompressLine
open Go.RowKit Go.Proofs.YthbbhdadioiefaaW.PrintWords Go.Proofs.YthbbhdadioiefaaW.PrintLast Go.Proofs.YthbbhdadioiefaaW.PrintMore
attribute [local go_sem] max2_int min2_int max_two min_two max_three min_three max_four min_four   -- for this text's walks alone
set_option linter.unusedVariables false
set_option linter.unusedSimpArgs false

/-! ### impl_near: function 97 -/
def impl_near.l0 : Nat → Int → Int → List (S84) → Int → Int → Int → Int → Int → Int → Option (Bool)
  | 0, _, _, _, _, _, _, _, _, _ => none
  | k + 1, x3, x11, x32, x33, x34, x161000, x161001, x162000, x162001 => if x34 < x33 then (if 0 ≤ x34 then (if x34 < (x32.length : Int) then (if (mx (wrap64 ((wrap64 ((wrap64 (((rd_T84 x32 x34).f1) - x161001)) * x11)) - (wrap64 ((wrap64 (x162001 - x161001)) * (wrap64 (((rd_T84 x32 x34).f0) - x161000)))))) (wrap64 (-(wrap64 ((wrap64 ((wrap64 (((rd_T84 x32 x34).f1) - x161001)) * x11)) - (wrap64 ((wrap64 (x162001 - x161001)) * (wrap64 (((rd_T84 x32 x34).f0) - x161000))))))))) > (wrap64 (x3 * x11)) then (some false) else (impl_near.l0 k x3 x11 x32 x33 (wrap64 (x34 + 1)) x161000 x161001 x162000 x162001)) else (none)) else (none)) else (some true)
def impl_near.f (k : Nat) (l0 : List (S84)) (a1 : Int) (a2 : Int) (a3 : Int) : Option (Bool) := if 0 ≤ a1 then (if a1 < (l0.length : Int) then (if 0 ≤ a2 then (if a2 < (l0.length : Int) then (if 0 ≤ (wrap64 (a1 + 1)) then (if (wrap64 (a1 + 1)) ≤ a2 then (if a2 ≤ (l0.length : Int) then ((some ((l0.take (a2 : Int).toNat).drop ((wrap64 (a1 + 1)) : Int).toNat : List (S84))).bind fun y162 => (impl_near.l0 k a3 (wrap64 (((rd_T84 l0 a2).f0) - ((rd_T84 l0 a1).f0))) y162 (y162.length : Int) 0 ((rd_T84 l0 a1).f0) ((rd_T84 l0 a1).f1) ((rd_T84 l0 a2).f0) ((rd_T84 l0 a2).f1))) else (none)) else (none)) else (none)) else (none)) else (none)) else (none)) else (none)
theorem impl_near.mono_l : ∀ k, (∀ y0 y1 y2 y3 y4 y5 y6 y7 y8, LeO (impl_near.l0 k y0 y1 y2 y3 y4 y5 y6 y7 y8) (impl_near.l0 (k + 1) y0 y1 y2 y3 y4 y5 y6 y7 y8))
  | 0 => fun _ _ _ _ _ _ _ _ _ r h => by simp [impl_near.l0] at h
  | k + 1 => by
    have ih0 := impl_near.mono_l k
    · intro y0 y1 y2 y3 y4 y5 y6 y7 y8
      unfold impl_near.l0
      repeat' first
      | (with_reducible exact ih0 _ _ _ _ _ _ _ _ _)
      | (with_reducible exact LeO.refl _)
      | (with_reducible exact LeO.none _)
      | (with_reducible refine LeO.ite ?_ ?_)
      | (with_reducible refine LeO.bind ?_ (fun _ => ?_))
      | exact ih0 _ _ _ _ _ _ _ _ _
      | exact LeO.none _
      | refine LeO.ite ?_ ?_
      | refine LeO.bind ?_ (fun _ => ?_)
theorem impl_near.mono : ∀ a0 a1 a2 a3 k, LeO (impl_near.f k a0 a1 a2 a3) (impl_near.f (k + 1) a0 a1 a2 a3) := by
  intro a0 a1 a2 a3 k
  have ih0 := impl_near.mono_l k
  unfold impl_near.f
  repeat' first
      | (with_reducible exact ih0 _ _ _ _ _ _ _ _ _)
      | (with_reducible exact LeO.refl _)
      | (with_reducible exact LeO.none _)
      | (with_reducible refine LeO.ite ?_ ?_)
      | (with_reducible refine LeO.bind ?_ (fun _ => ?_))
      | exact ih0 _ _ _ _ _ _ _ _ _
      | exact LeO.none _
      | refine LeO.ite ?_ ?_
      | refine LeO.bind ?_ (fun _ => ?_)
def impl_near.T1 : Bool × List (List Nat × List Nat) := (true, [([], []), ([], []), ([0, 1], [0, 1]), ([2], [2]), ([], []), ([], []), ([4, 5], [4, 5]), ([6], [6]), ([], []), ([], []), ([8, 3, 0, 1, 2, 3, 8, 9], [3, 8]), ([9, 7, 10, 0, 1, 2, 3, 4, 5, 6, 7, 8, 9, 10], [7, 9])])
def impl_near.B1 : List Nat := [0, 0, 3, 7, 0, 0, 48, 112, 0, 0, 783, 2047]
theorem impl_near.tab1 : rtab .any (opsOf Try.f97 1) = impl_near.T1 := by kernel_rfl
theorem impl_near.bits1 : waitsOk impl_near.T1.2 impl_near.B1 = true := by kernel_rfl
set_option maxHeartbeats 8000000 in
set_option maxRecDepth 100000 in
theorem impl_near.calls (k : Nat) (A0 : Option Addr) (c0 : Nat) (l0 : List (S84)) (a1 : Int) (a2 : Int) (a3 : Int) (r : Bool) (w : World) (hr0 : Kd.C k84 w A0 l0.length l0) (hc0 : l0.length ≤ c0) (h : impl_near.f k l0 a1 a2 a3 = some r) :
    Calls Try.prog 97 #[.slice A0 l0.length c0, .int .i64 a1, .int .i64 a2, .int .i64 a3] w fun e w' => e = .returned (.bool r) ∧ Below w.heap.size w w' := by
  have hu84 := Try.underlying84
  have HR0 := Aside0.mk hr0
  have HC0 := Aside0.mk hc0
  clear hr0 hc0
  have HB := Aside0.mk (Below.refl w.heap.size w)
  have H : (if 0 ≤ a1 then (if a1 < (l0.length : Int) then (if 0 ≤ a2 then (if a2 < (l0.length : Int) then (if 0 ≤ (wrap64 (a1 + 1)) then (if (wrap64 (a1 + 1)) ≤ a2 then (if a2 ≤ (l0.length : Int) then ((some ((l0.take (a2 : Int).toNat).drop ((wrap64 (a1 + 1)) : Int).toNat : List (S84))).bind fun y162 => (impl_near.l0 k a3 (wrap64 (((rd_T84 l0 a2).f0) - ((rd_T84 l0 a1).f0))) y162 (y162.length : Int) 0 ((rd_T84 l0 a1).f0) ((rd_T84 l0 a1).f1) ((rd_T84 l0 a2).f0) ((rd_T84 l0 a2).f1))) else (none)) else (none)) else (none)) else (none)) else (none)) else (none)) else (none)) = some r := h
  clear h
  by_cases c5 : 0 ≤ a1
  · rw [if_pos c5] at H
    have c5b0 : decide (0 ≤ a1) = true := decide_eq_true c5
    clear c5
    by_cases c6 : a1 < (l0.length : Int)
    · rw [if_pos c6] at H
      have c6b0 : decide (a1 < (l0.length : Int)) = true := decide_eq_true c6
      clear c6
      by_cases c7 : 0 ≤ a2
      · rw [if_pos c7] at H
        have c7b0 : decide (0 ≤ a2) = true := decide_eq_true c7
        clear c7
        by_cases c8 : a2 < (l0.length : Int)
        · rw [if_pos c8] at H
          have c8b0 : decide (a2 < (l0.length : Int)) = true := decide_eq_true c8
          clear c8
          obtain ⟨ji9, hji9⟩ : ∃ j_ : Int, (wrap64 (a1 + 1)) = j_ := ⟨_, rfl⟩
          replace H : (if 0 ≤ (ji9) then (if (ji9) ≤ a2 then (if a2 ≤ (l0.length : Int) then ((some ((l0.take (a2 : Int).toNat).drop ((ji9) : Int).toNat : List (S84))).bind fun y162 => (impl_near.l0 k a3 (wrap64 (((rd_T84 l0 a2).f0) - ((rd_T84 l0 a1).f0))) y162 (y162.length : Int) 0 ((rd_T84 l0 a1).f0) ((rd_T84 l0 a1).f1) ((rd_T84 l0 a2).f0) ((rd_T84 l0 a2).f1))) else (none)) else (none)) else (none)) = some r := by first | (rw [hji9] at H; exact H) | (simp only [hji9] at H ⊢; exact H)
          have hji9w : (IntKind.i64.wrap (a1 + 1)) = ji9 := (i64_w _).trans hji9
          by_cases c10 : 0 ≤ (ji9)
          · rw [if_pos c10] at H
            have c10b0 := eq_true c10
            have c10b1 : decide (0 ≤ (ji9)) = true := decide_eq_true c10
            clear c10
            by_cases c11 : (ji9) ≤ a2
            · rw [if_pos c11] at H
              have c11b0 := eq_true c11
              have c11b1 : decide ((ji9) ≤ a2) = true := decide_eq_true c11
              clear c11
              by_cases c12 : a2 ≤ (l0.length : Int)
              · rw [if_pos c12] at H
                have c12b0 := eq_true c12
                have c12b1 : decide (a2 ≤ (l0.length : Int)) = true := decide_eq_true c12
                clear c12
                obtain ⟨y162, hy162⟩ : ∃ y_ : List (S84), y_ = ((l0.take (a2 : Int).toNat).drop ((ji9) : Int).toNat) := ⟨_, rfl⟩
                replace H : (impl_near.l0 k a3 (wrap64 (((rd_T84 l0 a2).f0) - ((rd_T84 l0 a1).f0))) y162 (y162.length : Int) 0 ((rd_T84 l0 a1).f0) ((rd_T84 l0 a1).f1) ((rd_T84 l0 a2).f0) ((rd_T84 l0 a2).f1)) = some r := by first | (rw [hy162]; with_reducible exact H) | (have H2_ := (Option.bind_some _ _).symm.trans H; rw [hy162]; with_reducible exact H2_) | (have H2_ := (Option.bind_some _ _).symm.trans H; with_reducible exact H2_) | with_reducible exact H | (rw [hy162]; exact H) | exact H
                have Ny162 := Aside0.mk hy162
                clear hy162
                have H' := Aside0.mk H
                clear H
                go_enter Try.func97, Try.ntmps97
                try go_wp2
                have n0_ := Aside0.mk (below_drew1 HB.out)
                clear HB
                have HB := n0_
                clear n0_
                have p158 : 0 ≤ (a1 : Int) := of_decide_eq_true (by first | (with_reducible assumption) | assumption)
                have q158 : a1 < (l0.length : Int) := of_decide_eq_true (by first | (with_reducible assumption) | assumption)
                obtain ⟨ad158, e158, hx158_0, hx158_1⟩ := at_T84 HR0.out a1 p158 q158
                have hw158_1 := hx158_1
                have hw158_0 := hx158_0
                cases e158
                replace hx158_0 := (HB.out.cell (World.block_lt_of_cell? w _ hx158_0)).trans hx158_0
                replace hx158_1 := (HB.out.cell (World.block_lt_of_cell? w _ hx158_1)).trans hx158_1
                replace p158 := eq_true p158
                replace q158 := eq_true q158
                have p159 : 0 ≤ (a2 : Int) := of_decide_eq_true (by first | (with_reducible assumption) | assumption)
                have q159 : a2 < (l0.length : Int) := of_decide_eq_true (by first | (with_reducible assumption) | assumption)
                obtain ⟨ad159, e159, hx159_0, hx159_1⟩ := at_T84 HR0.out a2 p159 q159
                have hw159_1 := hx159_1
                have hw159_0 := hx159_0
                obtain rfl : ad158 = ad159 := (by injection e159)
                replace hx159_0 := (HB.out.cell (World.block_lt_of_cell? w _ hx159_0)).trans hx159_0
                replace hx159_1 := (HB.out.cell (World.block_lt_of_cell? w _ hx159_1)).trans hx159_1
                replace p159 := eq_true p159
                replace q159 := eq_true q159
                refine start_ (n := 12) (S := fun w' => w'.cell? (ad158.add ((a1).toNat * 2)) = some (.int .i64 ((rd_T84 l0 a1).f0)) ∧ w'.cell? ⟨(ad158.add ((a1).toNat * 2)).block, (ad158.add ((a1).toNat * 2)).off + 1, none⟩ = some (.int .i64 ((rd_T84 l0 a1).f1)) ∧ w'.cell? (ad158.add ((a2).toNat * 2)) = some (.int .i64 ((rd_T84 l0 a2).f0)) ∧ w'.cell? ⟨(ad158.add ((a2).toNat * 2)).block, (ad158.add ((a2).toNat * 2)).off + 1, none⟩ = some (.int .i64 ((rd_T84 l0 a2).f1))) (ds := []) #[false, false, false, false, false, false, false, false, false, false, false, false] (by kernel_rfl) rfl rfl ⟨((HB.out.cell (World.block_lt_of_cell? w _ hw158_0)).trans hw158_0), ((HB.out.cell (World.block_lt_of_cell? w _ hw158_1)).trans hw158_1), ((HB.out.cell (World.block_lt_of_cell? w _ hw159_0)).trans hw159_0), ((HB.out.cell (World.block_lt_of_cell? w _ hw159_1)).trans hw159_1)⟩ (fun hHeld => ?_); refine with_tabW impl_near.tab1 impl_near.bits1 (fun HT_ HW_ => ?_)
                generalize w.drew = w13 at HB hx158_0 hx158_1 hx159_0 hx159_1 hHeld ⊢
                refine pure_ (i := 0) (N := some 15) (v := ?_) (a' := ?_) #[true, false, false, false, false, false, false, false, false, false, false, false] rfl rfl (any_of HT_.out (by kernel_rfl)) (fun _ _ _ h => h) (Or.inl ⟨by rfl, ?_⟩) ?_ ?_
                rotate_left
                · intro w'
                  go_simp
                  with_reducible rfl
                rotate_left
                · simp only [Act.put, List.setIfInBounds_toArray, List.set_cons_zero, List.set_cons_succ, i64_w, i32_w]
                  rfl
                refine pure_ (i := 1) (N := some 16) (v := ?_) (a' := ?_) #[true, true, false, false, false, false, false, false, false, false, false, false] rfl rfl (any_of HT_.out (by kernel_rfl)) (fun _ _ _ h => h) (Or.inl ⟨by rfl, ?_⟩) ?_ ?_
                rotate_left
                · intro w'
                  go_simp
                  with_reducible rfl
                rotate_left
                · simp only [Act.put, List.setIfInBounds_toArray, List.set_cons_zero, List.set_cons_succ, i64_w, i32_w]
                  rfl
                refine pure_ (i := 2) (N := some 17) (v := ?_) (a' := ?_) #[true, true, true, false, false, false, false, false, false, false, false, false] rfl rfl (any_of HT_.out (by kernel_rfl)) (fun _ _ _ h => h) (Or.inl ⟨by rfl, ?_⟩) ?_ ?_
                rotate_left
                · intro w'
                  go_simp
                  with_reducible rfl
                rotate_left
                · simp only [Act.put, List.setIfInBounds_toArray, List.set_cons_zero, List.set_cons_succ, i64_w, i32_w]
                  rfl
                refine pure_ (i := 4) (N := some 19) (v := ?_) (a' := ?_) #[true, true, true, false, true, false, false, false, false, false, false, false] rfl rfl (any_of HT_.out (by kernel_rfl)) (fun _ _ _ h => h) (Or.inl ⟨by rfl, ?_⟩) ?_ ?_
                rotate_left
                · intro w'
                  go_simp
                  with_reducible rfl
                rotate_left
                · simp only [Act.put, List.setIfInBounds_toArray, List.set_cons_zero, List.set_cons_succ, i64_w, i32_w]
                  rfl
                refine pure_ (i := 5) (N := some 20) (v := ?_) (a' := ?_) #[true, true, true, false, true, true, false, false, false, false, false, false] rfl rfl (any_of HT_.out (by kernel_rfl)) (fun _ _ _ h => h) (Or.inl ⟨by rfl, ?_⟩) ?_ ?_
                rotate_left
                · intro w'
                  go_simp
                  with_reducible rfl
                rotate_left
                · simp only [Act.put, List.setIfInBounds_toArray, List.set_cons_zero, List.set_cons_succ, i64_w, i32_w]
                  rfl
                refine pure_ (i := 6) (N := some 21) (v := ?_) (a' := ?_) #[true, true, true, false, true, true, true, false, false, false, false, false] rfl rfl (any_of HT_.out (by kernel_rfl)) (fun _ _ _ h => h) (Or.inl ⟨by rfl, ?_⟩) ?_ ?_
                rotate_left
                · intro w'
                  go_simp
                  with_reducible rfl
                rotate_left
                · simp only [Act.put, List.setIfInBounds_toArray, List.set_cons_zero, List.set_cons_succ, i64_w, i32_w]
                  rfl
                refine take_ (i := 3) (N := some 18) (v := ?_) (a' := ?_) #[true, true, true, true, true, true, true, false, false, false, false, false] rfl rfl (take_ofW HT_.out HW_.out (by kernel_rfl)) (fun _ _ _ h => h) (Or.inl ⟨by rfl, ?_⟩) hHeld ?_ ?_
                rotate_left
                · rintro w' ⟨s0, s1, s2, s3⟩
                  go_simp
                  with_reducible rfl
                rotate_left
                · simp only [Act.put, List.setIfInBounds_toArray, List.set_cons_zero, List.set_cons_succ, i64_w, i32_w]
                  rfl
                refine take_ (i := 7) (N := some 22) (v := ?_) (a' := ?_) #[true, true, true, true, true, true, true, true, false, false, false, false] rfl rfl (take_ofW HT_.out HW_.out (by kernel_rfl)) (fun _ _ _ h => h) (Or.inl ⟨by rfl, ?_⟩) hHeld ?_ ?_
                rotate_left
                · rintro w' ⟨s0, s1, s2, s3⟩
                  go_simp
                  with_reducible rfl
                rotate_left
                · simp only [Act.put, List.setIfInBounds_toArray, List.set_cons_zero, List.set_cons_succ, i64_w, i32_w]
                  rfl
                refine join_ (σ := Nat × Nat) 2 #[true, true, true, true, true, true, true, true, true, true, false, false] (fun s_ => [(9, .pointer (some ⟨s_.1, 0, none⟩)), (10, .pointer (some ⟨s_.2, 0, none⟩))]) (fun s_ w' => (w'.cell? (ad158.add ((a1).toNat * 2)) = some (.int .i64 ((rd_T84 l0 a1).f0)) ∧ w'.cell? ⟨(ad158.add ((a1).toNat * 2)).block, (ad158.add ((a1).toNat * 2)).off + 1, none⟩ = some (.int .i64 ((rd_T84 l0 a1).f1)) ∧ w'.cell? (ad158.add ((a2).toNat * 2)) = some (.int .i64 ((rd_T84 l0 a2).f0)) ∧ w'.cell? ⟨(ad158.add ((a2).toNat * 2)).block, (ad158.add ((a2).toNat * 2)).off + 1, none⟩ = some (.int .i64 ((rd_T84 l0 a2).f1))) ∧ (w'.heap[s_.1]? = some (.cells #[.int .i64 0, .int .i64 0] 84 (0, 0))) ∧ (w'.heap[s_.2]? = some (.cells #[.int .i64 0, .int .i64 0] 84 (0, 0))) ∧ (w.heap.size ≤ s_.1) ∧ (w.heap.size ≤ s_.1) ∧ (s_.2 ≠ s_.1) ∧ (s_.1 ≠ s_.2) ∧ (w.heap.size ≤ s_.2) ∧ (w.heap.size ≤ s_.2) ∧ (Below w.heap.size w w')) ?_ ?_
                rotate_left
                · intro hCont
                  refine two_ (i := 8) (j := 9) (Ni := some 9) (Nj := some 10) #[true, true, true, true, true, true, true, true, true, false, false, false] #[true, true, true, true, true, true, true, true, false, true, false, false] rfl rfl rfl rfl (two_of HT_.out (by kernel_rfl)) (by decide) (by decide) (fun K hK => ?_) (fun K hK => ?_)
                  · skip
                    refine box_step ?hg (N := 9) ?hd (cs := #[.int .i64 0, .int .i64 0]) (t := 84) ?hr ?_; (case hd => rfl); (case hg => rfl); (case hr => first | (go_simp; done) | (go_simp; rfl))
                    intro gb160 hg w14 hbox hb
                    have n0_ := Aside0.mk (below_step (by repeat (first | (with_reducible first | exact HB.out | apply below_alloc | apply pw_below_drewN | apply below_drew1) | exact HB.out)) hb)
                    have n1_ := Aside0.mk (hbox)
                    have n2_ := Aside0.mk ((by rw [hg]; exact (below_size (by repeat (first | (with_reducible first | exact HB.out | apply below_alloc | apply pw_below_drewN | apply below_drew1) | exact HB.out))) : w.heap.size ≤ gb160))
                    have n3_ := Aside0.mk ((by rw [hg]; exact (below_size (by repeat (first | (with_reducible first | exact HB.out | apply below_alloc | apply pw_below_drewN | apply below_drew1) | exact HB.out))) : w.heap.size ≤ gb160))
                    clear HB
                    have HB := n0_
                    have BK160 := n1_
                    have GW160 := n2_
                    have GE160 := n3_
                    clear n0_ n1_ n2_ n3_
                    clear hb hbox hg
                    refine hK.out _ _ ⟨((HB.out.cell (World.block_lt_of_cell? w _ hw158_0)).trans hw158_0), ((HB.out.cell (World.block_lt_of_cell? w _ hw158_1)).trans hw158_1), ((HB.out.cell (World.block_lt_of_cell? w _ hw159_0)).trans hw159_0), ((HB.out.cell (World.block_lt_of_cell? w _ hw159_1)).trans hw159_1)⟩ (fun hHeld => ?_)
                    clear hK K
                    refine norm_ (a' := ?_) ?_ ?_
                    rotate_left
                    · show Act.put _ (some 9) _ = _
                      simp only [Act.put, List.setIfInBounds_toArray, List.set_cons_zero, List.set_cons_succ, i64_w, i32_w]
                      rfl
                    refine one_ (i := 9) (N := some 10) #[true, true, true, true, true, true, true, true, true, true, false, false] rfl rfl (one_of HT_.out (by kernel_rfl)) (by decide) (fun K hK => ?_)
                    refine box_step ?hg (N := 10) ?hd (cs := #[.int .i64 0, .int .i64 0]) (t := 84) ?hr ?_; (case hd => rfl); (case hg => rfl); (case hr => first | (go_simp; done) | (go_simp; rfl))
                    intro gb161 hg w15 hbox hb
                    have n0_ := Aside0.mk (blk_below (g := gb160) (o := .cells #[.int .i64 0, .int .i64 0] 84 (0, 0)) (by (with_reducible repeat (first | refine blk_drewN ?_ _ | refine blk_drew ?_ | refine blk_alloc ?_ _)); exact BK160.out) hb)
                    have n1_ := Aside0.mk (below_step (by repeat (first | (with_reducible first | exact HB.out | apply below_alloc | apply pw_below_drewN | apply below_drew1 | refine below_set ?_ GE160.out) | exact HB.out)) hb)
                    have n2_ := Aside0.mk (hbox)
                    have n3_ := Aside0.mk ((by rw [hg]; exact (below_size (by repeat (first | (with_reducible first | exact HB.out | apply below_alloc | apply pw_below_drewN | apply below_drew1 | refine below_set ?_ GE160.out) | exact HB.out))) : w.heap.size ≤ gb161))
                    have n4_ := Aside0.mk ((by rw [hg]; exact (below_size (by repeat (first | (with_reducible first | exact HB.out | apply below_alloc | apply pw_below_drewN | apply below_drew1 | refine below_set ?_ GE160.out) | exact HB.out))) : w.heap.size ≤ gb161))
                    have n5_ := Aside0.mk ((by rw [hg]; exact Nat.ne_of_lt (blk_lt (g := gb160) (o := .cells #[.int .i64 0, .int .i64 0] 84 (0, 0)) (by (with_reducible repeat (first | refine blk_drewN ?_ _ | refine blk_drew ?_ | refine blk_alloc ?_ _)); exact BK160.out)) : gb160 ≠ gb161))
                    have n6_ := Aside0.mk ((by rw [hg]; exact Nat.ne_of_gt (blk_lt (g := gb160) (o := .cells #[.int .i64 0, .int .i64 0] 84 (0, 0)) (by (with_reducible repeat (first | refine blk_drewN ?_ _ | refine blk_drew ?_ | refine blk_alloc ?_ _)); exact BK160.out)) : gb161 ≠ gb160))
                    clear BK160
                    clear HB
                    have BK160 := n0_
                    have HB := n1_
                    have BK161 := n2_
                    have GW161 := n3_
                    have GE161 := n4_
                    have NB160_161 := n5_
                    have NB161_160 := n6_
                    clear n0_ n1_ n2_ n3_ n4_ n5_ n6_
                    clear hb hbox hg
                    refine hK.out _ _ ⟨((HB.out.cell (World.block_lt_of_cell? w _ hw158_0)).trans hw158_0), ((HB.out.cell (World.block_lt_of_cell? w _ hw158_1)).trans hw158_1), ((HB.out.cell (World.block_lt_of_cell? w _ hw159_0)).trans hw159_0), ((HB.out.cell (World.block_lt_of_cell? w _ hw159_1)).trans hw159_1)⟩ (fun hHeld => ?_)
                    clear hK K
                    refine norm_ (a' := ?_) ?_ ?_
                    rotate_left
                    · show Act.put _ (some 10) _ = _
                      simp only [Act.put, List.setIfInBounds_toArray, List.set_cons_zero, List.set_cons_succ, i64_w, i32_w]
                      rfl
                    exact norm_ (by simp only [putAll, Act.put, List.setIfInBounds_toArray, List.set_cons_zero, List.set_cons_succ]) (hCont (gb160, gb161) _ ⟨hHeld, (by (with_reducible repeat (first | refine blk_drewN ?_ _ | refine blk_drew ?_ | refine blk_alloc ?_ _)); exact BK160.out), (by (with_reducible repeat (first | refine blk_drewN ?_ _ | refine blk_drew ?_ | refine blk_alloc ?_ _)); exact BK161.out), GW160.out, GE160.out, NB161_160.out, NB160_161.out, GW161.out, GE161.out, (by repeat (first | (with_reducible first | exact HB.out | apply below_alloc | apply pw_below_drewN | apply below_drew1 | refine below_set ?_ GE160.out | refine below_set ?_ GE161.out) | exact HB.out))⟩)
                  · skip
                    refine box_step ?hg (N := 10) ?hd (cs := #[.int .i64 0, .int .i64 0]) (t := 84) ?hr ?_; (case hd => rfl); (case hg => rfl); (case hr => first | (go_simp; done) | (go_simp; rfl))
                    intro gb161 hg w14 hbox hb
                    have n0_ := Aside0.mk (below_step (by repeat (first | (with_reducible first | exact HB.out | apply below_alloc | apply pw_below_drewN | apply below_drew1) | exact HB.out)) hb)
                    have n1_ := Aside0.mk (hbox)
                    have n2_ := Aside0.mk ((by rw [hg]; exact (below_size (by repeat (first | (with_reducible first | exact HB.out | apply below_alloc | apply pw_below_drewN | apply below_drew1) | exact HB.out))) : w.heap.size ≤ gb161))
                    have n3_ := Aside0.mk ((by rw [hg]; exact (below_size (by repeat (first | (with_reducible first | exact HB.out | apply below_alloc | apply pw_below_drewN | apply below_drew1) | exact HB.out))) : w.heap.size ≤ gb161))
                    clear HB
                    have HB := n0_
                    have BK161 := n1_
                    have GW161 := n2_
                    have GE161 := n3_
                    clear n0_ n1_ n2_ n3_
                    clear hb hbox hg
                    refine hK.out _ _ ⟨((HB.out.cell (World.block_lt_of_cell? w _ hw158_0)).trans hw158_0), ((HB.out.cell (World.block_lt_of_cell? w _ hw158_1)).trans hw158_1), ((HB.out.cell (World.block_lt_of_cell? w _ hw159_0)).trans hw159_0), ((HB.out.cell (World.block_lt_of_cell? w _ hw159_1)).trans hw159_1)⟩ (fun hHeld => ?_)
                    clear hK K
                    refine norm_ (a' := ?_) ?_ ?_
                    rotate_left
                    · show Act.put _ (some 10) _ = _
                      simp only [Act.put, List.setIfInBounds_toArray, List.set_cons_zero, List.set_cons_succ, i64_w, i32_w]
                      rfl
                    refine one_ (i := 8) (N := some 9) #[true, true, true, true, true, true, true, true, true, true, false, false] rfl rfl (one_of HT_.out (by kernel_rfl)) (by decide) (fun K hK => ?_)
                    refine box_step ?hg (N := 9) ?hd (cs := #[.int .i64 0, .int .i64 0]) (t := 84) ?hr ?_; (case hd => rfl); (case hg => rfl); (case hr => first | (go_simp; done) | (go_simp; rfl))
                    intro gb160 hg w15 hbox hb
                    have n0_ := Aside0.mk (blk_below (g := gb161) (o := .cells #[.int .i64 0, .int .i64 0] 84 (0, 0)) (by (with_reducible repeat (first | refine blk_drewN ?_ _ | refine blk_drew ?_ | refine blk_alloc ?_ _)); exact BK161.out) hb)
                    have n1_ := Aside0.mk (below_step (by repeat (first | (with_reducible first | exact HB.out | apply below_alloc | apply pw_below_drewN | apply below_drew1 | refine below_set ?_ GE161.out) | exact HB.out)) hb)
                    have n2_ := Aside0.mk (hbox)
                    have n3_ := Aside0.mk ((by rw [hg]; exact (below_size (by repeat (first | (with_reducible first | exact HB.out | apply below_alloc | apply pw_below_drewN | apply below_drew1 | refine below_set ?_ GE161.out) | exact HB.out))) : w.heap.size ≤ gb160))
                    have n4_ := Aside0.mk ((by rw [hg]; exact (below_size (by repeat (first | (with_reducible first | exact HB.out | apply below_alloc | apply pw_below_drewN | apply below_drew1 | refine below_set ?_ GE161.out) | exact HB.out))) : w.heap.size ≤ gb160))
                    have n5_ := Aside0.mk ((by rw [hg]; exact Nat.ne_of_lt (blk_lt (g := gb161) (o := .cells #[.int .i64 0, .int .i64 0] 84 (0, 0)) (by (with_reducible repeat (first | refine blk_drewN ?_ _ | refine blk_drew ?_ | refine blk_alloc ?_ _)); exact BK161.out)) : gb161 ≠ gb160))
                    have n6_ := Aside0.mk ((by rw [hg]; exact Nat.ne_of_gt (blk_lt (g := gb161) (o := .cells #[.int .i64 0, .int .i64 0] 84 (0, 0)) (by (with_reducible repeat (first | refine blk_drewN ?_ _ | refine blk_drew ?_ | refine blk_alloc ?_ _)); exact BK161.out)) : gb160 ≠ gb161))
                    clear BK161
                    clear HB
                    have BK161 := n0_
                    have HB := n1_
                    have BK160 := n2_
                    have GW160 := n3_
                    have GE160 := n4_
                    have NB161_160 := n5_
                    have NB160_161 := n6_
                    clear n0_ n1_ n2_ n3_ n4_ n5_ n6_
                    clear hb hbox hg
                    refine hK.out _ _ ⟨((HB.out.cell (World.block_lt_of_cell? w _ hw158_0)).trans hw158_0), ((HB.out.cell (World.block_lt_of_cell? w _ hw158_1)).trans hw158_1), ((HB.out.cell (World.block_lt_of_cell? w _ hw159_0)).trans hw159_0), ((HB.out.cell (World.block_lt_of_cell? w _ hw159_1)).trans hw159_1)⟩ (fun hHeld => ?_)
                    clear hK K
                    refine norm_ (a' := ?_) ?_ ?_
                    rotate_left
                    · show Act.put _ (some 9) _ = _
                      simp only [Act.put, List.setIfInBounds_toArray, List.set_cons_zero, List.set_cons_succ, i64_w, i32_w]
                      rfl
                    exact norm_ (by simp only [putAll, Act.put, List.setIfInBounds_toArray, List.set_cons_zero, List.set_cons_succ]) (hCont (gb160, gb161) _ ⟨hHeld, (by (with_reducible repeat (first | refine blk_drewN ?_ _ | refine blk_drew ?_ | refine blk_alloc ?_ _)); exact BK160.out), (by (with_reducible repeat (first | refine blk_drewN ?_ _ | refine blk_drew ?_ | refine blk_alloc ?_ _)); exact BK161.out), GW160.out, GE160.out, NB161_160.out, NB160_161.out, GW161.out, GE161.out, (by repeat (first | (with_reducible first | exact HB.out | apply below_alloc | apply pw_below_drewN | apply below_drew1 | refine below_set ?_ GE161.out | refine below_set ?_ GE160.out) | exact HB.out))⟩)
                rintro ⟨gb160, gb161⟩ w16 ⟨hS_, h0_, h1_, h2_, h3_, h4_, h5_, h6_, h7_, h8_⟩
                have n0_ : Aside0 (w16.heap[gb160]? = some (.cells #[.int .i64 0, .int .i64 0] 84 (0, 0))) := ⟨h0_⟩
                have n1_ : Aside0 (w16.heap[gb161]? = some (.cells #[.int .i64 0, .int .i64 0] 84 (0, 0))) := ⟨h1_⟩
                have n2_ : Aside0 (w.heap.size ≤ gb160) := ⟨h2_⟩
                have n3_ : Aside0 (w.heap.size ≤ gb160) := ⟨h3_⟩
                have n4_ : Aside0 (gb161 ≠ gb160) := ⟨h4_⟩
                have n5_ : Aside0 (gb160 ≠ gb161) := ⟨h5_⟩
                have n6_ : Aside0 (w.heap.size ≤ gb161) := ⟨h6_⟩
                have n7_ : Aside0 (w.heap.size ≤ gb161) := ⟨h7_⟩
                have n8_ : Aside0 (Below w.heap.size w w16) := ⟨h8_⟩
                clear HB
                clear h0_ h1_ h2_ h3_ h4_ h5_ h6_ h7_ h8_
                have BK160 := n0_
                have BK161 := n1_
                have GW160 := n2_
                have GE160 := n3_
                have NB161_160 := n4_
                have NB160_161 := n5_
                have GW161 := n6_
                have GE161 := n7_
                have HB := n8_
                clear n0_ n1_ n2_ n3_ n4_ n5_ n6_ n7_ n8_
                have hHeld : w16.cell? (ad158.add ((a1).toNat * 2)) = some (.int .i64 ((rd_T84 l0 a1).f0)) ∧ w16.cell? ⟨(ad158.add ((a1).toNat * 2)).block, (ad158.add ((a1).toNat * 2)).off + 1, none⟩ = some (.int .i64 ((rd_T84 l0 a1).f1)) ∧ w16.cell? (ad158.add ((a2).toNat * 2)) = some (.int .i64 ((rd_T84 l0 a2).f0)) ∧ w16.cell? ⟨(ad158.add ((a2).toNat * 2)).block, (ad158.add ((a2).toNat * 2)).off + 1, none⟩ = some (.int .i64 ((rd_T84 l0 a2).f1)) := hS_
                refine norm_ (a' := ?_) ?_ ?_
                rotate_left
                · simp only [putAll, Act.put, List.setIfInBounds_toArray, List.set_cons_zero, List.set_cons_succ]
                  rfl
                refine one_ (i := 10) (N := none) #[true, true, true, true, true, true, true, true, true, true, true, false] rfl rfl (one_of HT_.out (by kernel_rfl)) (by decide) (fun K hK => ?_)
                have hs17 : w16.cell? ⟨gb160, 0, none⟩ = some (.int .i64 0) := (blk_cell BK160.out 0).trans rfl
                have hfs17 := blk_frozen BK160.out 0
                have hns17_1 := NB161_160.out
                have hms17_1 := NB160_161.out
                have hs18 : w16.cell? ⟨gb160, 1, none⟩ = some (.int .i64 0) := (blk_cell BK160.out 1).trans rfl
                have hfs18 := blk_frozen BK160.out 1
                have hns18_1 := NB161_160.out
                have hms18_1 := NB160_161.out
                refine skip_ (w1 := ?_) (by rfl) rfl ?_ ?_
                rotate_left
                · go_simp
                  rfl
                refine hK.out _ _ ⟨((cell_far (p := ⟨gb160, _, none⟩) (by first | exact Nat.ne_of_lt (Nat.lt_of_lt_of_le (by have := World.block_lt_of_cell? _ _ hw158_0; first | rwa [add_block] at this | exact this) GW160.out) | (rw [add_block]; exact Nat.ne_of_lt (Nat.lt_of_lt_of_le (by have := World.block_lt_of_cell? _ _ hw158_0; first | rwa [add_block] at this | exact this) GW160.out)) | (show (Addr.add _ _).block ≠ _; rw [add_block]; exact Nat.ne_of_lt (Nat.lt_of_lt_of_le (by have := World.block_lt_of_cell? _ _ hw158_0; first | rwa [add_block] at this | exact this) GW160.out)) | (dsimp only; exact Nat.ne_of_lt (Nat.lt_of_lt_of_le (by have := World.block_lt_of_cell? _ _ hw158_0; first | rwa [add_block] at this | exact this) GW160.out))) _).trans (((cell_far (p := ⟨gb160, _, none⟩) (by first | exact Nat.ne_of_lt (Nat.lt_of_lt_of_le (by have := World.block_lt_of_cell? _ _ hw158_0; first | rwa [add_block] at this | exact this) GW160.out) | (rw [add_block]; exact Nat.ne_of_lt (Nat.lt_of_lt_of_le (by have := World.block_lt_of_cell? _ _ hw158_0; first | rwa [add_block] at this | exact this) GW160.out)) | (show (Addr.add _ _).block ≠ _; rw [add_block]; exact Nat.ne_of_lt (Nat.lt_of_lt_of_le (by have := World.block_lt_of_cell? _ _ hw158_0; first | rwa [add_block] at this | exact this) GW160.out)) | (dsimp only; exact Nat.ne_of_lt (Nat.lt_of_lt_of_le (by have := World.block_lt_of_cell? _ _ hw158_0; first | rwa [add_block] at this | exact this) GW160.out))) _).trans (hHeld.1)))), ((cell_far (p := ⟨gb160, _, none⟩) (by first | exact Nat.ne_of_lt (Nat.lt_of_lt_of_le (by have := World.block_lt_of_cell? _ _ hw158_1; first | rwa [add_block] at this | exact this) GW160.out) | (rw [add_block]; exact Nat.ne_of_lt (Nat.lt_of_lt_of_le (by have := World.block_lt_of_cell? _ _ hw158_1; first | rwa [add_block] at this | exact this) GW160.out)) | (show (Addr.add _ _).block ≠ _; rw [add_block]; exact Nat.ne_of_lt (Nat.lt_of_lt_of_le (by have := World.block_lt_of_cell? _ _ hw158_1; first | rwa [add_block] at this | exact this) GW160.out)) | (dsimp only; exact Nat.ne_of_lt (Nat.lt_of_lt_of_le (by have := World.block_lt_of_cell? _ _ hw158_1; first | rwa [add_block] at this | exact this) GW160.out))) _).trans (((cell_far (p := ⟨gb160, _, none⟩) (by first | exact Nat.ne_of_lt (Nat.lt_of_lt_of_le (by have := World.block_lt_of_cell? _ _ hw158_1; first | rwa [add_block] at this | exact this) GW160.out) | (rw [add_block]; exact Nat.ne_of_lt (Nat.lt_of_lt_of_le (by have := World.block_lt_of_cell? _ _ hw158_1; first | rwa [add_block] at this | exact this) GW160.out)) | (show (Addr.add _ _).block ≠ _; rw [add_block]; exact Nat.ne_of_lt (Nat.lt_of_lt_of_le (by have := World.block_lt_of_cell? _ _ hw158_1; first | rwa [add_block] at this | exact this) GW160.out)) | (dsimp only; exact Nat.ne_of_lt (Nat.lt_of_lt_of_le (by have := World.block_lt_of_cell? _ _ hw158_1; first | rwa [add_block] at this | exact this) GW160.out))) _).trans (hHeld.2.1)))), ((cell_far (p := ⟨gb160, _, none⟩) (by first | exact Nat.ne_of_lt (Nat.lt_of_lt_of_le (by have := World.block_lt_of_cell? _ _ hw159_0; first | rwa [add_block] at this | exact this) GW160.out) | (rw [add_block]; exact Nat.ne_of_lt (Nat.lt_of_lt_of_le (by have := World.block_lt_of_cell? _ _ hw159_0; first | rwa [add_block] at this | exact this) GW160.out)) | (show (Addr.add _ _).block ≠ _; rw [add_block]; exact Nat.ne_of_lt (Nat.lt_of_lt_of_le (by have := World.block_lt_of_cell? _ _ hw159_0; first | rwa [add_block] at this | exact this) GW160.out)) | (dsimp only; exact Nat.ne_of_lt (Nat.lt_of_lt_of_le (by have := World.block_lt_of_cell? _ _ hw159_0; first | rwa [add_block] at this | exact this) GW160.out))) _).trans (((cell_far (p := ⟨gb160, _, none⟩) (by first | exact Nat.ne_of_lt (Nat.lt_of_lt_of_le (by have := World.block_lt_of_cell? _ _ hw159_0; first | rwa [add_block] at this | exact this) GW160.out) | (rw [add_block]; exact Nat.ne_of_lt (Nat.lt_of_lt_of_le (by have := World.block_lt_of_cell? _ _ hw159_0; first | rwa [add_block] at this | exact this) GW160.out)) | (show (Addr.add _ _).block ≠ _; rw [add_block]; exact Nat.ne_of_lt (Nat.lt_of_lt_of_le (by have := World.block_lt_of_cell? _ _ hw159_0; first | rwa [add_block] at this | exact this) GW160.out)) | (dsimp only; exact Nat.ne_of_lt (Nat.lt_of_lt_of_le (by have := World.block_lt_of_cell? _ _ hw159_0; first | rwa [add_block] at this | exact this) GW160.out))) _).trans (hHeld.2.2.1)))), ((cell_far (p := ⟨gb160, _, none⟩) (by first | exact Nat.ne_of_lt (Nat.lt_of_lt_of_le (by have := World.block_lt_of_cell? _ _ hw159_1; first | rwa [add_block] at this | exact this) GW160.out) | (rw [add_block]; exact Nat.ne_of_lt (Nat.lt_of_lt_of_le (by have := World.block_lt_of_cell? _ _ hw159_1; first | rwa [add_block] at this | exact this) GW160.out)) | (show (Addr.add _ _).block ≠ _; rw [add_block]; exact Nat.ne_of_lt (Nat.lt_of_lt_of_le (by have := World.block_lt_of_cell? _ _ hw159_1; first | rwa [add_block] at this | exact this) GW160.out)) | (dsimp only; exact Nat.ne_of_lt (Nat.lt_of_lt_of_le (by have := World.block_lt_of_cell? _ _ hw159_1; first | rwa [add_block] at this | exact this) GW160.out))) _).trans (((cell_far (p := ⟨gb160, _, none⟩) (by first | exact Nat.ne_of_lt (Nat.lt_of_lt_of_le (by have := World.block_lt_of_cell? _ _ hw159_1; first | rwa [add_block] at this | exact this) GW160.out) | (rw [add_block]; exact Nat.ne_of_lt (Nat.lt_of_lt_of_le (by have := World.block_lt_of_cell? _ _ hw159_1; first | rwa [add_block] at this | exact this) GW160.out)) | (show (Addr.add _ _).block ≠ _; rw [add_block]; exact Nat.ne_of_lt (Nat.lt_of_lt_of_le (by have := World.block_lt_of_cell? _ _ hw159_1; first | rwa [add_block] at this | exact this) GW160.out)) | (dsimp only; exact Nat.ne_of_lt (Nat.lt_of_lt_of_le (by have := World.block_lt_of_cell? _ _ hw159_1; first | rwa [add_block] at this | exact this) GW160.out))) _).trans (hHeld.2.2.2))))⟩ (fun hHeld => ?_)
                clear hK K
                refine one_ (i := 11) (N := none) #[true, true, true, true, true, true, true, true, true, true, true, true] rfl rfl (one_of HT_.out (by kernel_rfl)) (by decide) (fun K hK => ?_)
                have hs19 : w16.cell? ⟨gb161, 0, none⟩ = some (.int .i64 0) := (blk_cell BK161.out 0).trans rfl
                have hfs19 := blk_frozen BK161.out 0
                have hns19_0 := NB160_161.out
                have hms19_0 := NB161_160.out
                have hs20 : w16.cell? ⟨gb161, 1, none⟩ = some (.int .i64 0) := (blk_cell BK161.out 1).trans rfl
                have hfs20 := blk_frozen BK161.out 1
                have hns20_0 := NB160_161.out
                have hms20_0 := NB161_160.out
                refine skip_ (w1 := ?_) (by rfl) rfl ?_ ?_
                rotate_left
                · go_simp
                  rfl
                refine hK.out _ _ ⟨((cell_far (p := ⟨gb161, _, none⟩) (by first | exact Nat.ne_of_lt (Nat.lt_of_lt_of_le (by have := World.block_lt_of_cell? _ _ hw158_0; first | rwa [add_block] at this | exact this) GW161.out) | (rw [add_block]; exact Nat.ne_of_lt (Nat.lt_of_lt_of_le (by have := World.block_lt_of_cell? _ _ hw158_0; first | rwa [add_block] at this | exact this) GW161.out)) | (show (Addr.add _ _).block ≠ _; rw [add_block]; exact Nat.ne_of_lt (Nat.lt_of_lt_of_le (by have := World.block_lt_of_cell? _ _ hw158_0; first | rwa [add_block] at this | exact this) GW161.out)) | (dsimp only; exact Nat.ne_of_lt (Nat.lt_of_lt_of_le (by have := World.block_lt_of_cell? _ _ hw158_0; first | rwa [add_block] at this | exact this) GW161.out))) _).trans (((cell_far (p := ⟨gb161, _, none⟩) (by first | exact Nat.ne_of_lt (Nat.lt_of_lt_of_le (by have := World.block_lt_of_cell? _ _ hw158_0; first | rwa [add_block] at this | exact this) GW161.out) | (rw [add_block]; exact Nat.ne_of_lt (Nat.lt_of_lt_of_le (by have := World.block_lt_of_cell? _ _ hw158_0; first | rwa [add_block] at this | exact this) GW161.out)) | (show (Addr.add _ _).block ≠ _; rw [add_block]; exact Nat.ne_of_lt (Nat.lt_of_lt_of_le (by have := World.block_lt_of_cell? _ _ hw158_0; first | rwa [add_block] at this | exact this) GW161.out)) | (dsimp only; exact Nat.ne_of_lt (Nat.lt_of_lt_of_le (by have := World.block_lt_of_cell? _ _ hw158_0; first | rwa [add_block] at this | exact this) GW161.out))) _).trans (hHeld.1)))), ((cell_far (p := ⟨gb161, _, none⟩) (by first | exact Nat.ne_of_lt (Nat.lt_of_lt_of_le (by have := World.block_lt_of_cell? _ _ hw158_1; first | rwa [add_block] at this | exact this) GW161.out) | (rw [add_block]; exact Nat.ne_of_lt (Nat.lt_of_lt_of_le (by have := World.block_lt_of_cell? _ _ hw158_1; first | rwa [add_block] at this | exact this) GW161.out)) | (show (Addr.add _ _).block ≠ _; rw [add_block]; exact Nat.ne_of_lt (Nat.lt_of_lt_of_le (by have := World.block_lt_of_cell? _ _ hw158_1; first | rwa [add_block] at this | exact this) GW161.out)) | (dsimp only; exact Nat.ne_of_lt (Nat.lt_of_lt_of_le (by have := World.block_lt_of_cell? _ _ hw158_1; first | rwa [add_block] at this | exact this) GW161.out))) _).trans (((cell_far (p := ⟨gb161, _, none⟩) (by first | exact Nat.ne_of_lt (Nat.lt_of_lt_of_le (by have := World.block_lt_of_cell? _ _ hw158_1; first | rwa [add_block] at this | exact this) GW161.out) | (rw [add_block]; exact Nat.ne_of_lt (Nat.lt_of_lt_of_le (by have := World.block_lt_of_cell? _ _ hw158_1; first | rwa [add_block] at this | exact this) GW161.out)) | (show (Addr.add _ _).block ≠ _; rw [add_block]; exact Nat.ne_of_lt (Nat.lt_of_lt_of_le (by have := World.block_lt_of_cell? _ _ hw158_1; first | rwa [add_block] at this | exact this) GW161.out)) | (dsimp only; exact Nat.ne_of_lt (Nat.lt_of_lt_of_le (by have := World.block_lt_of_cell? _ _ hw158_1; first | rwa [add_block] at this | exact this) GW161.out))) _).trans (hHeld.2.1)))), ((cell_far (p := ⟨gb161, _, none⟩) (by first | exact Nat.ne_of_lt (Nat.lt_of_lt_of_le (by have := World.block_lt_of_cell? _ _ hw159_0; first | rwa [add_block] at this | exact this) GW161.out) | (rw [add_block]; exact Nat.ne_of_lt (Nat.lt_of_lt_of_le (by have := World.block_lt_of_cell? _ _ hw159_0; first | rwa [add_block] at this | exact this) GW161.out)) | (show (Addr.add _ _).block ≠ _; rw [add_block]; exact Nat.ne_of_lt (Nat.lt_of_lt_of_le (by have := World.block_lt_of_cell? _ _ hw159_0; first | rwa [add_block] at this | exact this) GW161.out)) | (dsimp only; exact Nat.ne_of_lt (Nat.lt_of_lt_of_le (by have := World.block_lt_of_cell? _ _ hw159_0; first | rwa [add_block] at this | exact this) GW161.out))) _).trans (((cell_far (p := ⟨gb161, _, none⟩) (by first | exact Nat.ne_of_lt (Nat.lt_of_lt_of_le (by have := World.block_lt_of_cell? _ _ hw159_0; first | rwa [add_block] at this | exact this) GW161.out) | (rw [add_block]; exact Nat.ne_of_lt (Nat.lt_of_lt_of_le (by have := World.block_lt_of_cell? _ _ hw159_0; first | rwa [add_block] at this | exact this) GW161.out)) | (show (Addr.add _ _).block ≠ _; rw [add_block]; exact Nat.ne_of_lt (Nat.lt_of_lt_of_le (by have := World.block_lt_of_cell? _ _ hw159_0; first | rwa [add_block] at this | exact this) GW161.out)) | (dsimp only; exact Nat.ne_of_lt (Nat.lt_of_lt_of_le (by have := World.block_lt_of_cell? _ _ hw159_0; first | rwa [add_block] at this | exact this) GW161.out))) _).trans (hHeld.2.2.1)))), ((cell_far (p := ⟨gb161, _, none⟩) (by first | exact Nat.ne_of_lt (Nat.lt_of_lt_of_le (by have := World.block_lt_of_cell? _ _ hw159_1; first | rwa [add_block] at this | exact this) GW161.out) | (rw [add_block]; exact Nat.ne_of_lt (Nat.lt_of_lt_of_le (by have := World.block_lt_of_cell? _ _ hw159_1; first | rwa [add_block] at this | exact this) GW161.out)) | (show (Addr.add _ _).block ≠ _; rw [add_block]; exact Nat.ne_of_lt (Nat.lt_of_lt_of_le (by have := World.block_lt_of_cell? _ _ hw159_1; first | rwa [add_block] at this | exact this) GW161.out)) | (dsimp only; exact Nat.ne_of_lt (Nat.lt_of_lt_of_le (by have := World.block_lt_of_cell? _ _ hw159_1; first | rwa [add_block] at this | exact this) GW161.out))) _).trans (((cell_far (p := ⟨gb161, _, none⟩) (by first | exact Nat.ne_of_lt (Nat.lt_of_lt_of_le (by have := World.block_lt_of_cell? _ _ hw159_1; first | rwa [add_block] at this | exact this) GW161.out) | (rw [add_block]; exact Nat.ne_of_lt (Nat.lt_of_lt_of_le (by have := World.block_lt_of_cell? _ _ hw159_1; first | rwa [add_block] at this | exact this) GW161.out)) | (show (Addr.add _ _).block ≠ _; rw [add_block]; exact Nat.ne_of_lt (Nat.lt_of_lt_of_le (by have := World.block_lt_of_cell? _ _ hw159_1; first | rwa [add_block] at this | exact this) GW161.out)) | (dsimp only; exact Nat.ne_of_lt (Nat.lt_of_lt_of_le (by have := World.block_lt_of_cell? _ _ hw159_1; first | rwa [add_block] at this | exact this) GW161.out))) _).trans (hHeld.2.2.2))))⟩ (fun hHeld => ?_)
                clear hK K
                refine done_ (done_of HT_.out (by kernel_rfl)) ?_
                have n0_ : Aside0 (((((w16.setCell ⟨gb160, 0, none⟩ (.int .i64 ((rd_T84 l0 a1).f0))).setCell ⟨gb160, 1, none⟩ (.int .i64 ((rd_T84 l0 a1).f1))).setCell ⟨gb161, 0, none⟩ (.int .i64 ((rd_T84 l0 a2).f0))).setCell ⟨gb161, 1, none⟩ (.int .i64 ((rd_T84 l0 a2).f1))).heap[gb160]? = some (.cells #[.int .i64 ((rd_T84 l0 a1).f0), .int .i64 ((rd_T84 l0 a1).f1)] 84 (0, 0))) := ⟨by (with_reducible repeat (first | refine blk_drewN ?_ _ | refine blk_drew ?_ | refine blk_alloc ?_ _)); refine blk_far ?_ NB160_161.out _; (with_reducible repeat (first | refine blk_drewN ?_ _ | refine blk_drew ?_ | refine blk_alloc ?_ _)); refine blk_far ?_ NB160_161.out _; (with_reducible repeat (first | refine blk_drewN ?_ _ | refine blk_drew ?_ | refine blk_alloc ?_ _)); refine blk_put (cs := #[.int .i64 ((rd_T84 l0 a1).f0), .int .i64 0]) ?_ 1 _ rfl; (with_reducible repeat (first | refine blk_drewN ?_ _ | refine blk_drew ?_ | refine blk_alloc ?_ _)); refine blk_put (cs := #[.int .i64 0, .int .i64 0]) ?_ 0 _ rfl; (with_reducible repeat (first | refine blk_drewN ?_ _ | refine blk_drew ?_ | refine blk_alloc ?_ _)); exact BK160.out⟩
                have n1_ : Aside0 (((((w16.setCell ⟨gb160, 0, none⟩ (.int .i64 ((rd_T84 l0 a1).f0))).setCell ⟨gb160, 1, none⟩ (.int .i64 ((rd_T84 l0 a1).f1))).setCell ⟨gb161, 0, none⟩ (.int .i64 ((rd_T84 l0 a2).f0))).setCell ⟨gb161, 1, none⟩ (.int .i64 ((rd_T84 l0 a2).f1))).heap[gb161]? = some (.cells #[.int .i64 ((rd_T84 l0 a2).f0), .int .i64 ((rd_T84 l0 a2).f1)] 84 (0, 0))) := ⟨by (with_reducible repeat (first | refine blk_drewN ?_ _ | refine blk_drew ?_ | refine blk_alloc ?_ _)); refine blk_put (cs := #[.int .i64 ((rd_T84 l0 a2).f0), .int .i64 0]) ?_ 1 _ rfl; (with_reducible repeat (first | refine blk_drewN ?_ _ | refine blk_drew ?_ | refine blk_alloc ?_ _)); refine blk_put (cs := #[.int .i64 0, .int .i64 0]) ?_ 0 _ rfl; (with_reducible repeat (first | refine blk_drewN ?_ _ | refine blk_drew ?_ | refine blk_alloc ?_ _)); refine blk_far ?_ NB161_160.out _; (with_reducible repeat (first | refine blk_drewN ?_ _ | refine blk_drew ?_ | refine blk_alloc ?_ _)); refine blk_far ?_ NB161_160.out _; (with_reducible repeat (first | refine blk_drewN ?_ _ | refine blk_drew ?_ | refine blk_alloc ?_ _)); exact BK161.out⟩
                have n2_ : Aside0 (Below w.heap.size w ((((w16.setCell ⟨gb160, 0, none⟩ (.int .i64 ((rd_T84 l0 a1).f0))).setCell ⟨gb160, 1, none⟩ (.int .i64 ((rd_T84 l0 a1).f1))).setCell ⟨gb161, 0, none⟩ (.int .i64 ((rd_T84 l0 a2).f0))).setCell ⟨gb161, 1, none⟩ (.int .i64 ((rd_T84 l0 a2).f1)))) := ⟨by repeat (first | (with_reducible first | exact HB.out | apply below_alloc | apply pw_below_drewN | apply below_drew1 | refine below_set ?_ GE160.out | refine below_set ?_ GE161.out) | exact HB.out)⟩
                (try clear BK160)
                (try clear BK161)
                (try clear HB)
                generalize ((((w16.setCell ⟨gb160, 0, none⟩ (.int .i64 ((rd_T84 l0 a1).f0))).setCell ⟨gb160, 1, none⟩ (.int .i64 ((rd_T84 l0 a1).f1))).setCell ⟨gb161, 0, none⟩ (.int .i64 ((rd_T84 l0 a2).f0))).setCell ⟨gb161, 1, none⟩ (.int .i64 ((rd_T84 l0 a2).f1))) = w21 at n0_ n1_ n2_ ⊢
                have BK160 := n0_
                have BK161 := n1_
                have HB := n2_
                clear n0_ n1_ n2_
                have hnb22 := NB161_160.out
                have hnc22 := NB160_161.out
                have hcz23_0 : w21.cell? ⟨gb161, 0, none⟩ = some (.int .i64 ((rd_T84 l0 a2).f0)) := (blk_cell BK161.out 0).trans rfl
                have hcz23_1 : w21.cell? ⟨gb161, 1, none⟩ = some (.int .i64 ((rd_T84 l0 a2).f1)) := (blk_cell BK161.out 1).trans rfl
                have hfz23_0 := blk_frozen BK161.out 0
                have hfz23_1 := blk_frozen BK161.out 1
                have hcz24_0 : w21.cell? ⟨gb160, 0, none⟩ = some (.int .i64 ((rd_T84 l0 a1).f0)) := (blk_cell BK160.out 0).trans rfl
                have hcz24_1 : w21.cell? ⟨gb160, 1, none⟩ = some (.int .i64 ((rd_T84 l0 a1).f1)) := (blk_cell BK160.out 1).trans rfl
                have hfz24_0 := blk_frozen BK160.out 0
                have hfz24_1 := blk_frozen BK160.out 1
                have q25 : (a2 : Int) ≤ ((l0.length : Int) : Int) := of_decide_eq_true (by first | (with_reducible assumption) | assumption)
                obtain ⟨i025, hi025, _, hsz25, _⟩ := info_parts info84
                have hroom25 : l0.length ≤ c0 := HC0.out
                have hC25 : Kd.C k84 _ (some ad158) l0.length l0 := HR0.out
                have ql25 : ((ji9) : Int) ≤ (a2 : Int) := of_decide_eq_true (by first | (with_reducible assumption) | assumption)
                have q025 : (0 : Int) ≤ ((ji9) : Int) := of_decide_eq_true (by first | (with_reducible assumption) | assumption)
                have hcut25 := cut_mid (P := Try.prog) 25 84 .i64 .i64 Try.underlying25 hi025 2 hsz25 (some ad158) l0.length c0 (ji9) a2 q025 ql25 q25 hroom25
                have hr25 := Kd.C_mid (lo := ((ji9) : Int).toNat) (hi := (a2 : Int).toNat) (c := c0) hC25 (by omega) (by omega) hroom25
                obtain ⟨A25, hA25⟩ : ∃ A1, A1 = (if c0 = ((ji9) : Int).toNat then (some ad158) else ((some ad158) : Option Addr).map (·.add (((ji9) : Int).toNat * 2))) := ⟨_, rfl⟩
                obtain ⟨c25, hc25⟩ : ∃ c1, c1 = c0 - ((ji9) : Int).toNat := ⟨_, rfl⟩
                have hy25 : y162.length = (a2 : Int).toNat - ((ji9) : Int).toNat := (by rw [Ny162.out, List.length_drop, List.length_take] <;> omega)
                rw [show ((l0).take (a2 : Int).toNat).drop ((ji9) : Int).toNat = y162 from Ny162.out.symm] at hr25
                replace hr25 : Kd.C k84 _ A25 y162.length y162 := (by rw [hA25]; exact hr25)
                rw [← hy25, ← hA25, ← hc25] at hcut25
                have HR165 := Aside0.mk hr25
                have HC165 := Aside0.mk (show y162.length ≤ c25 from by rw [hy25, hc25]; exact Nat.sub_le_sub_right (Nat.le_trans (by omega) hroom25) _)
                clear hr25 hC25 hroom25 hi025 hsz25 hc25
                have KY25 := Aside0.mk hy25
                have KA25 := Aside0.mk hA25
                clear hy25 hA25
                replace q25 := eq_true q25
                try go_wp2
                go_loopg [34] k (fun kq v34 w' => ∃ (x34_1 : Int), v34 = .int .i64 x34_1 ∧ Aside0 (impl_near.l0 kq a3 (wrap64 (((rd_T84 l0 a2).f0) - ((rd_T84 l0 a1).f0))) y162 (y162.length : Int) x34_1 ((rd_T84 l0 a1).f0) ((rd_T84 l0 a1).f1) ((rd_T84 l0 a2).f0) ((rd_T84 l0 a2).f1) = some r) ∧ Aside0 (kq ≤ k) ∧ Aside0 (w'.heap[gb160]? = some (.cells #[.int .i64 ((rd_T84 l0 a1).f0), .int .i64 ((rd_T84 l0 a1).f1)] 84 (0, 0))) ∧ Aside0 (w'.heap[gb161]? = some (.cells #[.int .i64 ((rd_T84 l0 a2).f0), .int .i64 ((rd_T84 l0 a2).f1)] 84 (0, 0))) ∧ Aside0 (Below w.heap.size w w'))
                case atStart => exact ⟨(0), (by first | rfl | (simp; done) | (simp [*]; done)), H', ⟨Nat.le_refl _⟩, ⟨by (with_reducible repeat (first | refine blk_drewN ?_ _ | refine blk_drew ?_ | refine blk_alloc ?_ _)); exact BK160.out⟩, ⟨by (with_reducible repeat (first | refine blk_drewN ?_ _ | refine blk_drew ?_ | refine blk_alloc ?_ _)); exact BK161.out⟩, ⟨by repeat (first | (with_reducible first | exact HB.out | apply below_alloc | apply pw_below_drewN | apply below_drew1 | refine below_set ?_ GE160.out | refine below_set ?_ GE161.out) | exact HB.out)⟩⟩
                case round =>
                  clear H'
                  try clear c1
                  try clear p1
                  try clear q1
                  try clear hx1
                  try clear c2
                  try clear p2
                  try clear q2
                  try clear c5
                  try clear c5b0
                  try clear c6
                  try clear c6b0
                  try clear p6
                  try clear c7
                  try clear c7b0
                  try clear c8
                  try clear c8b0
                  try clear c9
                  try clear c10
                  try clear c10b0
                  try clear c10b1
                  try clear c11
                  try clear c11b0
                  try clear c11b1
                  try clear c12
                  try clear c12b0
                  try clear c12b1
                  try clear p15
                  try clear q15
                  try clear hx15
                  try clear c22
                  try clear c25
                  try clear q25
                  try clear hcz23_0
                  try clear hcz23_1
                  try clear hcz24_0
                  try clear hcz24_1
                  try clear hfz23_0
                  try clear hfz23_1
                  try clear hfz24_0
                  try clear hfz24_1
                  try clear hx158_0
                  try clear hx158_1
                  try clear hx159_0
                  try clear hx159_1
                  try clear p158
                  try clear p159
                  try clear q025
                  try clear q158
                  try clear q159
                  try clear q25
                  obtain ⟨x34_1, rfl, HA, HK1, BK160, BK161, HB⟩ := hrel
                  cases gk with
                  | zero => exact absurd HA.out (by simp [impl_near.l0])
                  | succ k1 =>
                    have H := HA.out
                    clear HA
                    simp only [impl_near.l0] at H
                    by_cases c26 : x34_1 < (y162.length : Int)
                    · rw [if_pos c26] at H
                      have c26b0 : decide (x34_1 < (y162.length : Int)) = true := decide_eq_true c26
                      clear c26
                      by_cases c27 : 0 ≤ x34_1
                      · rw [if_pos c27] at H
                        have c27b0 : decide (0 ≤ x34_1) = true := decide_eq_true c27
                        clear c27
                        by_cases c28 : x34_1 < (y162.length : Int)
                        · rw [if_pos c28] at H
                          have c28b0 : decide (x34_1 < (y162.length : Int)) = true := decide_eq_true c28
                          clear c28
                          obtain ⟨ji29, hji29⟩ : ∃ j_ : Int, (mx (wrap64 ((wrap64 ((wrap64 (((rd_T84 y162 x34_1).f1) - ((rd_T84 l0 a1).f1))) * (wrap64 (((rd_T84 l0 a2).f0) - ((rd_T84 l0 a1).f0))))) - (wrap64 ((wrap64 (((rd_T84 l0 a2).f1) - ((rd_T84 l0 a1).f1))) * (wrap64 (((rd_T84 y162 x34_1).f0) - ((rd_T84 l0 a1).f0))))))) (wrap64 (-(wrap64 ((wrap64 ((wrap64 (((rd_T84 y162 x34_1).f1) - ((rd_T84 l0 a1).f1))) * (wrap64 (((rd_T84 l0 a2).f0) - ((rd_T84 l0 a1).f0))))) - (wrap64 ((wrap64 (((rd_T84 l0 a2).f1) - ((rd_T84 l0 a1).f1))) * (wrap64 (((rd_T84 y162 x34_1).f0) - ((rd_T84 l0 a1).f0)))))))))) = j_ := ⟨_, rfl⟩
                          replace H : (if (ji29) > (wrap64 (a3 * (wrap64 (((rd_T84 l0 a2).f0) - ((rd_T84 l0 a1).f0))))) then (some false) else (impl_near.l0 k1 a3 (wrap64 (((rd_T84 l0 a2).f0) - ((rd_T84 l0 a1).f0))) y162 (y162.length : Int) (wrap64 (x34_1 + 1)) ((rd_T84 l0 a1).f0) ((rd_T84 l0 a1).f1) ((rd_T84 l0 a2).f0) ((rd_T84 l0 a2).f1))) = some r := by first | (rw [hji29] at H; exact H) | (simp only [hji29] at H ⊢; exact H)
                          have hji29_ : (if (wrap64 ((wrap64 ((wrap64 (((rd_T84 y162 x34_1).f1) - ((rd_T84 l0 a1).f1))) * (wrap64 (((rd_T84 l0 a2).f0) - ((rd_T84 l0 a1).f0))))) - (wrap64 ((wrap64 (((rd_T84 l0 a2).f1) - ((rd_T84 l0 a1).f1))) * (wrap64 (((rd_T84 y162 x34_1).f0) - ((rd_T84 l0 a1).f0))))))) < (wrap64 (-(wrap64 ((wrap64 ((wrap64 (((rd_T84 y162 x34_1).f1) - ((rd_T84 l0 a1).f1))) * (wrap64 (((rd_T84 l0 a2).f0) - ((rd_T84 l0 a1).f0))))) - (wrap64 ((wrap64 (((rd_T84 l0 a2).f1) - ((rd_T84 l0 a1).f1))) * (wrap64 (((rd_T84 y162 x34_1).f0) - ((rd_T84 l0 a1).f0))))))))) then (wrap64 (-(wrap64 ((wrap64 ((wrap64 (((rd_T84 y162 x34_1).f1) - ((rd_T84 l0 a1).f1))) * (wrap64 (((rd_T84 l0 a2).f0) - ((rd_T84 l0 a1).f0))))) - (wrap64 ((wrap64 (((rd_T84 l0 a2).f1) - ((rd_T84 l0 a1).f1))) * (wrap64 (((rd_T84 y162 x34_1).f0) - ((rd_T84 l0 a1).f0))))))))) else (wrap64 ((wrap64 ((wrap64 (((rd_T84 y162 x34_1).f1) - ((rd_T84 l0 a1).f1))) * (wrap64 (((rd_T84 l0 a2).f0) - ((rd_T84 l0 a1).f0))))) - (wrap64 ((wrap64 (((rd_T84 l0 a2).f1) - ((rd_T84 l0 a1).f1))) * (wrap64 (((rd_T84 y162 x34_1).f0) - ((rd_T84 l0 a1).f0)))))))) = ji29 := hji29
                          by_cases c30 : (ji29) > (wrap64 (a3 * (wrap64 (((rd_T84 l0 a2).f0) - ((rd_T84 l0 a1).f0)))))
                          · rw [if_pos c30] at H
                            have c30b0 : decide ((wrap64 (a3 * (wrap64 (((rd_T84 l0 a2).f0) - ((rd_T84 l0 a1).f0))))) < (ji29)) = true := decide_eq_true c30
                            clear c30
                            obtain rfl := Option.some.inj H
                            have p166 : 0 ≤ (x34_1 : Int) := of_decide_eq_true (by first | (with_reducible assumption) | assumption)
                            have q166 : x34_1 < (y162.length : Int) := of_decide_eq_true (by first | (with_reducible assumption) | assumption)
                            obtain ⟨ad166, e166, hx166_0, hx166_1⟩ := at_T84 HR165.out x34_1 p166 q166
                            cases e166
                            replace hx166_0 := (HB.out.cell (World.block_lt_of_cell? w _ hx166_0)).trans hx166_0
                            replace hx166_1 := (HB.out.cell (World.block_lt_of_cell? w _ hx166_1)).trans hx166_1
                            replace p166 := eq_true p166
                            replace q166 := eq_true q166
                            go_wp2_with (first | ((with_reducible refine gate_dst (N := 13) rfl ?_); refine box_event ?hg (N := 13) ?hd (cs := #[.int .i64 0, .int .i64 0]) (t := 84) ?hr ?_; (case hd => rfl); (case hg => rfl); (case hr => first | (go_simp; done) | (go_simp; rfl)); intro gb167 hg w31 hbox hb; have n0_ := Aside0.mk (blk_below (g := gb160) (o := .cells #[.int .i64 ((rd_T84 l0 a1).f0), .int .i64 ((rd_T84 l0 a1).f1)] 84 (0, 0)) (by (with_reducible repeat (first | refine blk_drewN ?_ _ | refine blk_drew ?_ | refine blk_alloc ?_ _)); exact BK160.out) hb); have n1_ := Aside0.mk (blk_below (g := gb161) (o := .cells #[.int .i64 ((rd_T84 l0 a2).f0), .int .i64 ((rd_T84 l0 a2).f1)] 84 (0, 0)) (by (with_reducible repeat (first | refine blk_drewN ?_ _ | refine blk_drew ?_ | refine blk_alloc ?_ _)); exact BK161.out) hb); have n2_ := Aside0.mk (below_step (by repeat (first | (with_reducible first | exact HB.out | apply below_alloc | apply pw_below_drewN | apply below_drew1 | refine below_set ?_ GE160.out | refine below_set ?_ GE161.out) | exact HB.out)) hb); have n3_ := Aside0.mk (hbox); have n4_ := Aside0.mk ((by rw [hg]; exact (below_size (by repeat (first | (with_reducible first | exact HB.out | apply below_alloc | apply pw_below_drewN | apply below_drew1 | refine below_set ?_ GE160.out | refine below_set ?_ GE161.out) | exact HB.out))) : w.heap.size ≤ gb167)); have n5_ := Aside0.mk ((by rw [hg]; exact (below_size (by repeat (first | (with_reducible first | exact HB.out | apply below_alloc | apply pw_below_drewN | apply below_drew1 | refine below_set ?_ GE160.out | refine below_set ?_ GE161.out) | exact HB.out))) : w.heap.size ≤ gb167)); have n6_ := Aside0.mk ((by rw [hg]; exact Nat.ne_of_lt (blk_lt (g := gb160) (o := .cells #[.int .i64 ((rd_T84 l0 a1).f0), .int .i64 ((rd_T84 l0 a1).f1)] 84 (0, 0)) (by (with_reducible repeat (first | refine blk_drewN ?_ _ | refine blk_drew ?_ | refine blk_alloc ?_ _)); exact BK160.out)) : gb160 ≠ gb167)); have n7_ := Aside0.mk ((by rw [hg]; exact Nat.ne_of_gt (blk_lt (g := gb160) (o := .cells #[.int .i64 ((rd_T84 l0 a1).f0), .int .i64 ((rd_T84 l0 a1).f1)] 84 (0, 0)) (by (with_reducible repeat (first | refine blk_drewN ?_ _ | refine blk_drew ?_ | refine blk_alloc ?_ _)); exact BK160.out)) : gb167 ≠ gb160)); have n8_ := Aside0.mk ((by rw [hg]; exact Nat.ne_of_lt (blk_lt (g := gb161) (o := .cells #[.int .i64 ((rd_T84 l0 a2).f0), .int .i64 ((rd_T84 l0 a2).f1)] 84 (0, 0)) (by (with_reducible repeat (first | refine blk_drewN ?_ _ | refine blk_drew ?_ | refine blk_alloc ?_ _)); exact BK161.out)) : gb161 ≠ gb167)); have n9_ := Aside0.mk ((by rw [hg]; exact Nat.ne_of_gt (blk_lt (g := gb161) (o := .cells #[.int .i64 ((rd_T84 l0 a2).f0), .int .i64 ((rd_T84 l0 a2).f1)] 84 (0, 0)) (by (with_reducible repeat (first | refine blk_drewN ?_ _ | refine blk_drew ?_ | refine blk_alloc ?_ _)); exact BK161.out)) : gb167 ≠ gb161)); clear BK160; clear BK161; clear HB; have BK160 := n0_; have BK161 := n1_; have HB := n2_; have BK167 := n3_; have GW167 := n4_; have GE167 := n5_; have NB160_167 := n6_; have NB167_160 := n7_; have NB161_167 := n8_; have NB167_161 := n9_; clear n0_ n1_ n2_ n3_ n4_ n5_ n6_ n7_ n8_ n9_; clear hb hbox hg; have hnb32 := NB167_160.out; have hnc32 := NB160_167.out; have hnb33 := NB167_161.out; have hnc33 := NB161_167.out; have hcz34_0 : w31.cell? ⟨gb167, 0, none⟩ = some (.int .i64 0) := (blk_cell BK167.out 0).trans rfl; have hcz34_1 : w31.cell? ⟨gb167, 1, none⟩ = some (.int .i64 0) := (blk_cell BK167.out 1).trans rfl; have hfz34_0 := blk_frozen BK167.out 0; have hfz34_1 := blk_frozen BK167.out 1; have hnb35 := NB160_161.out; have hnc35 := NB161_160.out; have hcz36_0 : w31.cell? ⟨gb160, 0, none⟩ = some (.int .i64 ((rd_T84 l0 a1).f0)) := (blk_cell BK160.out 0).trans rfl; have hcz36_1 : w31.cell? ⟨gb160, 1, none⟩ = some (.int .i64 ((rd_T84 l0 a1).f1)) := (blk_cell BK160.out 1).trans rfl; have hfz36_0 := blk_frozen BK160.out 0; have hfz36_1 := blk_frozen BK160.out 1; have hcz37_0 : w31.cell? ⟨gb161, 0, none⟩ = some (.int .i64 ((rd_T84 l0 a2).f0)) := (blk_cell BK161.out 0).trans rfl; have hcz37_1 : w31.cell? ⟨gb161, 1, none⟩ = some (.int .i64 ((rd_T84 l0 a2).f1)) := (blk_cell BK161.out 1).trans rfl; have hfz37_0 := blk_frozen BK161.out 0; have hfz37_1 := blk_frozen BK161.out 1))
                            go_ret
                            exact ⟨by first | rfl | (simp [errW_none, errW_some] <;> rfl) | (simp only [← hji9, ← hji29]; first | rfl | (simp [errW_none, errW_some] <;> rfl)) | (simp [*, errW_none, errW_some] <;> rfl), by repeat (first | (with_reducible first | exact HB.out | apply below_alloc | apply pw_below_drewN | apply below_drew1 | refine below_set ?_ GE160.out | refine below_set ?_ GE161.out | refine below_set ?_ GE167.out) | exact HB.out)⟩
                          · rw [if_neg c30] at H
                            have c30b0 : decide ((wrap64 (a3 * (wrap64 (((rd_T84 l0 a2).f0) - ((rd_T84 l0 a1).f0))))) < (ji29)) = false := decide_eq_false c30
                            clear c30
                            have H' := Aside0.mk H
                            clear H
                            have p166 : 0 ≤ (x34_1 : Int) := of_decide_eq_true (by first | (with_reducible assumption) | assumption)
                            have q166 : x34_1 < (y162.length : Int) := of_decide_eq_true (by first | (with_reducible assumption) | assumption)
                            obtain ⟨ad166, e166, hx166_0, hx166_1⟩ := at_T84 HR165.out x34_1 p166 q166
                            cases e166
                            replace hx166_0 := (HB.out.cell (World.block_lt_of_cell? w _ hx166_0)).trans hx166_0
                            replace hx166_1 := (HB.out.cell (World.block_lt_of_cell? w _ hx166_1)).trans hx166_1
                            replace p166 := eq_true p166
                            replace q166 := eq_true q166
                            go_wp2_with (first | ((with_reducible refine gate_dst (N := 13) rfl ?_); refine box_event ?hg (N := 13) ?hd (cs := #[.int .i64 0, .int .i64 0]) (t := 84) ?hr ?_; (case hd => rfl); (case hg => rfl); (case hr => first | (go_simp; done) | (go_simp; rfl)); intro gb167 hg w38 hbox hb; have n0_ := Aside0.mk (blk_below (g := gb160) (o := .cells #[.int .i64 ((rd_T84 l0 a1).f0), .int .i64 ((rd_T84 l0 a1).f1)] 84 (0, 0)) (by (with_reducible repeat (first | refine blk_drewN ?_ _ | refine blk_drew ?_ | refine blk_alloc ?_ _)); exact BK160.out) hb); have n1_ := Aside0.mk (blk_below (g := gb161) (o := .cells #[.int .i64 ((rd_T84 l0 a2).f0), .int .i64 ((rd_T84 l0 a2).f1)] 84 (0, 0)) (by (with_reducible repeat (first | refine blk_drewN ?_ _ | refine blk_drew ?_ | refine blk_alloc ?_ _)); exact BK161.out) hb); have n2_ := Aside0.mk (below_step (by repeat (first | (with_reducible first | exact HB.out | apply below_alloc | apply pw_below_drewN | apply below_drew1 | refine below_set ?_ GE160.out | refine below_set ?_ GE161.out) | exact HB.out)) hb); have n3_ := Aside0.mk (hbox); have n4_ := Aside0.mk ((by rw [hg]; exact (below_size (by repeat (first | (with_reducible first | exact HB.out | apply below_alloc | apply pw_below_drewN | apply below_drew1 | refine below_set ?_ GE160.out | refine below_set ?_ GE161.out) | exact HB.out))) : w.heap.size ≤ gb167)); have n5_ := Aside0.mk ((by rw [hg]; exact (below_size (by repeat (first | (with_reducible first | exact HB.out | apply below_alloc | apply pw_below_drewN | apply below_drew1 | refine below_set ?_ GE160.out | refine below_set ?_ GE161.out) | exact HB.out))) : w.heap.size ≤ gb167)); have n6_ := Aside0.mk ((by rw [hg]; exact Nat.ne_of_lt (blk_lt (g := gb160) (o := .cells #[.int .i64 ((rd_T84 l0 a1).f0), .int .i64 ((rd_T84 l0 a1).f1)] 84 (0, 0)) (by (with_reducible repeat (first | refine blk_drewN ?_ _ | refine blk_drew ?_ | refine blk_alloc ?_ _)); exact BK160.out)) : gb160 ≠ gb167)); have n7_ := Aside0.mk ((by rw [hg]; exact Nat.ne_of_gt (blk_lt (g := gb160) (o := .cells #[.int .i64 ((rd_T84 l0 a1).f0), .int .i64 ((rd_T84 l0 a1).f1)] 84 (0, 0)) (by (with_reducible repeat (first | refine blk_drewN ?_ _ | refine blk_drew ?_ | refine blk_alloc ?_ _)); exact BK160.out)) : gb167 ≠ gb160)); have n8_ := Aside0.mk ((by rw [hg]; exact Nat.ne_of_lt (blk_lt (g := gb161) (o := .cells #[.int .i64 ((rd_T84 l0 a2).f0), .int .i64 ((rd_T84 l0 a2).f1)] 84 (0, 0)) (by (with_reducible repeat (first | refine blk_drewN ?_ _ | refine blk_drew ?_ | refine blk_alloc ?_ _)); exact BK161.out)) : gb161 ≠ gb167)); have n9_ := Aside0.mk ((by rw [hg]; exact Nat.ne_of_gt (blk_lt (g := gb161) (o := .cells #[.int .i64 ((rd_T84 l0 a2).f0), .int .i64 ((rd_T84 l0 a2).f1)] 84 (0, 0)) (by (with_reducible repeat (first | refine blk_drewN ?_ _ | refine blk_drew ?_ | refine blk_alloc ?_ _)); exact BK161.out)) : gb167 ≠ gb161)); clear BK160; clear BK161; clear HB; have BK160 := n0_; have BK161 := n1_; have HB := n2_; have BK167 := n3_; have GW167 := n4_; have GE167 := n5_; have NB160_167 := n6_; have NB167_160 := n7_; have NB161_167 := n8_; have NB167_161 := n9_; clear n0_ n1_ n2_ n3_ n4_ n5_ n6_ n7_ n8_ n9_; clear hb hbox hg; have hnb39 := NB167_160.out; have hnc39 := NB160_167.out; have hnb40 := NB167_161.out; have hnc40 := NB161_167.out; have hcz41_0 : w38.cell? ⟨gb167, 0, none⟩ = some (.int .i64 0) := (blk_cell BK167.out 0).trans rfl; have hcz41_1 : w38.cell? ⟨gb167, 1, none⟩ = some (.int .i64 0) := (blk_cell BK167.out 1).trans rfl; have hfz41_0 := blk_frozen BK167.out 0; have hfz41_1 := blk_frozen BK167.out 1; have hnb42 := NB160_161.out; have hnc42 := NB161_160.out; have hcz43_0 : w38.cell? ⟨gb160, 0, none⟩ = some (.int .i64 ((rd_T84 l0 a1).f0)) := (blk_cell BK160.out 0).trans rfl; have hcz43_1 : w38.cell? ⟨gb160, 1, none⟩ = some (.int .i64 ((rd_T84 l0 a1).f1)) := (blk_cell BK160.out 1).trans rfl; have hfz43_0 := blk_frozen BK160.out 0; have hfz43_1 := blk_frozen BK160.out 1; have hcz44_0 : w38.cell? ⟨gb161, 0, none⟩ = some (.int .i64 ((rd_T84 l0 a2).f0)) := (blk_cell BK161.out 0).trans rfl; have hcz44_1 : w38.cell? ⟨gb161, 1, none⟩ = some (.int .i64 ((rd_T84 l0 a2).f1)) := (blk_cell BK161.out 1).trans rfl; have hfz44_0 := blk_frozen BK161.out 0; have hfz44_1 := blk_frozen BK161.out 1))
                            go_roundg k1
                            case measure => have := HK1.out; omega
                            case rel => exact ⟨(wrap64 (x34_1 + 1)), (by first | rfl | (simp; done) | (simp [*]; done)), H', ⟨by have := HK1.out; omega⟩, ⟨by (with_reducible repeat (first | refine blk_drewN ?_ _ | refine blk_drew ?_ | refine blk_alloc ?_ _)); refine blk_far ?_ NB160_167.out _; (with_reducible repeat (first | refine blk_drewN ?_ _ | refine blk_drew ?_ | refine blk_alloc ?_ _)); refine blk_far ?_ NB160_167.out _; (with_reducible repeat (first | refine blk_drewN ?_ _ | refine blk_drew ?_ | refine blk_alloc ?_ _)); exact BK160.out⟩, ⟨by (with_reducible repeat (first | refine blk_drewN ?_ _ | refine blk_drew ?_ | refine blk_alloc ?_ _)); refine blk_far ?_ NB161_167.out _; (with_reducible repeat (first | refine blk_drewN ?_ _ | refine blk_drew ?_ | refine blk_alloc ?_ _)); refine blk_far ?_ NB161_167.out _; (with_reducible repeat (first | refine blk_drewN ?_ _ | refine blk_drew ?_ | refine blk_alloc ?_ _)); exact BK161.out⟩, ⟨by repeat (first | (with_reducible first | exact HB.out | apply below_alloc | apply pw_below_drewN | apply below_drew1 | refine below_set ?_ GE160.out | refine below_set ?_ GE161.out | refine below_set ?_ GE167.out) | exact HB.out)⟩⟩
                        · rw [if_neg c28] at H
                          exact absurd H (by simp)
                      · rw [if_neg c27] at H
                        exact absurd H (by simp)
                    · rw [if_neg c26] at H
                      have c26b0 : decide (x34_1 < (y162.length : Int)) = false := decide_eq_false c26
                      clear c26
                      obtain rfl := Option.some.inj H
                      go_wp2
                      go_ret
                      exact ⟨by first | rfl | (simp [errW_none, errW_some] <;> rfl) | (simp only [← hji9]; first | rfl | (simp [errW_none, errW_some] <;> rfl)) | (simp [*, errW_none, errW_some] <;> rfl), by repeat (first | (with_reducible first | exact HB.out | apply below_alloc | apply pw_below_drewN | apply below_drew1 | refine below_set ?_ GE160.out | refine below_set ?_ GE161.out) | exact HB.out)⟩
              · rw [if_neg c12] at H
                exact absurd H (by simp)
            · rw [if_neg c11] at H
              exact absurd H (by simp)
          · rw [if_neg c10] at H
            exact absurd H (by simp)
        · rw [if_neg c8] at H
          exact absurd H (by simp)
      · rw [if_neg c7] at H
        exact absurd H (by simp)
    · rw [if_neg c6] at H
      exact absurd H (by simp)
  · rw [if_neg c5] at H
    exact absurd H (by simp)

-- NOT PRINTED: function 107 (impl_Point_107)

-- NOT PRINTED: function 108 (impl_Point_108)

/-! ### impl_Point_98: function 98 (own) -/
/-! #### small words -/
def IdxPost {α : Type} (p : α → Bool) (l : List α) (e : Ending) : Prop := ∃ r : Int, e = .returned (.int .i64 r) ∧ (0 ≤ r ↔ l.any p = true)
theorem x_drawn_drew {w : World} {q q' : Nat} : (w.drewN q).drewN q' = w.drewN (q + q') := World.drewN_drewN ..
theorem C_int_cell {k : IntKind} {w : World} {A : Option Addr} {n : Nat} {l : List Int} (h : Kd.C (Kd.int k) w A n l) (i : Nat) (hi : i < n) : ∃ ad, A = some ad ∧ w.cell? (ad.add i) = some (.int k (l.getD i 0)) := by
  obtain ⟨ad, c, e, hl, hK, hc⟩ := Kd.C_get h (0 : Int) (i : Int) (by omega) (by omega)
  have hK' : c = [.int k (l.getD (i : Int).toNat 0)] := hK
  subst hK'
  have := hc 0 _ rfl
  rw [show (i : Int).toNat * (Kd.int k).sz + 0 = i from by show (i : Int).toNat * 1 + 0 = i; omega] at this
  exact ⟨ad, e, this⟩
theorem x_none {α : Type} (p : α → Bool) (l : List α) (d : α) (h : ∀ j, j < l.length → p (l.getD j d) = false) : l.any p = false := by
  rw [List.any_eq_false]
  intro x hx
  obtain ⟨j, hj, rfl⟩ := List.getElem_of_mem hx
  have := h j hj
  rw [List.getD_eq_getElem?_getD, List.getElem?_eq_getElem hj] at this
  simpa using this
theorem x_some {α : Type} (p : α → Bool) (l : List α) (d : α) (j : Nat) (hj : j < l.length) (h : p (l.getD j d) = true) : l.any p = true := by
  rw [List.any_eq_true]
  refine ⟨_, List.getElem_mem hj, ?_⟩
  rw [List.getD_eq_getElem?_getD, List.getElem?_eq_getElem hj] at h
  simpa using h

/-- What is read can be made, and be told as new: an element that leads nowhere. -/
def Flat {α : Type} (d : Kd α) : Prop := ∀ (w : World) (base : Nat) (ok : Nat → Prop) (x : α) (cs : List Value), d.K w x cs → d.M w base ok x cs
theorem C_nil_of_none {α : Type} {d : Kd α} {w : World} {l : List α} (h : Kd.C d w none l.length l) : l = [] := by
  rcases l with _ | ⟨a, l⟩
  · rfl
  · obtain ⟨ad, e, _⟩ := h.2.2 (by simp)
    cases e
theorem R_empty {α : Type} (d : Kd α) (e : Nat) (w : World) : d.R e (w.alloc (.cells #[] e)) w.heap.size (fun _ => True) (.slice (some ⟨w.heap.size, 0, none⟩) 0 0) [] :=
  ⟨fun _ _ => trivial, [], World.ownsRow_made w #[] 0 (Nat.le_refl _) (Nat.zero_le _) (by simp), Reps.none _ _⟩

theorem clip_run {P : Program} (t e : TypeId) {i : TypeInfo} (ht : P.underlying t = some (.slice e)) (hi : P.info? e = some i) (A : Option Addr) (n c : Nat) (hn : n ≤ c) (W : World) :
    (Instr.slice t (.slice A n c) none (some (.int .i64 (n : Int))) (some (.int .i64 (n : Int)))).run P W = .ok (.slice A n n) W := by
  have hel : P.elem t = e := by simp [Program.elem, ht]
  have hu : P.underlying t = some (.slice (P.elem t)) := by rw [hel]; exact ht
  rw [run_slice_hm W t A n c hu .i64 .i64 (n : Int) (n : Int) (by omega) (by omega) (by omega), hel]
  have e0 : A.map (fun x => x.add (0 * i.size)) = A := by
    rw [Nat.zero_mul]
    cases A <;> rfl
  simp [sizeOf, typeInfo, hi, sliced, Result.andThen, Addr.add]


set_option maxHeartbeats 2000000 in
theorem slices_Clone_Point.calls (A0 : Option Addr) (c0 : Nat) (l0 : List S84) (w : World) (hr0 : Kd.C k84 w A0 l0.length l0) (hc0 : l0.length ≤ c0) (hb : l0.length * 16 ≤ 140737488355328) :
    Calls Try.prog 108 #[.slice A0 l0.length c0] w fun e w' => ∃ v0_ : Value, e = .returned v0_ ∧ Kd.R k84 84 w' w.heap.size (fun _ => True) v0_ l0 ∧ Below w.heap.size w w' := by
  have HR := Aside0.mk hr0
  have HB := Aside0.mk hb
  clear hr0 hb
  have q : ∀ (w : World) (a : Option Addr) (n c n' c' : Nat), (binOp .eql 25 (.slice a n c) (.slice none n' c')).run Try.prog w = .ok (.bool a.isNone) w := fun w a n c n' c' => Go.Lib.run_eql_slice_nil w _ _ a n c n' c' Try.underlying25
  cases A0 with
  | none =>
    obtain rfl := C_nil_of_none HR.out
    go_enter Try.func108, Try.ntmps108
    go_wp2
    go_ret
    exact ⟨_, rfl, Kd.R_nil _ _ _ _ _, Below.refl _ _⟩
  | some ad =>
    have flat : Flat k84 := fun _ _ _ _ _ h => by obtain rfl := k84_open h; exact k84_mkM _ _ _ _
    have FL := Aside0.mk flat
    clear flat
    go_enter Try.func108, Try.ntmps108
    go_wp2_with (at_builtin; go_loud (refine Kd.R_append_rows k84 (w0 := w) w.heap.size rfl _ _ 25 84 (.agg #[.int .i64 0, .int .i64 0]) 16 rfl Try.underlying25 (by kernel_rfl) rfl (by decide) (by decide) (.slice (some ⟨w.heap.size, 0, none⟩) 0 0) [] l0 (some ad) l0.length c0 (fun _ => True) (fun _ => False) rfl rfl (R_empty _ _ _) (Kd.C_alloc HR.out _) (fun x cs h => FL.out _ _ _ _ _ h) (fun _ h => h.elim) (fun _ _ => trivial) (below_alloc (Below.refl _ _) _) ?r6 ?r7 ?_))
    case r6 => simp
    case r7 => simpa using HB.out
    intro v1 w1 h1 h2 _ _
    have H1 := Aside0.mk h1
    have H2 := Aside0.mk h2
    clear h1 h2
    go_wp2
    go_ret
    exact ⟨_, rfl, H1.out, H2.out⟩
/-- slices.Clip. -/
theorem slices_Clip_Point.calls (base : Nat) (v : Value) (l0 : List S84) (w : World) (ok : Nat → Prop) (hr : Kd.R k84 84 w base ok v l0) :
    Calls Try.prog 107 #[v] w fun e w' => ∃ v0_ : Value, e = .returned v0_ ∧ Kd.W k84 84 w base ok v0_ l0 ∧ w' = w := by
  obtain ⟨A, c, rfl, hl, _⟩ := Kd.R_reads hr
  have HR := Aside0.mk hr
  clear hr
  have hsl : ∀ W : World, (Instr.slice 25 (.slice A l0.length c) none (some (.int .i64 (l0.length : Int))) (some (.int .i64 (l0.length : Int)))).run Try.prog W = .ok (.slice A l0.length l0.length) W := by
    intro W
    obtain ⟨i0, hi, _⟩ := Option.map_eq_some_iff.1 (show (Try.prog.info? 84).map (fun i => (i.zero, i.size, i.bytes)) = some (some (.agg #[.int .i64 0, .int .i64 0]), 2, 16) by kernel_rfl)
    exact clip_run 25 84 Try.underlying25 hi A _ c hl W
  go_enter Try.func107, Try.ntmps107
  go_wp2
  go_ret
  exact ⟨_, rfl, Kd.W_mk (Nat.le_refl _) HR.out, rfl⟩
def impl_Point_98.f (l0 : List S84) : Option (List S84) := if l0.length * 16 ≤ 140737488355328 then some l0 else none
theorem impl_Point_98.calls (A0 : Option Addr) (c0 : Nat) (l0 : List S84) (r : List S84) (w : World) (hr0 : Kd.C k84 w A0 l0.length l0) (hc0 : l0.length ≤ c0) (h : impl_Point_98.f l0 = some r) :
    Calls Try.prog 98 #[.slice A0 l0.length c0] w fun e w' => ∃ v0_ : Value, e = .returned v0_ ∧ Kd.W k84 84 w' w.heap.size (fun _ => True) v0_ r ∧ Below w.heap.size w w' := by
  unfold impl_Point_98.f at h
  split at h
  · rename_i hb
    obtain rfl := Option.some.inj h
    have H := slices_Clone_Point.calls A0 c0 l0 w hr0 hc0 hb
    clear hr0 hc0 hb h
    go_enter Try.func98, Try.ntmps98
    go_wp2_with fail
    refine H.mono ?_
    rintro e w1 ⟨v1, rfl, hv, hB⟩
    have H2 := slices_Clip_Point.calls w.heap.size v1 l0 w1 (fun _ => True) hv
    have HB := Aside0.mk hB
    clear hv hB
    go_wp2_with fail
    refine H2.mono ?_
    rintro e w2 ⟨v2, rfl, hv, rfl⟩
    have HV := Aside0.mk hv
    clear hv
    go_wp2
    go_ret
    exact ⟨_, rfl, HV.out, HB.out⟩
  · cases h


end Go.Proofs.Ythbbhdadioiefaa.QFnCompressLine
