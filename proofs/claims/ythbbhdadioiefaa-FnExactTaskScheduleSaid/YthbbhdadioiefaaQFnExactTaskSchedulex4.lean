-- Written by wip/pr2.py: a program of this session's own, which runs the kit's print over contracts of its own.
import Derived.Test.YthbbhdadioiefaaQFnExactTaskSchedulex3
namespace Go.Proofs.Ythbbhdadioiefaa.QFnExactTaskSchedule
open Go.RowKit Go.Proofs.YthbbhdadioiefaaW.PrintWords Go.Proofs.YthbbhdadioiefaaW.PrintLast Go.Proofs.YthbbhdadioiefaaW.PrintMore
attribute [local go_sem] max2_int min2_int max_two min_two max_three min_three max_four min_four   -- for this text's walks alone
set_option linter.unusedVariables false
set_option linter.unusedSimpArgs false

/-! ### laws_markTaskS: function 68 -/
def laws_markTaskS.l0 : Nat → List (S96) → Int → Int → Option (Int × (List (S96)))
  | 0, _, _, _ => none
  | k + 1, x0, x1, x5 => if x5 < (x0.length : Int) then (if 0 ≤ x5 then ((some (x0.set (x5 : Int).toNat (⟨x1, (rd_T96 x0 x5).f1, (rd_T96 x0 x5).f2⟩ : S96) : List (S96))).bind fun y196 => ((some (y196.set (x5 : Int).toNat (⟨(rd_T96 y196 x5).f0, wrap64 (x1 + 1), (rd_T96 y196 x5).f2⟩ : S96) : List (S96))).bind fun y197 => (laws_markTaskS.l0 k (y197.set (x5 : Int).toNat (⟨(rd_T96 y197 x5).f0, (rd_T96 y197 x5).f1, wrap64 ((wrap64 (x1 + 1)) + 1)⟩ : S96)) (wrap64 ((wrap64 ((wrap64 (x1 + 1)) + 1)) + 1)) (wrap64 (x5 + 1))))) else (none)) else (some (x1, x0))
def laws_markTaskS.f (k : Nat) (l0 : List (S96)) (a1 : Int) : Option (Int × (List (S96))) := laws_markTaskS.l0 k l0 a1 0
theorem laws_markTaskS.mono_l : ∀ k, (∀ y0 y1 y2, LeO (laws_markTaskS.l0 k y0 y1 y2) (laws_markTaskS.l0 (k + 1) y0 y1 y2))
  | 0 => fun _ _ _ r h => by simp [laws_markTaskS.l0] at h
  | k + 1 => by
    have ih0 := laws_markTaskS.mono_l k
    · intro y0 y1 y2
      unfold laws_markTaskS.l0
      repeat' first
      | (with_reducible exact ih0 _ _ _)
      | (with_reducible exact LeO.refl _)
      | (with_reducible exact LeO.none _)
      | (with_reducible refine LeO.ite ?_ ?_)
      | (with_reducible refine LeO.bind ?_ (fun _ => ?_))
      | exact ih0 _ _ _
      | exact LeO.none _
      | refine LeO.ite ?_ ?_
      | refine LeO.bind ?_ (fun _ => ?_)
theorem laws_markTaskS.mono : ∀ a0 a1 k, LeO (laws_markTaskS.f k a0 a1) (laws_markTaskS.f (k + 1) a0 a1) := by
  intro a0 a1 k
  have ih0 := laws_markTaskS.mono_l k
  unfold laws_markTaskS.f
  repeat' first
      | (with_reducible exact ih0 _ _ _)
      | (with_reducible exact LeO.refl _)
      | (with_reducible exact LeO.none _)
      | (with_reducible refine LeO.ite ?_ ?_)
      | (with_reducible refine LeO.bind ?_ (fun _ => ?_))
      | exact ih0 _ _ _
      | exact LeO.none _
      | refine LeO.ite ?_ ?_
      | refine LeO.bind ?_ (fun _ => ?_)
set_option maxHeartbeats 8000000 in
set_option maxRecDepth 100000 in
theorem laws_markTaskS.calls (k : Nat) (P0_ : Nat → Prop) (u9000_ : Value) (l0 : List (S96)) (a1 : Int) (r1 : Int) (r2 : List (S96)) (w0 w : World) (hB : Below w0.heap.size w0 w) (ho0 : Kd.R k96 96 w w0.heap.size P0_ u9000_ l0) (h : laws_markTaskS.f k l0 a1 = some (r1, r2)) :
    Calls Try.prog 68 #[u9000_, .int .i64 a1] w fun e w' => e = .returned (.int .i64 r1) ∧ Kd.R k96 96 w' w0.heap.size (fun k_ => (P0_ k_ ∨ w.heap.size ≤ k_)) u9000_ r2 ∧ Below w0.heap.size w0 w' ∧ Kept w w' (fun k_ => P0_ k_) := by
  have HO0 := Aside0.mk (show Kd.R k96 96 w w0.heap.size (fun k_ => (P0_ k_ ∨ w.heap.size ≤ k_)) u9000_ l0 from Kd.R_mono ho0 (fun k_ hk => (.inl hk)))
  have HK := Aside0.mk (Kept.refl w (fun k_ => P0_ k_))
  have HW0 := Aside0.mk hB.size
  have HB := Aside0.mk hB
  clear hB
  have H : (laws_markTaskS.l0 k l0 a1 0) = some (r1, r2) := h
  clear h
  have H' := Aside0.mk H
  clear H
  go_enter Try.func68, Try.ntmps68
  go_wp2
  go_loopg [1, 5] k (fun kq v1 v5 w' => ∃ (x0_1 : List (S96)) (x1_1 : Int) (x5_1 : Int), v1 = .int .i64 x1_1 ∧ v5 = .int .i64 x5_1 ∧ Aside0 (laws_markTaskS.l0 kq x0_1 x1_1 x5_1 = some (r1, r2)) ∧ Aside0 (kq ≤ k) ∧ Aside0 (Kd.R k96 96 w' w0.heap.size (fun k_ => (P0_ k_ ∨ w.heap.size ≤ k_)) u9000_ x0_1) ∧ Aside0 (Kept w w' (fun k_ => P0_ k_)) ∧ Aside0 (Below w0.heap.size w0 w'))
  case atStart => exact ⟨(l0), (a1), (0), (by first | rfl | (simp; done) | (simp [*]; done)), (by first | rfl | (simp; done) | (simp [*]; done)), H', ⟨Nat.le_refl _⟩, ⟨by (with_reducible repeat (first | apply Kd.R_alloc | apply Kd.R_drewN | apply Kd.R_drew)); exact HO0.out⟩, ⟨by repeat (first | (with_reducible first | exact HK.out | apply Kept.alloc | apply Kept.drewN | apply Kept.drew) | exact HK.out)⟩, ⟨by repeat (first | (with_reducible first | exact HB.out | apply below_alloc | apply pw_below_drewN | apply below_drew1) | exact HB.out)⟩⟩
  clear H'
  try clear p2
  obtain ⟨x0_1, x1_1, x5_1, rfl, rfl, HA, HK1, HO_0, HK, HB⟩ := hrel
  rcases gk with _ | k1
  · exact absurd HA.out (by simp [laws_markTaskS.l0])
  have H := HA.out
  clear HA
  simp only [laws_markTaskS.l0] at H
  by_cases c3 : x5_1 < (x0_1.length : Int)
  rotate_left
  · rw [if_neg c3] at H
    have c3b0 : decide (x5_1 < (x0_1.length : Int)) = false := decide_eq_false c3
    clear c3
    simp only [Option.some.injEq, Prod.mk.injEq] at H
    obtain ⟨rfl, rfl⟩ := H
    obtain ⟨Ao15, co15, eo15⟩ := Kd.R_slice HO_0.out
    subst eo15
    go_wp2
    go_ret
    exact ⟨by first | rfl | (simp [errW_none, errW_some] <;> rfl) | (simp [*, errW_none, errW_some] <;> rfl), by (with_reducible repeat (first | apply Kd.R_alloc | apply Kd.R_drewN | apply Kd.R_drew)); exact HO_0.out, by repeat (first | (with_reducible first | exact HB.out | apply below_alloc | apply pw_below_drewN | apply below_drew1) | exact HB.out), by repeat (first | (with_reducible first | exact HK.out | apply Kept.alloc | apply Kept.drewN | apply Kept.drew) | exact HK.out)⟩
  rw [if_pos c3] at H
  have c3b0 : decide (x5_1 < (x0_1.length : Int)) = true := decide_eq_true c3
  clear c3
  by_cases c4 : 0 ≤ x5_1
  rotate_left
  · rw [if_neg c4] at H
    exact absurd H (by simp)
  rw [if_pos c4] at H
  have c4b0 : decide (0 ≤ x5_1) = true := decide_eq_true c4
  clear c4
  obtain ⟨y196, hy196⟩ : ∃ y_ : List (S96), y_ = (x0_1.set (x5_1 : Int).toNat (⟨x1_1, (rd_T96 x0_1 x5_1).f1, (rd_T96 x0_1 x5_1).f2⟩ : S96)) := ⟨_, rfl⟩
  replace H : ((some (y196.set (x5_1 : Int).toNat (⟨(rd_T96 y196 x5_1).f0, wrap64 (x1_1 + 1), (rd_T96 y196 x5_1).f2⟩ : S96) : List (S96))).bind fun y197 => (laws_markTaskS.l0 k1 (y197.set (x5_1 : Int).toNat (⟨(rd_T96 y197 x5_1).f0, (rd_T96 y197 x5_1).f1, wrap64 ((wrap64 (x1_1 + 1)) + 1)⟩ : S96)) (wrap64 ((wrap64 ((wrap64 (x1_1 + 1)) + 1)) + 1)) (wrap64 (x5_1 + 1)))) = some (r1, r2) := by first | (rw [hy196]; with_reducible exact H) | (have H2_ := (Option.bind_some _ _).symm.trans H; rw [hy196]; with_reducible exact H2_) | (have H2_ := (Option.bind_some _ _).symm.trans H; with_reducible exact H2_) | with_reducible exact H | (rw [hy196]; exact H) | exact H
  have Ny196 := Aside0.mk hy196
  clear hy196
  obtain ⟨y197, hy197⟩ : ∃ y_ : List (S96), y_ = (y196.set (x5_1 : Int).toNat (⟨(rd_T96 y196 x5_1).f0, wrap64 (x1_1 + 1), (rd_T96 y196 x5_1).f2⟩ : S96)) := ⟨_, rfl⟩
  replace H : (laws_markTaskS.l0 k1 (y197.set (x5_1 : Int).toNat (⟨(rd_T96 y197 x5_1).f0, (rd_T96 y197 x5_1).f1, wrap64 ((wrap64 (x1_1 + 1)) + 1)⟩ : S96)) (wrap64 ((wrap64 ((wrap64 (x1_1 + 1)) + 1)) + 1)) (wrap64 (x5_1 + 1))) = some (r1, r2) := by first | (rw [hy197]; with_reducible exact H) | (have H2_ := (Option.bind_some _ _).symm.trans H; rw [hy197]; with_reducible exact H2_) | (have H2_ := (Option.bind_some _ _).symm.trans H; with_reducible exact H2_) | with_reducible exact H | (rw [hy197]; exact H) | exact H
  have Ny197 := Aside0.mk hy197
  clear hy197
  obtain ⟨y198, hy198⟩ : ∃ y_ : List (S96), y_ = (y197.set (x5_1 : Int).toNat (⟨(rd_T96 y197 x5_1).f0, (rd_T96 y197 x5_1).f1, wrap64 ((wrap64 (x1_1 + 1)) + 1)⟩ : S96)) := ⟨_, rfl⟩
  replace H : (laws_markTaskS.l0 k1 y198 (wrap64 ((wrap64 ((wrap64 (x1_1 + 1)) + 1)) + 1)) (wrap64 (x5_1 + 1))) = some (r1, r2) := by first | (rw [hy198]; with_reducible exact H) | (have H2_ := (Option.bind_some _ _).symm.trans H; rw [hy198]; with_reducible exact H2_) | (have H2_ := (Option.bind_some _ _).symm.trans H; with_reducible exact H2_) | with_reducible exact H | (rw [hy198]; exact H) | exact H
  have Ny198 := Aside0.mk hy198
  clear hy198
  have H' := Aside0.mk H
  clear H
  obtain ⟨Ao8, co8, eo8⟩ := Kd.R_slice HO_0.out
  subst eo8
  have p5 : 0 ≤ (x5_1 : Int) := of_decide_eq_true (by with_reducible assumption)
  have q5 : (x5_1 : Int) < ((x0_1.length : Int) : Int) := of_decide_eq_true (by with_reducible assumption)
  obtain ⟨go5, co5, eo5, gb5, gl5, cl5, HG5⟩ := Kd.R_form HO_0.out (by omega)
  (first | cases eo5 | (injection eo5 with ea_ en_ ec_; (first | subst ea_ | (injection ea_ with ea_; subst ea_)); subst ec_; clear en_))
  have GB5 := Aside0.mk gb5
  have GG5 := Aside0.mk HG5
  clear gb5 gl5 HG5
  have HMgo5 := Aside0.mk (show (P0_ go5 ∨ w.heap.size ≤ go5) from (HO_0.out.1 _ rfl))
  obtain ⟨ce5, hcl5, hM5, hcc5, hfr5⟩ := Kd.R_elem HO_0.out z96 (x5_1 : Int) p5 q5
  obtain rfl := k96_openM hM5
  have hx5_0 : wr.cell? ⟨go5, (x5_1 : Int).toNat * 3, none⟩ = some (.int .i64 ((rd_T96 x0_1 x5_1).f0)) := hcc5 0 _ rfl
  have hx5_1 : wr.cell? ⟨go5, (x5_1 : Int).toNat * 3 + 1, none⟩ = some (.int .i64 ((rd_T96 x0_1 x5_1).f1)) := hcc5 1 _ rfl
  have hx5_2 : wr.cell? ⟨go5, (x5_1 : Int).toNat * 3 + 2, none⟩ = some (.int .i64 ((rd_T96 x0_1 x5_1).f2)) := hcc5 2 _ rfl
  have hf5_0 : wr.frozen? ⟨go5, (x5_1 : Int).toNat * 3, none⟩ = false := hfr5 0
  have hf5_1 : wr.frozen? ⟨go5, (x5_1 : Int).toNat * 3 + 1, none⟩ = false := hfr5 1
  have hf5_2 : wr.frozen? ⟨go5, (x5_1 : Int).toNat * 3 + 2, none⟩ = false := hfr5 2
  clear hcl5 hcc5 hfr5 hM5
  replace p5 := eq_true p5
  replace q5 := eq_true q5
  have HX9 := Aside0.mk (show Kd.R k96 96 wr w0.heap.size (fun k_ => (P0_ k_ ∨ w.heap.size ≤ k_)) (.slice (some ⟨go5, 0, none⟩) x0_1.length co8) x0_1 from (by (with_reducible repeat (first | apply Kd.R_alloc | apply Kd.R_drewN | apply Kd.R_drew)); exact HO_0.out))
  obtain ⟨ce9, hcl9, hM9, hcc9, hfr9⟩ := Kd.R_elem HX9.out z96 (x5_1 : Int) (of_decide_eq_true (by with_reducible assumption)) (by have h_ : (x5_1 : Int) < ((x0_1.length : Int) : Int) := of_decide_eq_true (by with_reducible assumption); first | exact h_ | (have e_ := (Kd.R_reads' HO_0.out).1; omega) | simpa using h_)
  obtain rfl := k96_openM hM9
  have HP9 := Kd.R_seg HX9.out (x5_1 : Int) (of_decide_eq_true (by with_reducible assumption)) (by have h_ : (x5_1 : Int) < ((x0_1.length : Int) : Int) := of_decide_eq_true (by with_reducible assumption); first | exact h_ | (have e_ := (Kd.R_reads' HO_0.out).1; omega) | simpa using h_) (seg := [.int .i64 x1_1]) (j := 0) hcl9 hcc9 (show 1 ≤ 3 from by decide) (x' := (⟨x1_1, (rd_T96 x0_1 x5_1).f1, (rd_T96 x0_1 x5_1).f2⟩ : S96)) (k96_mkM _ _ _ (⟨x1_1, (rd_T96 x0_1 x5_1).f1, (rd_T96 x0_1 x5_1).f2⟩ : S96) ) (fun _ hk => hk)
  have hx9_0 := hcc9 0 _ rfl
  (try simp only [show (k96).sz = 3 from rfl, Nat.mul_one, Nat.add_zero] at hx9_0)
  have hf9_0 := hfr9 0
  (try simp only [show (k96).sz = 3 from rfl, Nat.mul_one, Nat.add_zero] at hf9_0)
  clear hcl9 hcc9 hfr9 hM9
  go_wp2_with (first | ((with_reducible refine gate_store (t := 3) (p := 16) rfl ?_); refine store_event (t := 3) (p := 16) (v := ?vo_w10) (w1 := (wr.setCell ⟨go5, (x5_1 : Int).toNat * 3, none⟩ (.int .i64 x1_1))) ?hg ?ho ?hn ?hr ?_; (case ho => rfl); (case hg => rfl); (case hn => rfl); (case hr => first | (go_simp; done) | (go_simp; rfl)); intro w10 hw; have hg : wr.grownBy w10 (some go5) := (by rw [hw]; exact HP9.2); have hp_ : Kd.R k96 96 w10 w0.heap.size (fun k_ => (P0_ k_ ∨ w.heap.size ≤ k_)) (.slice (some ⟨go5, 0, none⟩) x0_1.length co8) y196 := (by rw [hw, Ny196.out]; exact HP9.1); clear HP9; have n0_ := Aside0.mk (hp_); have n1_ := Aside0.mk ((by rw [hw]; exact below_set (HB.out) GB5.out : Below w0.heap.size w0 w10)); have n2_ := Aside0.mk (Kept.of_grown (S := (fun k_ => P0_ k_)) hg (by repeat (first | (with_reducible first | exact HK.out | apply Kept.alloc | apply Kept.drewN | apply Kept.drew) | exact HK.out)) (fun k_ e_ => (HO_0.out.1 k_ e_))); clear HO_0; clear HB; clear HK; have HO_0 := n0_; have HB := n1_; have HK := n2_; clear n0_ n1_ n2_; clear hg hw hp_; have p6 : 0 ≤ (x5_1 : Int) := of_decide_eq_true (by with_reducible assumption); have q6 : (x5_1 : Int) < ((x0_1.length : Int) : Int) := of_decide_eq_true (by with_reducible assumption); obtain ⟨ce6, hcl6, hM6, hcc6, hfr6⟩ := Kd.R_elem HO_0.out z96 (x5_1 : Int) p6 q6; obtain rfl := k96_openM hM6; have hx6_0 : w10.cell? ⟨go5, (x5_1 : Int).toNat * 3, none⟩ = some (.int .i64 ((rd_T96 y196 x5_1).f0)) := hcc6 0 _ rfl; have hx6_1 : w10.cell? ⟨go5, (x5_1 : Int).toNat * 3 + 1, none⟩ = some (.int .i64 ((rd_T96 y196 x5_1).f1)) := hcc6 1 _ rfl; have hx6_2 : w10.cell? ⟨go5, (x5_1 : Int).toNat * 3 + 2, none⟩ = some (.int .i64 ((rd_T96 y196 x5_1).f2)) := hcc6 2 _ rfl; have hf6_0 : w10.frozen? ⟨go5, (x5_1 : Int).toNat * 3, none⟩ = false := hfr6 0; have hf6_1 : w10.frozen? ⟨go5, (x5_1 : Int).toNat * 3 + 1, none⟩ = false := hfr6 1; have hf6_2 : w10.frozen? ⟨go5, (x5_1 : Int).toNat * 3 + 2, none⟩ = false := hfr6 2; clear hcl6 hcc6 hfr6 hM6; replace p6 := eq_true p6; replace q6 := eq_true q6; have HX11 := Aside0.mk (show Kd.R k96 96 w10 w0.heap.size (fun k_ => (P0_ k_ ∨ w.heap.size ≤ k_)) (.slice (some ⟨go5, 0, none⟩) x0_1.length co8) y196 from (by (with_reducible repeat (first | apply Kd.R_alloc | apply Kd.R_drewN | apply Kd.R_drew)); exact HO_0.out)); obtain ⟨ce11, hcl11, hM11, hcc11, hfr11⟩ := Kd.R_elem HX11.out z96 (x5_1 : Int) (of_decide_eq_true (by with_reducible assumption)) (by have h_ : (x5_1 : Int) < ((x0_1.length : Int) : Int) := of_decide_eq_true (by with_reducible assumption); first | exact h_ | (have e_ := (Kd.R_reads' HO_0.out).1; omega) | simpa using h_); obtain rfl := k96_openM hM11; have HP11 := Kd.R_seg HX11.out (x5_1 : Int) (of_decide_eq_true (by with_reducible assumption)) (by have h_ : (x5_1 : Int) < ((x0_1.length : Int) : Int) := of_decide_eq_true (by with_reducible assumption); first | exact h_ | (have e_ := (Kd.R_reads' HO_0.out).1; omega) | simpa using h_) (seg := [.int .i64 (wrap64 (x1_1 + 1))]) (j := 1) hcl11 hcc11 (show 2 ≤ 3 from by decide) (x' := (⟨(rd_T96 y196 x5_1).f0, wrap64 (x1_1 + 1), (rd_T96 y196 x5_1).f2⟩ : S96)) (k96_mkM _ _ _ (⟨(rd_T96 y196 x5_1).f0, wrap64 (x1_1 + 1), (rd_T96 y196 x5_1).f2⟩ : S96) ) (fun _ hk => hk); have hx11_1 := hcc11 1 _ rfl; (try simp only [show (k96).sz = 3 from rfl, Nat.mul_one, Nat.add_zero] at hx11_1); have hf11_1 := hfr11 1; (try simp only [show (k96).sz = 3 from rfl, Nat.mul_one, Nat.add_zero] at hf11_1); clear hcl11 hcc11 hfr11 hM11) | ((with_reducible refine gate_store (t := 3) (p := 23) rfl ?_); refine store_event (t := 3) (p := 23) (v := ?vo_w12) (w1 := (w10.setCell ⟨go5, (x5_1 : Int).toNat * 3 + 1, none⟩ (.int .i64 (wrap64 (x1_1 + 1))))) ?hg ?ho ?hn ?hr ?_; (case ho => rfl); (case hg => rfl); (case hn => rfl); (case hr => first | (go_simp; done) | (go_simp; rfl)); intro w12 hw; have hg : w10.grownBy w12 (some go5) := (by rw [hw]; exact HP11.2); have hp_ : Kd.R k96 96 w12 w0.heap.size (fun k_ => (P0_ k_ ∨ w.heap.size ≤ k_)) (.slice (some ⟨go5, 0, none⟩) x0_1.length co8) y197 := (by rw [hw, Ny197.out]; exact HP11.1); clear HP11; have n0_ := Aside0.mk (hp_); have n1_ := Aside0.mk ((by rw [hw]; exact below_set (HB.out) GB5.out : Below w0.heap.size w0 w12)); have n2_ := Aside0.mk (Kept.of_grown (S := (fun k_ => P0_ k_)) hg (by repeat (first | (with_reducible first | exact HK.out | apply Kept.alloc | apply Kept.drewN | apply Kept.drew) | exact HK.out)) (fun k_ e_ => (HO_0.out.1 k_ e_))); clear HO_0; clear HB; clear HK; have HO_0 := n0_; have HB := n1_; have HK := n2_; clear n0_ n1_ n2_; clear hg hw hp_; have p7 : 0 ≤ (x5_1 : Int) := of_decide_eq_true (by with_reducible assumption); have q7 : (x5_1 : Int) < ((x0_1.length : Int) : Int) := of_decide_eq_true (by with_reducible assumption); obtain ⟨ce7, hcl7, hM7, hcc7, hfr7⟩ := Kd.R_elem HO_0.out z96 (x5_1 : Int) p7 q7; obtain rfl := k96_openM hM7; have hx7_0 : w12.cell? ⟨go5, (x5_1 : Int).toNat * 3, none⟩ = some (.int .i64 ((rd_T96 y197 x5_1).f0)) := hcc7 0 _ rfl; have hx7_1 : w12.cell? ⟨go5, (x5_1 : Int).toNat * 3 + 1, none⟩ = some (.int .i64 ((rd_T96 y197 x5_1).f1)) := hcc7 1 _ rfl; have hx7_2 : w12.cell? ⟨go5, (x5_1 : Int).toNat * 3 + 2, none⟩ = some (.int .i64 ((rd_T96 y197 x5_1).f2)) := hcc7 2 _ rfl; have hf7_0 : w12.frozen? ⟨go5, (x5_1 : Int).toNat * 3, none⟩ = false := hfr7 0; have hf7_1 : w12.frozen? ⟨go5, (x5_1 : Int).toNat * 3 + 1, none⟩ = false := hfr7 1; have hf7_2 : w12.frozen? ⟨go5, (x5_1 : Int).toNat * 3 + 2, none⟩ = false := hfr7 2; clear hcl7 hcc7 hfr7 hM7; replace p7 := eq_true p7; replace q7 := eq_true q7; have HX13 := Aside0.mk (show Kd.R k96 96 w12 w0.heap.size (fun k_ => (P0_ k_ ∨ w.heap.size ≤ k_)) (.slice (some ⟨go5, 0, none⟩) x0_1.length co8) y197 from (by (with_reducible repeat (first | apply Kd.R_alloc | apply Kd.R_drewN | apply Kd.R_drew)); exact HO_0.out)); obtain ⟨ce13, hcl13, hM13, hcc13, hfr13⟩ := Kd.R_elem HX13.out z96 (x5_1 : Int) (of_decide_eq_true (by with_reducible assumption)) (by have h_ : (x5_1 : Int) < ((x0_1.length : Int) : Int) := of_decide_eq_true (by with_reducible assumption); first | exact h_ | (have e_ := (Kd.R_reads' HO_0.out).1; omega) | simpa using h_); obtain rfl := k96_openM hM13; have HP13 := Kd.R_seg HX13.out (x5_1 : Int) (of_decide_eq_true (by with_reducible assumption)) (by have h_ : (x5_1 : Int) < ((x0_1.length : Int) : Int) := of_decide_eq_true (by with_reducible assumption); first | exact h_ | (have e_ := (Kd.R_reads' HO_0.out).1; omega) | simpa using h_) (seg := [.int .i64 (wrap64 ((wrap64 (x1_1 + 1)) + 1))]) (j := 2) hcl13 hcc13 (show 3 ≤ 3 from by decide) (x' := (⟨(rd_T96 y197 x5_1).f0, (rd_T96 y197 x5_1).f1, wrap64 ((wrap64 (x1_1 + 1)) + 1)⟩ : S96)) (k96_mkM _ _ _ (⟨(rd_T96 y197 x5_1).f0, (rd_T96 y197 x5_1).f1, wrap64 ((wrap64 (x1_1 + 1)) + 1)⟩ : S96) ) (fun _ hk => hk); have hx13_2 := hcc13 2 _ rfl; (try simp only [show (k96).sz = 3 from rfl, Nat.mul_one, Nat.add_zero] at hx13_2); have hf13_2 := hfr13 2; (try simp only [show (k96).sz = 3 from rfl, Nat.mul_one, Nat.add_zero] at hf13_2); clear hcl13 hcc13 hfr13 hM13) | ((with_reducible refine gate_store (t := 3) (p := 30) rfl ?_); refine store_event (t := 3) (p := 30) (v := ?vo_w14) (w1 := (w12.setCell ⟨go5, (x5_1 : Int).toNat * 3 + 2, none⟩ (.int .i64 (wrap64 ((wrap64 (x1_1 + 1)) + 1))))) ?hg ?ho ?hn ?hr ?_; (case ho => rfl); (case hg => rfl); (case hn => rfl); (case hr => first | (go_simp; done) | (go_simp; rfl)); intro w14 hw; have hg : w12.grownBy w14 (some go5) := (by rw [hw]; exact HP13.2); have hp_ : Kd.R k96 96 w14 w0.heap.size (fun k_ => (P0_ k_ ∨ w.heap.size ≤ k_)) (.slice (some ⟨go5, 0, none⟩) x0_1.length co8) y198 := (by rw [hw, Ny198.out]; exact HP13.1); clear HP13; have n0_ := Aside0.mk (hp_); have n1_ := Aside0.mk ((by rw [hw]; exact below_set (HB.out) GB5.out : Below w0.heap.size w0 w14)); have n2_ := Aside0.mk (Kept.of_grown (S := (fun k_ => P0_ k_)) hg (by repeat (first | (with_reducible first | exact HK.out | apply Kept.alloc | apply Kept.drewN | apply Kept.drew) | exact HK.out)) (fun k_ e_ => (HO_0.out.1 k_ e_))); clear HO_0; clear HB; clear HK; have HO_0 := n0_; have HB := n1_; have HK := n2_; clear n0_ n1_ n2_; clear hg hw hp_))
  go_roundg k1
  case measure => have := HK1.out; omega
  case rel => exact ⟨(y198), (wrap64 ((wrap64 ((wrap64 (x1_1 + 1)) + 1)) + 1)), (wrap64 (x5_1 + 1)), (by first | rfl | (simp; done) | (simp [*]; done)), (by first | rfl | (simp; done) | (simp [*]; done)), H', ⟨by have := HK1.out; omega⟩, ⟨by (with_reducible repeat (first | apply Kd.R_alloc | apply Kd.R_drewN | apply Kd.R_drew)); exact HO_0.out⟩, ⟨by repeat (first | (with_reducible first | exact HK.out | apply Kept.alloc | apply Kept.drewN | apply Kept.drew) | exact HK.out)⟩, ⟨by repeat (first | (with_reducible first | exact HB.out | apply below_alloc | apply pw_below_drewN | apply below_drew1) | exact HB.out)⟩⟩/-! ### laws_FnExactTaskSchedule: function 15 -/
mutual
def laws_FnExactTaskSchedule.j0 : Nat → List (S98) → Int → List Int → List Int → List (S96) → List Int → List Int → Bool → Option (Bool)
  | 0, _, _, _, _, _, _, _, _ => none
  | k + 1, x0, x1, x6, x7, x8, x9, x10, x45 => if x45 = true then (some false) else ((laws_toTaskS.f k x0).bind fun t220 => ((laws_eqTaskS.f k x8 t220).bind fun t223 => (if t223 = true then ((laws_markTaskS.f k x8 1).bind fun bt224 => (if bt224.1 < 0 then (laws_FnExactTaskSchedule.j1 k x0 x1 x6 x7 x9 x10 true) else ((laws_eqIntS.f k x9 x6).bind fun t226 => (if t226 = true then ((laws_eqIntS.f k x10 x7).bind fun t227 => (laws_FnExactTaskSchedule.j1 k x0 x1 x6 x7 x9 x10 (!t227))) else (laws_FnExactTaskSchedule.j1 k x0 x1 x6 x7 x9 x10 true))))) else (some false))))
def laws_FnExactTaskSchedule.j1 : Nat → List (S98) → Int → List Int → List Int → List Int → List Int → Bool → Option (Bool)
  | 0, _, _, _, _, _, _, _ => none
  | k + 1, x0, x1, x6, x7, x9, x10, x67 => if x67 = true then (some false) else ((laws_markIntS.f k x9 1).bind fun bt228 => ((laws_markIntS.f k x10 bt228.1).bind fun bt230 => ((laws_heldIntS.f k bt228.2 1).bind fun t232 => (if t232 < 0 then (some false) else ((laws_heldIntS.f k bt230.2 t232).bind fun t233 => (if t233 < 0 then (some false) else (if t233 = bt230.1 then ((laws_toTaskS.f k x0).bind fun t234 => ((impl_TaskSchedule.f k t234 x1).bind fun bt237 => ((laws_eqIntS.f k bt237.1 x6).bind fun t243 => (if t243 = true then ((laws_eqIntS.f k bt237.2 x7).bind fun t244 => (laws_FnExactTaskSchedule.j2 k bt228.2 bt230.2 bt230.1 (!t244))) else (laws_FnExactTaskSchedule.j2 k bt228.2 bt230.2 bt230.1 true))))) else (some false))))))))
def laws_FnExactTaskSchedule.j2 : Nat → List Int → List Int → Int → Bool → Option (Bool)
  | 0, _, _, _, _ => none
  | k + 1, x9, x10, x12, x103 => if x103 = true then (some false) else ((laws_heldIntS.f k x9 1).bind fun t245 => (if t245 < 0 then (some false) else ((laws_heldIntS.f k x10 t245).bind fun t246 => (if t246 < 0 then (some false) else (if t246 = x12 then (some true) else (some false))))))
end
def laws_FnExactTaskSchedule.f (k : Nat) (l0 : List (S98)) (a1 : Int) : Option (Bool) := (laws_szTaskS.f l0 1048576).bind fun t199 => (if t199 < 0 then (some true) else ((laws_toTaskS.f k l0).bind fun t200 => ((spec_TaskSchedule.f k t200 a1).bind fun bt203 => ((laws_toTaskS.f k l0).bind fun t209 => ((impl_TaskSchedule.f k t209 a1).bind fun bt212 => ((laws_eqIntS.f k bt212.1 bt203.1).bind fun t218 => (if t218 = true then ((laws_eqIntS.f k bt212.2 bt203.2).bind fun t219 => (laws_FnExactTaskSchedule.j0 k l0 a1 bt203.1 bt203.2 t209 bt212.1 bt212.2 (!t219))) else (laws_FnExactTaskSchedule.j0 k l0 a1 bt203.1 bt203.2 t209 bt212.1 bt212.2 true))))))))
theorem laws_FnExactTaskSchedule.mono_l : ∀ k, (∀ y0 y1 y2 y3 y4 y5 y6 y7, LeO (laws_FnExactTaskSchedule.j0 k y0 y1 y2 y3 y4 y5 y6 y7) (laws_FnExactTaskSchedule.j0 (k + 1) y0 y1 y2 y3 y4 y5 y6 y7)) ∧ (∀ y0 y1 y2 y3 y4 y5 y6, LeO (laws_FnExactTaskSchedule.j1 k y0 y1 y2 y3 y4 y5 y6) (laws_FnExactTaskSchedule.j1 (k + 1) y0 y1 y2 y3 y4 y5 y6)) ∧ (∀ y0 y1 y2 y3, LeO (laws_FnExactTaskSchedule.j2 k y0 y1 y2 y3) (laws_FnExactTaskSchedule.j2 (k + 1) y0 y1 y2 y3))
  | 0 => ⟨fun _ _ _ _ _ _ _ _ r h => by simp [laws_FnExactTaskSchedule.j0] at h, fun _ _ _ _ _ _ _ r h => by simp [laws_FnExactTaskSchedule.j1] at h, fun _ _ _ _ r h => by simp [laws_FnExactTaskSchedule.j2] at h⟩
  | k + 1 => by
    obtain ⟨ih0, ih1, ih2⟩ := laws_FnExactTaskSchedule.mono_l k
    refine ⟨?_, ?_, ?_⟩
    · intro y0 y1 y2 y3 y4 y5 y6 y7
      unfold laws_FnExactTaskSchedule.j0
      repeat' first
      | (with_reducible exact ih0 _ _ _ _ _ _ _ _)
      | (with_reducible exact ih1 _ _ _ _ _ _ _)
      | (with_reducible exact ih2 _ _ _ _)
      | (with_reducible exact impl_TaskSchedule.mono _ _ _)
      | (with_reducible exact laws_eqIntS.mono _ _ _)
      | (with_reducible exact laws_eqTaskS.mono _ _ _)
      | (with_reducible exact laws_heldIntS.mono _ _ _)
      | (with_reducible exact laws_markIntS.mono _ _ _)
      | (with_reducible exact laws_markTaskS.mono _ _ _)
      | (with_reducible exact laws_toTaskS.mono _ _)
      | (with_reducible exact spec_TaskSchedule.mono _ _ _)
      | (with_reducible exact LeO.refl _)
      | (with_reducible exact LeO.none _)
      | (with_reducible refine LeO.ite ?_ ?_)
      | (with_reducible refine LeO.bind ?_ (fun _ => ?_))
      | exact ih0 _ _ _ _ _ _ _ _
      | exact ih1 _ _ _ _ _ _ _
      | exact ih2 _ _ _ _
      | exact impl_TaskSchedule.mono _ _ _
      | exact laws_eqIntS.mono _ _ _
      | exact laws_eqTaskS.mono _ _ _
      | exact laws_heldIntS.mono _ _ _
      | exact laws_markIntS.mono _ _ _
      | exact laws_markTaskS.mono _ _ _
      | exact laws_toTaskS.mono _ _
      | exact spec_TaskSchedule.mono _ _ _
      | exact LeO.none _
      | refine LeO.ite ?_ ?_
      | refine LeO.bind ?_ (fun _ => ?_)
    · intro y0 y1 y2 y3 y4 y5 y6
      unfold laws_FnExactTaskSchedule.j1
      repeat' first
      | (with_reducible exact ih0 _ _ _ _ _ _ _ _)
      | (with_reducible exact ih1 _ _ _ _ _ _ _)
      | (with_reducible exact ih2 _ _ _ _)
      | (with_reducible exact impl_TaskSchedule.mono _ _ _)
      | (with_reducible exact laws_eqIntS.mono _ _ _)
      | (with_reducible exact laws_eqTaskS.mono _ _ _)
      | (with_reducible exact laws_heldIntS.mono _ _ _)
      | (with_reducible exact laws_markIntS.mono _ _ _)
      | (with_reducible exact laws_markTaskS.mono _ _ _)
      | (with_reducible exact laws_toTaskS.mono _ _)
      | (with_reducible exact spec_TaskSchedule.mono _ _ _)
      | (with_reducible exact LeO.refl _)
      | (with_reducible exact LeO.none _)
      | (with_reducible refine LeO.ite ?_ ?_)
      | (with_reducible refine LeO.bind ?_ (fun _ => ?_))
      | exact ih0 _ _ _ _ _ _ _ _
      | exact ih1 _ _ _ _ _ _ _
      | exact ih2 _ _ _ _
      | exact impl_TaskSchedule.mono _ _ _
      | exact laws_eqIntS.mono _ _ _
      | exact laws_eqTaskS.mono _ _ _
      | exact laws_heldIntS.mono _ _ _
      | exact laws_markIntS.mono _ _ _
      | exact laws_markTaskS.mono _ _ _
      | exact laws_toTaskS.mono _ _
      | exact spec_TaskSchedule.mono _ _ _
      | exact LeO.none _
      | refine LeO.ite ?_ ?_
      | refine LeO.bind ?_ (fun _ => ?_)
    · intro y0 y1 y2 y3
      unfold laws_FnExactTaskSchedule.j2
      repeat' first
      | (with_reducible exact ih0 _ _ _ _ _ _ _ _)
      | (with_reducible exact ih1 _ _ _ _ _ _ _)
      | (with_reducible exact ih2 _ _ _ _)
      | (with_reducible exact impl_TaskSchedule.mono _ _ _)
      | (with_reducible exact laws_eqIntS.mono _ _ _)
      | (with_reducible exact laws_eqTaskS.mono _ _ _)
      | (with_reducible exact laws_heldIntS.mono _ _ _)
      | (with_reducible exact laws_markIntS.mono _ _ _)
      | (with_reducible exact laws_markTaskS.mono _ _ _)
      | (with_reducible exact laws_toTaskS.mono _ _)
      | (with_reducible exact spec_TaskSchedule.mono _ _ _)
      | (with_reducible exact LeO.refl _)
      | (with_reducible exact LeO.none _)
      | (with_reducible refine LeO.ite ?_ ?_)
      | (with_reducible refine LeO.bind ?_ (fun _ => ?_))
      | exact ih0 _ _ _ _ _ _ _ _
      | exact ih1 _ _ _ _ _ _ _
      | exact ih2 _ _ _ _
      | exact impl_TaskSchedule.mono _ _ _
      | exact laws_eqIntS.mono _ _ _
      | exact laws_eqTaskS.mono _ _ _
      | exact laws_heldIntS.mono _ _ _
      | exact laws_markIntS.mono _ _ _
      | exact laws_markTaskS.mono _ _ _
      | exact laws_toTaskS.mono _ _
      | exact spec_TaskSchedule.mono _ _ _
      | exact LeO.none _
      | refine LeO.ite ?_ ?_
      | refine LeO.bind ?_ (fun _ => ?_)
theorem laws_FnExactTaskSchedule.mono : ∀ a0 a1 k, LeO (laws_FnExactTaskSchedule.f k a0 a1) (laws_FnExactTaskSchedule.f (k + 1) a0 a1) := by
  intro a0 a1 k
  obtain ⟨ih0, ih1, ih2⟩ := laws_FnExactTaskSchedule.mono_l k
  unfold laws_FnExactTaskSchedule.f
  repeat' first
      | (with_reducible exact ih0 _ _ _ _ _ _ _ _)
      | (with_reducible exact ih1 _ _ _ _ _ _ _)
      | (with_reducible exact ih2 _ _ _ _)
      | (with_reducible exact impl_TaskSchedule.mono _ _ _)
      | (with_reducible exact laws_eqIntS.mono _ _ _)
      | (with_reducible exact laws_eqTaskS.mono _ _ _)
      | (with_reducible exact laws_heldIntS.mono _ _ _)
      | (with_reducible exact laws_markIntS.mono _ _ _)
      | (with_reducible exact laws_markTaskS.mono _ _ _)
      | (with_reducible exact laws_toTaskS.mono _ _)
      | (with_reducible exact spec_TaskSchedule.mono _ _ _)
      | (with_reducible exact LeO.refl _)
      | (with_reducible exact LeO.none _)
      | (with_reducible refine LeO.ite ?_ ?_)
      | (with_reducible refine LeO.bind ?_ (fun _ => ?_))
      | exact ih0 _ _ _ _ _ _ _ _
      | exact ih1 _ _ _ _ _ _ _
      | exact ih2 _ _ _ _
      | exact impl_TaskSchedule.mono _ _ _
      | exact laws_eqIntS.mono _ _ _
      | exact laws_eqTaskS.mono _ _ _
      | exact laws_heldIntS.mono _ _ _
      | exact laws_markIntS.mono _ _ _
      | exact laws_markTaskS.mono _ _ _
      | exact laws_toTaskS.mono _ _
      | exact spec_TaskSchedule.mono _ _ _
      | exact LeO.none _
      | refine LeO.ite ?_ ?_
      | refine LeO.bind ?_ (fun _ => ?_)
set_option maxHeartbeats 8000000 in
set_option maxRecDepth 100000 in
theorem laws_FnExactTaskSchedule.calls (k : Nat) (A0 : Option Addr) (c0 : Nat) (l0 : List (S98)) (a1 : Int) (r : Bool) (w : World) (hr0 : Kd.C k98 w A0 l0.length l0) (hc0 : l0.length ≤ c0) (h : laws_FnExactTaskSchedule.f k l0 a1 = some r) (hrt : r = true) :
    Calls Try.prog 15 #[.slice A0 l0.length c0, .int .i64 a1] w fun e w' => e = .returned (.bool r) ∧ Below w.heap.size w w' := by
  have HR0 := Aside0.mk hr0
  have HC0 := Aside0.mk hc0
  clear hr0 hc0
  have HB := Aside0.mk (Below.refl w.heap.size w)
  have H : ((laws_szTaskS.f l0 1048576).bind fun t199 => (if t199 < 0 then (some true) else ((laws_toTaskS.f k l0).bind fun t200 => ((spec_TaskSchedule.f k t200 a1).bind fun bt203 => ((laws_toTaskS.f k l0).bind fun t209 => ((impl_TaskSchedule.f k t209 a1).bind fun bt212 => ((laws_eqIntS.f k bt212.1 bt203.1).bind fun t218 => (if t218 = true then ((laws_eqIntS.f k bt212.2 bt203.2).bind fun t219 => (laws_FnExactTaskSchedule.j0 k l0 a1 bt203.1 bt203.2 t209 bt212.1 bt212.2 (!t219))) else (laws_FnExactTaskSchedule.j0 k l0 a1 bt203.1 bt203.2 t209 bt212.1 bt212.2 true))))))))) = some r := h
  clear h
  replace H := Option.bind_eq_some_iff.mp H
  obtain ⟨t199, A30, H⟩ := H
  replace H : (if t199 < 0 then (some true) else ((laws_toTaskS.f k l0).bind fun t200 => ((spec_TaskSchedule.f k t200 a1).bind fun bt203 => ((laws_toTaskS.f k l0).bind fun t209 => ((impl_TaskSchedule.f k t209 a1).bind fun bt212 => ((laws_eqIntS.f k bt212.1 bt203.1).bind fun t218 => (if t218 = true then ((laws_eqIntS.f k bt212.2 bt203.2).bind fun t219 => (laws_FnExactTaskSchedule.j0 k l0 a1 bt203.1 bt203.2 t209 bt212.1 bt212.2 (!t219))) else (laws_FnExactTaskSchedule.j0 k l0 a1 bt203.1 bt203.2 t209 bt212.1 bt212.2 true)))))))) = some r := H
  have A3 := Aside0.mk A30
  clear A30
  by_cases c4 : t199 < 0
  · rw [if_pos c4] at H
    have c4b0 : decide (t199 < 0) = true := decide_eq_true c4
    clear c4
    obtain rfl := Option.some.inj H
    go_enter Try.func15, Try.ntmps15
    go_wp2_with (first | ((with_reducible refine gate_callee (f := 27) rfl ?_); refine goesL_ (some 18) rfl rfl Try.func27 (by kernel_rfl) rfl #[.slice A0 l0.length c0, .int .i64 1048576] rfl (by (try simp only [List.map_toArray, List.map_cons, List.map_nil]); first | done | rfl | (simp only [List.length_drop, List.length_take]; rfl)) ?_; (with_reducible refine (laws_szTaskS.calls _ _ l0 1048576 t199 _ ?side1 ?side2 A3.out).mono ?_); (case side1 => repeat (first | exact HR0.out | (with_reducible refine Kd.C_alloc ?_ _) | (with_reducible refine Kd.C_drewN ?_ _) | (with_reducible refine Kd.C_drew ?_))); (case side2 => exact HC0.out); rintro e w' ⟨rfl, ⟨nd, rfl⟩⟩; refine ⟨_, rfl, ?_⟩))
    go_ret
    exact ⟨by first | rfl | (simp [errW_none, errW_some] <;> rfl) | (simp [*, errW_none, errW_some] <;> rfl), by repeat (first | (with_reducible first | exact HB.out | apply below_alloc | apply pw_below_drewN | apply below_drew1) | exact HB.out)⟩
  rw [if_neg c4] at H
  have c4b0 : decide (t199 < 0) = false := decide_eq_false c4
  clear c4
  replace H := Option.bind_eq_some_iff.mp H
  obtain ⟨t200, A50, H⟩ := H
  replace H : ((spec_TaskSchedule.f k t200 a1).bind fun bt203 => ((laws_toTaskS.f k l0).bind fun t209 => ((impl_TaskSchedule.f k t209 a1).bind fun bt212 => ((laws_eqIntS.f k bt212.1 bt203.1).bind fun t218 => (if t218 = true then ((laws_eqIntS.f k bt212.2 bt203.2).bind fun t219 => (laws_FnExactTaskSchedule.j0 k l0 a1 bt203.1 bt203.2 t209 bt212.1 bt212.2 (!t219))) else (laws_FnExactTaskSchedule.j0 k l0 a1 bt203.1 bt203.2 t209 bt212.1 bt212.2 true)))))) = some r := H
  have A5 := Aside0.mk A50
  clear A50
  replace H := Option.bind_eq_some_iff.mp H
  obtain ⟨⟨t203, t204⟩, A60, H⟩ := H
  replace H : ((laws_toTaskS.f k l0).bind fun t209 => ((impl_TaskSchedule.f k t209 a1).bind fun bt212 => ((laws_eqIntS.f k bt212.1 t203).bind fun t218 => (if t218 = true then ((laws_eqIntS.f k bt212.2 t204).bind fun t219 => (laws_FnExactTaskSchedule.j0 k l0 a1 t203 t204 t209 bt212.1 bt212.2 (!t219))) else (laws_FnExactTaskSchedule.j0 k l0 a1 t203 t204 t209 bt212.1 bt212.2 true))))) = some r := H
  have A6 := Aside0.mk A60
  clear A60
  replace H := Option.bind_eq_some_iff.mp H
  obtain ⟨t209, A70, H⟩ := H
  replace H : ((impl_TaskSchedule.f k t209 a1).bind fun bt212 => ((laws_eqIntS.f k bt212.1 t203).bind fun t218 => (if t218 = true then ((laws_eqIntS.f k bt212.2 t204).bind fun t219 => (laws_FnExactTaskSchedule.j0 k l0 a1 t203 t204 t209 bt212.1 bt212.2 (!t219))) else (laws_FnExactTaskSchedule.j0 k l0 a1 t203 t204 t209 bt212.1 bt212.2 true)))) = some r := H
  have A7 := Aside0.mk A70
  clear A70
  replace H := Option.bind_eq_some_iff.mp H
  obtain ⟨⟨t212, t213⟩, A80, H⟩ := H
  replace H : ((laws_eqIntS.f k t212 t203).bind fun t218 => (if t218 = true then ((laws_eqIntS.f k t213 t204).bind fun t219 => (laws_FnExactTaskSchedule.j0 k l0 a1 t203 t204 t209 t212 t213 (!t219))) else (laws_FnExactTaskSchedule.j0 k l0 a1 t203 t204 t209 t212 t213 true))) = some r := H
  have A8 := Aside0.mk A80
  clear A80
  have HC9 := Aside0.mk H
  clear H
  go_enter Try.func15, Try.ntmps15
  go_upto_region 8 with (first | ((with_reducible refine gate_callee (f := 27) rfl ?_); refine goesL_ (some 18) rfl rfl Try.func27 (by kernel_rfl) rfl #[.slice A0 l0.length c0, .int .i64 1048576] rfl (by (try simp only [List.map_toArray, List.map_cons, List.map_nil]); first | done | rfl | (simp only [List.length_drop, List.length_take]; rfl)) ?_; (with_reducible refine (laws_szTaskS.calls _ _ l0 1048576 t199 _ ?side1 ?side2 A3.out).mono ?_); (case side1 => repeat (first | exact HR0.out | (with_reducible refine Kd.C_alloc ?_ _) | (with_reducible refine Kd.C_drewN ?_ _) | (with_reducible refine Kd.C_drew ?_))); (case side2 => exact HC0.out); rintro e w' ⟨rfl, ⟨nd, rfl⟩⟩; refine ⟨_, rfl, ?_⟩) | ((with_reducible refine gate_callee (f := 29) rfl ?_); refine goesL_ (some 23) rfl rfl Try.func29 (by kernel_rfl) rfl #[.slice A0 l0.length c0] rfl (by (try simp only [List.map_toArray, List.map_cons, List.map_nil]); first | done | rfl | (simp only [List.length_drop, List.length_take]; rfl)) ?_; (with_reducible refine (laws_toTaskS.calls k _ _ l0 t200 _ ?side1 ?side2 A5.out).mono ?_); (case side1 => repeat (first | exact HR0.out | (with_reducible refine Kd.C_alloc ?_ _) | (with_reducible refine Kd.C_drewN ?_ _) | (with_reducible refine Kd.C_drew ?_))); (case side2 => exact HC0.out); rintro e w10 ⟨v201, rfl, ho0, hb⟩; refine ⟨_, rfl, ?_⟩; have n0_ := Aside0.mk (Kd.R_lower ho0 (below_size (by repeat (first | (with_reducible first | exact HB.out | apply below_alloc | apply pw_below_drewN | apply below_drew1) | exact HB.out)))); have n1_ := Aside0.mk (below_step (by repeat (first | (with_reducible first | exact HB.out | apply below_alloc | apply pw_below_drewN | apply below_drew1) | exact HB.out)) hb); clear HB; have HO202 := n0_; have HB := n1_; clear n0_ n1_; (try clear hb); (try clear hb2); (try clear hk); (try clear hi); (try clear ho0); obtain ⟨Ao11, co11, eo11⟩ := Kd.R_slice HO202.out; subst eo11) | ((with_reducible refine gate_callee (f := 66) rfl ?_); refine goesL_ (some 25) rfl rfl Try.func66 (by kernel_rfl) rfl #[.slice Ao11 t200.length co11, .int .i64 a1] rfl (by (try simp only [List.map_toArray, List.map_cons, List.map_nil]); first | done | rfl | (simp only [List.length_drop, List.length_take]; rfl)) ?_; (with_reducible refine (spec_TaskSchedule.calls k _ _ t200 a1 t203 t204 _ ?side1 ?side2 A6.out).mono ?_); (case side1 => repeat (first | exact (Kd.R_reads' HO202.out).2.2 | (with_reducible refine Kd.C_alloc ?_ _) | (with_reducible refine Kd.C_drewN ?_ _) | (with_reducible refine Kd.C_drew ?_))); (case side2 => exact (Kd.R_reads' HO202.out).2.1); rintro e w12 ⟨v205, v207, rfl, ho0, ho1, hb⟩; refine ⟨_, rfl, ?_⟩; have n0_ := Aside0.mk (Kd.R_below (by (with_reducible repeat (first | apply Kd.R_alloc | apply Kd.R_drewN | apply Kd.R_drew)); exact HO202.out) hb); have n1_ := Aside0.mk (Kd.R_lower ho0 (below_size (by repeat (first | (with_reducible first | exact HB.out | apply below_alloc | apply pw_below_drewN | apply below_drew1) | exact HB.out)))); have n2_ := Aside0.mk (Kd.R_lower ho1 (below_size (by repeat (first | (with_reducible first | exact HB.out | apply below_alloc | apply pw_below_drewN | apply below_drew1) | exact HB.out)))); have n3_ := Aside0.mk (below_step (by repeat (first | (with_reducible first | exact HB.out | apply below_alloc | apply pw_below_drewN | apply below_drew1) | exact HB.out)) hb); clear HO202; clear HB; have HO202 := n0_; have HO206 := n1_; have HO208 := n2_; have HB := n3_; clear n0_ n1_ n2_ n3_; (try clear hb); (try clear hb2); (try clear hk); (try clear hi); (try clear ho0); (try clear ho1)) | ((with_reducible refine gate_callee (f := 29) rfl ?_); refine goesL_ (some 29) rfl rfl Try.func29 (by kernel_rfl) rfl #[.slice A0 l0.length c0] rfl (by (try simp only [List.map_toArray, List.map_cons, List.map_nil]); first | done | rfl | (simp only [List.length_drop, List.length_take]; rfl)) ?_; (with_reducible refine (laws_toTaskS.calls k _ _ l0 t209 _ ?side1 ?side2 A7.out).mono ?_); (case side1 => repeat (first | exact (Kd.C_below HR0.out HB.out) | (with_reducible refine Kd.C_alloc ?_ _) | (with_reducible refine Kd.C_drewN ?_ _) | (with_reducible refine Kd.C_drew ?_))); (case side2 => exact HC0.out); rintro e w13 ⟨v210, rfl, ho0, hb⟩; refine ⟨_, rfl, ?_⟩; have n0_ := Aside0.mk (Kd.R_elder' (by (with_reducible repeat (first | apply Kd.R_alloc | apply Kd.R_drewN | apply Kd.R_drew)); exact HO202.out) (Kd.R_base ho0) hb); have n1_ := Aside0.mk (Kd.R_below (by (with_reducible repeat (first | apply Kd.R_alloc | apply Kd.R_drewN | apply Kd.R_drew)); exact HO206.out) hb); have n2_ := Aside0.mk (Kd.R_below (by (with_reducible repeat (first | apply Kd.R_alloc | apply Kd.R_drewN | apply Kd.R_drew)); exact HO208.out) hb); have n3_ := Aside0.mk (Kd.R_lower (Kd.R_new' ho0 (Kd.R_lt (by (with_reducible repeat (first | apply Kd.R_alloc | apply Kd.R_drewN | apply Kd.R_drew)); exact HO202.out))) (below_size (by repeat (first | (with_reducible first | exact HB.out | apply below_alloc | apply pw_below_drewN | apply below_drew1) | exact HB.out)))); have n4_ := Aside0.mk (below_step (by repeat (first | (with_reducible first | exact HB.out | apply below_alloc | apply pw_below_drewN | apply below_drew1) | exact HB.out)) hb); clear HO202; clear HO206; clear HO208; clear HB; have HO202 := n0_; have HO206 := n1_; have HO208 := n2_; have HO211 := n3_; have HB := n4_; clear n0_ n1_ n2_ n3_ n4_; (try clear hb); (try clear hb2); (try clear hk); (try clear hi); (try clear ho0); obtain ⟨Ao14, co14, eo14⟩ := Kd.R_slice HO211.out; subst eo14) | ((with_reducible refine gate_callee (f := 67) rfl ?_); refine goesL_ (some 33) rfl rfl Try.func67 (by kernel_rfl) rfl #[.slice Ao14 t209.length co14, .int .i64 a1] rfl (by (try simp only [List.map_toArray, List.map_cons, List.map_nil]); first | done | rfl | (simp only [List.length_drop, List.length_take]; rfl)) ?_; (with_reducible refine (impl_TaskSchedule.calls k _ _ t209 a1 t212 t213 _ ?side1 ?side2 A8.out).mono ?_); (case side1 => repeat (first | exact (Kd.R_reads' HO211.out).2.2 | (with_reducible refine Kd.C_alloc ?_ _) | (with_reducible refine Kd.C_drewN ?_ _) | (with_reducible refine Kd.C_drew ?_))); (case side2 => exact (Kd.R_reads' HO211.out).2.1); rintro e w15 ⟨v214, v216, rfl, ho0, ho1, hb⟩; refine ⟨_, rfl, ?_⟩; have n0_ := Aside0.mk (Kd.R_below (by (with_reducible repeat (first | apply Kd.R_alloc | apply Kd.R_drewN | apply Kd.R_drew)); exact HO202.out) hb); have n1_ := Aside0.mk (Kd.R_mono (Kd.R_told (Kd.R_told (Kd.R_old (by (with_reducible repeat (first | apply Kd.R_alloc | apply Kd.R_drewN | apply Kd.R_drew)); exact HO206.out) hb) (Kd.R_base ho0)) (Kd.R_base ho1)) (fun _ h_ => h_.1)); have n2_ := Aside0.mk (Kd.R_mono (Kd.R_told (Kd.R_told (Kd.R_old (by (with_reducible repeat (first | apply Kd.R_alloc | apply Kd.R_drewN | apply Kd.R_drew)); exact HO208.out) hb) (Kd.R_base ho0)) (Kd.R_base ho1)) (fun _ h_ => h_.1)); have n3_ := Aside0.mk (Kd.R_below (by (with_reducible repeat (first | apply Kd.R_alloc | apply Kd.R_drewN | apply Kd.R_drew)); exact HO211.out) hb); have n4_ := Aside0.mk (Kd.R_lower (Kd.R_new' (Kd.R_new' ho0 (Kd.R_lt (by (with_reducible repeat (first | apply Kd.R_alloc | apply Kd.R_drewN | apply Kd.R_drew)); exact HO206.out))) (Kd.R_lt (by (with_reducible repeat (first | apply Kd.R_alloc | apply Kd.R_drewN | apply Kd.R_drew)); exact HO208.out))) (below_size (by repeat (first | (with_reducible first | exact HB.out | apply below_alloc | apply pw_below_drewN | apply below_drew1) | exact HB.out)))); have n5_ := Aside0.mk (Kd.R_lower (Kd.R_new' (Kd.R_new' ho1 (Kd.R_lt (by (with_reducible repeat (first | apply Kd.R_alloc | apply Kd.R_drewN | apply Kd.R_drew)); exact HO206.out))) (Kd.R_lt (by (with_reducible repeat (first | apply Kd.R_alloc | apply Kd.R_drewN | apply Kd.R_drew)); exact HO208.out))) (below_size (by repeat (first | (with_reducible first | exact HB.out | apply below_alloc | apply pw_below_drewN | apply below_drew1) | exact HB.out)))); have n6_ := Aside0.mk (below_step (by repeat (first | (with_reducible first | exact HB.out | apply below_alloc | apply pw_below_drewN | apply below_drew1) | exact HB.out)) hb); clear HO202; clear HO206; clear HO208; clear HO211; clear HB; have HO202 := n0_; have HO206 := n1_; have HO208 := n2_; have HO211 := n3_; have HO215 := n4_; have HO217 := n5_; have HB := n6_; clear n0_ n1_ n2_ n3_ n4_ n5_ n6_; (try clear hb); (try clear hb2); (try clear hk); (try clear hi); (try clear ho0); (try clear ho1)))
  (try simp only [Act.put, List.setIfInBounds_toArray, List.set_cons_zero, List.set_cons_succ])
  go_cut [45] (fun v45 wc => ∃ (kq : Nat) (x45_8 : Bool), v45 = .bool x45_8 ∧ Aside0 (laws_FnExactTaskSchedule.j0 kq l0 a1 t203 t204 t209 t212 t213 x45_8 = some r) ∧ Aside0 (kq ≤ k) ∧ Aside0 (Kd.R (Kd.int .i64) 3 wc w.heap.size (fun k_ => some k_ ≠ (v207 : Value).ownBlock ∧ some k_ ≠ (v214 : Value).ownBlock ∧ some k_ ≠ (v216 : Value).ownBlock) v205 t203) ∧ Aside0 (Kd.R (Kd.int .i64) 3 wc w.heap.size (fun k_ => some k_ ≠ (v205 : Value).ownBlock ∧ some k_ ≠ (v214 : Value).ownBlock ∧ some k_ ≠ (v216 : Value).ownBlock) v207 t204) ∧ Aside0 (Kd.R k96 96 wc w.heap.size (fun _ => True) (.slice Ao14 t209.length co14) t209) ∧ Aside0 (Kd.R (Kd.int .i64) 3 wc w.heap.size (fun k_ => some k_ ≠ (v205 : Value).ownBlock ∧ some k_ ≠ (v207 : Value).ownBlock ∧ some k_ ≠ (v216 : Value).ownBlock) v214 t212) ∧ Aside0 (Kd.R (Kd.int .i64) 3 wc w.heap.size (fun k_ => some k_ ≠ (v205 : Value).ownBlock ∧ some k_ ≠ (v207 : Value).ownBlock ∧ some k_ ≠ (v214 : Value).ownBlock) v216 t213) ∧ Aside0 (Below w.heap.size w wc))
  case first =>
    have H := HC9.out
    clear HC9
    replace H := Option.bind_eq_some_iff.mp H
    obtain ⟨t218, A160, H⟩ := H
    replace H : (if t218 = true then ((laws_eqIntS.f k t213 t204).bind fun t219 => (laws_FnExactTaskSchedule.j0 k l0 a1 t203 t204 t209 t212 t213 (!t219))) else (laws_FnExactTaskSchedule.j0 k l0 a1 t203 t204 t209 t212 t213 true)) = some r := H
    have A16 := Aside0.mk A160
    clear A160
    by_cases c17 : t218 = true
    rotate_left
    · replace c17 := Bool.eq_false_iff.mpr c17
      subst c17
      have H1 : (laws_FnExactTaskSchedule.j0 k l0 a1 t203 t204 t209 t212 t213 true) = some r := by rw [if_neg (show ¬ (false = true) by decide)] at H; exact H
      clear H
      have H := H1
      clear H1
      have H' := Aside0.mk H
      clear H
      obtain ⟨Ao23, co23, eo23⟩ := Kd.R_slice HO215.out
      subst eo23
      obtain ⟨Ao24, co24, eo24⟩ := Kd.R_slice HO206.out
      subst eo24
      go_wp2_with (first | ((with_reducible refine gate_callee (f := 55) rfl ?_); refine goesL_ (some 38) rfl rfl Try.func55 (by kernel_rfl) rfl #[.slice Ao23 t212.length co23, .slice Ao24 t203.length co24] rfl (by (try simp only [List.map_toArray, List.map_cons, List.map_nil]); first | done | rfl | (simp only [List.length_drop, List.length_take]; rfl)) ?_; (with_reducible refine (laws_eqIntS.calls k _ _ t212 _ _ t203 false _ ?side1 ?side2 ?side3 ?side4 A16.out).mono ?_); (case side1 => repeat (first | exact (Kd.R_reads' HO215.out).2.2 | (with_reducible refine Kd.C_alloc ?_ _) | (with_reducible refine Kd.C_drewN ?_ _) | (with_reducible refine Kd.C_drew ?_))); (case side2 => exact (Kd.R_reads' HO215.out).2.1); (case side3 => repeat (first | exact (Kd.R_reads' HO206.out).2.2 | (with_reducible refine Kd.C_alloc ?_ _) | (with_reducible refine Kd.C_drewN ?_ _) | (with_reducible refine Kd.C_drew ?_))); (case side4 => exact (Kd.R_reads' HO206.out).2.1); rintro e w' ⟨rfl, ⟨nd, rfl⟩⟩; refine ⟨_, rfl, ?_⟩))
      go_meet
      case rel => exact ⟨_, (true), (by first | rfl | (simp; done) | (simp [*]; done)), H', ⟨by first | omega | exact Nat.le_refl _⟩, ⟨by (with_reducible repeat (first | apply Kd.R_alloc | apply Kd.R_drewN | apply Kd.R_drew)); exact Kd.R_mono HO206.out (fun _ hk => ⟨hk.1.1, ⟨hk.1.2, hk.2⟩⟩)⟩, ⟨by (with_reducible repeat (first | apply Kd.R_alloc | apply Kd.R_drewN | apply Kd.R_drew)); exact Kd.R_mono HO208.out (fun _ hk => ⟨hk.1.1, ⟨hk.1.2, hk.2⟩⟩)⟩, ⟨by (with_reducible repeat (first | apply Kd.R_alloc | apply Kd.R_drewN | apply Kd.R_drew)); exact Kd.R_mono HO211.out (fun _ hk => trivial)⟩, ⟨by (with_reducible repeat (first | apply Kd.R_alloc | apply Kd.R_drewN | apply Kd.R_drew)); exact Kd.R_mono HO215.out (fun _ hk => ⟨hk.1.2, ⟨hk.2, hk.1.1⟩⟩)⟩, ⟨by (with_reducible repeat (first | apply Kd.R_alloc | apply Kd.R_drewN | apply Kd.R_drew)); exact Kd.R_mono HO217.out (fun _ hk => ⟨hk.1.2, ⟨hk.2, hk.1.1⟩⟩)⟩, ⟨by repeat (first | (with_reducible first | exact HB.out | apply below_alloc | apply pw_below_drewN | apply below_drew1) | exact HB.out)⟩⟩
    subst c17
    have H1 : ((laws_eqIntS.f k t213 t204).bind fun t219 => (laws_FnExactTaskSchedule.j0 k l0 a1 t203 t204 t209 t212 t213 (!t219))) = some r := by rw [if_pos rfl] at H; exact H
    clear H
    have H := H1
    clear H1
    replace H := Option.bind_eq_some_iff.mp H
    obtain ⟨t219, A180, H⟩ := H
    replace H : (laws_FnExactTaskSchedule.j0 k l0 a1 t203 t204 t209 t212 t213 (!t219)) = some r := H
    have A18 := Aside0.mk A180
    clear A180
    have H' := Aside0.mk H
    clear H
    obtain ⟨Ao19, co19, eo19⟩ := Kd.R_slice HO215.out
    subst eo19
    obtain ⟨Ao20, co20, eo20⟩ := Kd.R_slice HO206.out
    subst eo20
    go_wp2_with (first | ((with_reducible refine gate_callee (f := 55) rfl ?_); refine goesL_ (some 38) rfl rfl Try.func55 (by kernel_rfl) rfl #[.slice Ao19 t212.length co19, .slice Ao20 t203.length co20] rfl (by (try simp only [List.map_toArray, List.map_cons, List.map_nil]); first | done | rfl | (simp only [List.length_drop, List.length_take]; rfl)) ?_; (with_reducible refine (laws_eqIntS.calls k _ _ t212 _ _ t203 true _ ?side1 ?side2 ?side3 ?side4 A16.out).mono ?_); (case side1 => repeat (first | exact (Kd.R_reads' HO215.out).2.2 | (with_reducible refine Kd.C_alloc ?_ _) | (with_reducible refine Kd.C_drewN ?_ _) | (with_reducible refine Kd.C_drew ?_))); (case side2 => exact (Kd.R_reads' HO215.out).2.1); (case side3 => repeat (first | exact (Kd.R_reads' HO206.out).2.2 | (with_reducible refine Kd.C_alloc ?_ _) | (with_reducible refine Kd.C_drewN ?_ _) | (with_reducible refine Kd.C_drew ?_))); (case side4 => exact (Kd.R_reads' HO206.out).2.1); rintro e w' ⟨rfl, ⟨nd, rfl⟩⟩; refine ⟨_, rfl, ?_⟩; obtain ⟨Ao21, co21, eo21⟩ := Kd.R_slice HO217.out; subst eo21; obtain ⟨Ao22, co22, eo22⟩ := Kd.R_slice HO208.out; subst eo22) | (go_at_call 55; (with_reducible refine (laws_eqIntS.calls k _ _ t213 _ _ t204 t219 _ ?side1 ?side2 ?side3 ?side4 A18.out).mono ?_); (case side1 => repeat (first | exact (Kd.R_reads' HO217.out).2.2 | (with_reducible refine Kd.C_alloc ?_ _) | (with_reducible refine Kd.C_drewN ?_ _) | (with_reducible refine Kd.C_drew ?_))); (case side2 => exact (Kd.R_reads' HO217.out).2.1); (case side3 => repeat (first | exact (Kd.R_reads' HO208.out).2.2 | (with_reducible refine Kd.C_alloc ?_ _) | (with_reducible refine Kd.C_drewN ?_ _) | (with_reducible refine Kd.C_drew ?_))); (case side4 => exact (Kd.R_reads' HO208.out).2.1); rintro e w' ⟨rfl, ⟨nd, rfl⟩⟩))
    go_meet
    case rel => exact ⟨_, (!t219), (by first | rfl | (simp; done) | (simp [*]; done)), H', ⟨by first | omega | exact Nat.le_refl _⟩, ⟨by (with_reducible repeat (first | apply Kd.R_alloc | apply Kd.R_drewN | apply Kd.R_drew)); exact Kd.R_mono HO206.out (fun _ hk => ⟨hk.1.1, ⟨hk.1.2, hk.2⟩⟩)⟩, ⟨by (with_reducible repeat (first | apply Kd.R_alloc | apply Kd.R_drewN | apply Kd.R_drew)); exact Kd.R_mono HO208.out (fun _ hk => ⟨hk.1.1, ⟨hk.1.2, hk.2⟩⟩)⟩, ⟨by (with_reducible repeat (first | apply Kd.R_alloc | apply Kd.R_drewN | apply Kd.R_drew)); exact Kd.R_mono HO211.out (fun _ hk => trivial)⟩, ⟨by (with_reducible repeat (first | apply Kd.R_alloc | apply Kd.R_drewN | apply Kd.R_drew)); exact Kd.R_mono HO215.out (fun _ hk => ⟨hk.1.2, ⟨hk.2, hk.1.1⟩⟩)⟩, ⟨by (with_reducible repeat (first | apply Kd.R_alloc | apply Kd.R_drewN | apply Kd.R_drew)); exact Kd.R_mono HO217.out (fun _ hk => ⟨hk.1.2, ⟨hk.2, hk.1.1⟩⟩)⟩, ⟨by repeat (first | (with_reducible first | exact HB.out | apply below_alloc | apply pw_below_drewN | apply below_drew1) | exact HB.out)⟩⟩
  clear HC9
  try clear c1
  try clear c2
  try clear p2
  try clear c4
  try clear c4b0
  try clear c5
  try clear c6
  try clear c15
  try clear c17
  obtain ⟨kq, x45_8, rfl, HA, HJ8, HO_6, HO_7, HO_8, HO_9, HO_10, HB⟩ := hcut
  rcases kq with _ | kj8
  · exact absurd HA.out (by simp [laws_FnExactTaskSchedule.j0])
  have H := HA.out
  clear HA
  simp only [laws_FnExactTaskSchedule.j0] at H
  by_cases c25 : x45_8 = true
  · subst c25
    have H1 : (some false) = some r := by rw [if_pos rfl] at H; exact H
    clear H
    have H := H1
    clear H1
    exact absurd (hrt.symm.trans (Option.some.inj H).symm) (by decide)
  replace c25 := Bool.eq_false_iff.mpr c25
  subst c25
  have H1 : ((laws_toTaskS.f kj8 l0).bind fun t220 => ((laws_eqTaskS.f kj8 t209 t220).bind fun t223 => (if t223 = true then ((laws_markTaskS.f kj8 t209 1).bind fun bt224 => (if bt224.1 < 0 then (laws_FnExactTaskSchedule.j1 kj8 l0 a1 t203 t204 t212 t213 true) else ((laws_eqIntS.f kj8 t212 t203).bind fun t226 => (if t226 = true then ((laws_eqIntS.f kj8 t213 t204).bind fun t227 => (laws_FnExactTaskSchedule.j1 kj8 l0 a1 t203 t204 t212 t213 (!t227))) else (laws_FnExactTaskSchedule.j1 kj8 l0 a1 t203 t204 t212 t213 true))))) else (some false)))) = some r := by rw [if_neg (show ¬ (false = true) by decide)] at H; exact H
  clear H
  have H := H1
  clear H1
  replace H := Option.bind_eq_some_iff.mp H
  obtain ⟨t220, A260, H⟩ := H
  replace H : ((laws_eqTaskS.f kj8 t209 t220).bind fun t223 => (if t223 = true then ((laws_markTaskS.f kj8 t209 1).bind fun bt224 => (if bt224.1 < 0 then (laws_FnExactTaskSchedule.j1 kj8 l0 a1 t203 t204 t212 t213 true) else ((laws_eqIntS.f kj8 t212 t203).bind fun t226 => (if t226 = true then ((laws_eqIntS.f kj8 t213 t204).bind fun t227 => (laws_FnExactTaskSchedule.j1 kj8 l0 a1 t203 t204 t212 t213 (!t227))) else (laws_FnExactTaskSchedule.j1 kj8 l0 a1 t203 t204 t212 t213 true))))) else (some false))) = some r := H
  have A26 := Aside0.mk A260
  clear A260
  replace H := Option.bind_eq_some_iff.mp H
  obtain ⟨t223, A270, H⟩ := H
  replace H : (if t223 = true then ((laws_markTaskS.f kj8 t209 1).bind fun bt224 => (if bt224.1 < 0 then (laws_FnExactTaskSchedule.j1 kj8 l0 a1 t203 t204 t212 t213 true) else ((laws_eqIntS.f kj8 t212 t203).bind fun t226 => (if t226 = true then ((laws_eqIntS.f kj8 t213 t204).bind fun t227 => (laws_FnExactTaskSchedule.j1 kj8 l0 a1 t203 t204 t212 t213 (!t227))) else (laws_FnExactTaskSchedule.j1 kj8 l0 a1 t203 t204 t212 t213 true))))) else (some false)) = some r := H
  have A27 := Aside0.mk A270
  clear A270
  by_cases c28 : t223 = true
  rotate_left
  · replace c28 := Bool.eq_false_iff.mpr c28
    subst c28
    have H1 : (some false) = some r := by rw [if_neg (show ¬ (false = true) by decide)] at H; exact H
    clear H
    have H := H1
    clear H1
    exact absurd (hrt.symm.trans (Option.some.inj H).symm) (by decide)
  subst c28
  have H1 : ((laws_markTaskS.f kj8 t209 1).bind fun bt224 => (if bt224.1 < 0 then (laws_FnExactTaskSchedule.j1 kj8 l0 a1 t203 t204 t212 t213 true) else ((laws_eqIntS.f kj8 t212 t203).bind fun t226 => (if t226 = true then ((laws_eqIntS.f kj8 t213 t204).bind fun t227 => (laws_FnExactTaskSchedule.j1 kj8 l0 a1 t203 t204 t212 t213 (!t227))) else (laws_FnExactTaskSchedule.j1 kj8 l0 a1 t203 t204 t212 t213 true))))) = some r := by rw [if_pos rfl] at H; exact H
  clear H
  have H := H1
  clear H1
  replace H := Option.bind_eq_some_iff.mp H
  obtain ⟨⟨t224, t225⟩, A290, H⟩ := H
  replace H : (if t224 < 0 then (laws_FnExactTaskSchedule.j1 kj8 l0 a1 t203 t204 t212 t213 true) else ((laws_eqIntS.f kj8 t212 t203).bind fun t226 => (if t226 = true then ((laws_eqIntS.f kj8 t213 t204).bind fun t227 => (laws_FnExactTaskSchedule.j1 kj8 l0 a1 t203 t204 t212 t213 (!t227))) else (laws_FnExactTaskSchedule.j1 kj8 l0 a1 t203 t204 t212 t213 true)))) = some r := H
  have A29 := Aside0.mk A290
  clear A290
  have HC30 := Aside0.mk H
  clear H
  go_upto_region 14 with (first | ((with_reducible refine gate_callee (f := 29) rfl ?_); refine goesL_ (some 48) rfl rfl Try.func29 (by kernel_rfl) rfl #[.slice A0 l0.length c0] rfl (by (try simp only [List.map_toArray, List.map_cons, List.map_nil]); first | done | rfl | (simp only [List.length_drop, List.length_take]; rfl)) ?_; (with_reducible refine (laws_toTaskS.calls kj8 _ _ l0 t220 _ ?side1 ?side2 A26.out).mono ?_); (case side1 => repeat (first | exact (Kd.C_below HR0.out HB.out) | (with_reducible refine Kd.C_alloc ?_ _) | (with_reducible refine Kd.C_drewN ?_ _) | (with_reducible refine Kd.C_drew ?_))); (case side2 => exact HC0.out); rintro e w31 ⟨v221, rfl, ho0, hb⟩; refine ⟨_, rfl, ?_⟩; have n0_ := Aside0.mk (Kd.R_below (by (with_reducible repeat (first | apply Kd.R_alloc | apply Kd.R_drewN | apply Kd.R_drew)); exact HO_6.out) hb); have n1_ := Aside0.mk (Kd.R_below (by (with_reducible repeat (first | apply Kd.R_alloc | apply Kd.R_drewN | apply Kd.R_drew)); exact HO_7.out) hb); have n2_ := Aside0.mk (Kd.R_elder' (by (with_reducible repeat (first | apply Kd.R_alloc | apply Kd.R_drewN | apply Kd.R_drew)); exact HO_8.out) (Kd.R_base ho0) hb); have n3_ := Aside0.mk (Kd.R_below (by (with_reducible repeat (first | apply Kd.R_alloc | apply Kd.R_drewN | apply Kd.R_drew)); exact HO_9.out) hb); have n4_ := Aside0.mk (Kd.R_below (by (with_reducible repeat (first | apply Kd.R_alloc | apply Kd.R_drewN | apply Kd.R_drew)); exact HO_10.out) hb); have n5_ := Aside0.mk (Kd.R_lower (Kd.R_new' ho0 (Kd.R_lt (by (with_reducible repeat (first | apply Kd.R_alloc | apply Kd.R_drewN | apply Kd.R_drew)); exact HO_8.out))) (below_size (by repeat (first | (with_reducible first | exact HB.out | apply below_alloc | apply pw_below_drewN | apply below_drew1) | exact HB.out)))); have n6_ := Aside0.mk (below_step (by repeat (first | (with_reducible first | exact HB.out | apply below_alloc | apply pw_below_drewN | apply below_drew1) | exact HB.out)) hb); clear HO_6; clear HO_7; clear HO_8; clear HO_9; clear HO_10; clear HB; have HO_6 := n0_; have HO_7 := n1_; have HO_8 := n2_; have HO_9 := n3_; have HO_10 := n4_; have HO222 := n5_; have HB := n6_; clear n0_ n1_ n2_ n3_ n4_ n5_ n6_; (try clear hb); (try clear hb2); (try clear hk); (try clear hi); (try clear ho0); obtain ⟨Ao32, co32, eo32⟩ := Kd.R_slice HO222.out; subst eo32) | ((with_reducible refine gate_callee (f := 31) rfl ?_); refine goesL_ (some 49) rfl rfl Try.func31 (by kernel_rfl) rfl #[.slice Ao14 t209.length co14, .slice Ao32 t220.length co32] rfl (by (try simp only [List.map_toArray, List.map_cons, List.map_nil]); first | done | rfl | (simp only [List.length_drop, List.length_take]; rfl)) ?_; (with_reducible refine (laws_eqTaskS.calls kj8 _ _ t209 _ _ t220 true _ ?side1 ?side2 ?side3 ?side4 A27.out).mono ?_); (case side1 => repeat (first | exact (Kd.R_reads' HO_8.out).2.2 | (with_reducible refine Kd.C_alloc ?_ _) | (with_reducible refine Kd.C_drewN ?_ _) | (with_reducible refine Kd.C_drew ?_))); (case side2 => exact (Kd.R_reads' HO_8.out).2.1); (case side3 => repeat (first | exact (Kd.R_reads' HO222.out).2.2 | (with_reducible refine Kd.C_alloc ?_ _) | (with_reducible refine Kd.C_drewN ?_ _) | (with_reducible refine Kd.C_drew ?_))); (case side4 => exact (Kd.R_reads' HO222.out).2.1); rintro e w33 ⟨rfl, hb⟩; refine ⟨_, rfl, ?_⟩; have n0_ := Aside0.mk (Kd.R_below (by (with_reducible repeat (first | apply Kd.R_alloc | apply Kd.R_drewN | apply Kd.R_drew)); exact HO_6.out) hb); have n1_ := Aside0.mk (Kd.R_below (by (with_reducible repeat (first | apply Kd.R_alloc | apply Kd.R_drewN | apply Kd.R_drew)); exact HO_7.out) hb); have n2_ := Aside0.mk (Kd.R_below (by (with_reducible repeat (first | apply Kd.R_alloc | apply Kd.R_drewN | apply Kd.R_drew)); exact HO_8.out) hb); have n3_ := Aside0.mk (Kd.R_below (by (with_reducible repeat (first | apply Kd.R_alloc | apply Kd.R_drewN | apply Kd.R_drew)); exact HO_9.out) hb); have n4_ := Aside0.mk (Kd.R_below (by (with_reducible repeat (first | apply Kd.R_alloc | apply Kd.R_drewN | apply Kd.R_drew)); exact HO_10.out) hb); have n5_ := Aside0.mk (Kd.R_below (by (with_reducible repeat (first | apply Kd.R_alloc | apply Kd.R_drewN | apply Kd.R_drew)); exact HO222.out) hb); have n6_ := Aside0.mk (below_step (by repeat (first | (with_reducible first | exact HB.out | apply below_alloc | apply pw_below_drewN | apply below_drew1) | exact HB.out)) hb); clear HO_6; clear HO_7; clear HO_8; clear HO_9; clear HO_10; clear HO222; clear HB; have HO_6 := n0_; have HO_7 := n1_; have HO_8 := n2_; have HO_9 := n3_; have HO_10 := n4_; have HO222 := n5_; have HB := n6_; clear n0_ n1_ n2_ n3_ n4_ n5_ n6_; (try clear hb); (try clear hb2); (try clear hk); (try clear hi)) | ((with_reducible refine gate_callee (f := 68) rfl ?_); refine goesL_ (some 53) rfl rfl Try.func68 (by kernel_rfl) rfl #[.slice Ao14 t209.length co14, .int .i64 1] rfl (by (try simp only [List.map_toArray, List.map_cons, List.map_nil]); first | done | rfl | (simp only [List.length_drop, List.length_take]; rfl)) ?_; (with_reducible refine (laws_markTaskS.calls kj8 (fun k_ => some k_ = (.slice Ao14 t209.length co14 : Value).ownBlock) (.slice Ao14 t209.length co14) t209 1 t224 t225 w _ ?side1 ?side2 A29.out).mono ?_); (case side1 => repeat (first | (with_reducible first | exact HB.out | apply below_alloc | apply pw_below_drewN | apply below_drew1) | exact HB.out)); (case side2 => exact Kd.R_tight rfl HO_8.out); rintro e w34 ⟨rfl, hy0, hb, hkp⟩; refine ⟨_, rfl, ?_⟩; have n0_ := Aside0.mk (Kd.R_mono (ok' := fun k_ => some k_ ≠ (v207 : Value).ownBlock ∧ some k_ ≠ (v214 : Value).ownBlock ∧ some k_ ≠ (v216 : Value).ownBlock) (Kd.R_keptB ((Kd.R_apart' HO_6.out (Kd.R_typed HO_8.out) (by decide))) hkp (fun k_ hk_ hs_ => (hk_.2) hs_)) (fun k_ hk_ => ⟨hk_.1.1.1, hk_.1.1.2.1, hk_.1.1.2.2⟩)); have n1_ := Aside0.mk (Kd.R_mono (ok' := fun k_ => some k_ ≠ (v205 : Value).ownBlock ∧ some k_ ≠ (v214 : Value).ownBlock ∧ some k_ ≠ (v216 : Value).ownBlock) (Kd.R_keptB ((Kd.R_apart' HO_7.out (Kd.R_typed HO_8.out) (by decide))) hkp (fun k_ hk_ hs_ => (hk_.2) hs_)) (fun k_ hk_ => ⟨hk_.1.1.1, hk_.1.1.2.1, hk_.1.1.2.2⟩)); have n2_ := Aside0.mk (Kd.R_reok rfl hy0 (fun k_ e_ => HO_8.out.1 k_ e_)); have n3_ := Aside0.mk (Kd.R_mono (ok' := fun k_ => some k_ ≠ (v205 : Value).ownBlock ∧ some k_ ≠ (v207 : Value).ownBlock ∧ some k_ ≠ (v216 : Value).ownBlock) (Kd.R_keptB ((Kd.R_apart' HO_9.out (Kd.R_typed HO_8.out) (by decide))) hkp (fun k_ hk_ hs_ => (hk_.2) hs_)) (fun k_ hk_ => ⟨hk_.1.1.1, hk_.1.1.2.1, hk_.1.1.2.2⟩)); have n4_ := Aside0.mk (Kd.R_mono (ok' := fun k_ => some k_ ≠ (v205 : Value).ownBlock ∧ some k_ ≠ (v207 : Value).ownBlock ∧ some k_ ≠ (v214 : Value).ownBlock) (Kd.R_keptB ((Kd.R_apart' HO_10.out (Kd.R_typed HO_8.out) (by decide))) hkp (fun k_ hk_ hs_ => (hk_.2) hs_)) (fun k_ hk_ => ⟨hk_.1.1.1, hk_.1.1.2.1, hk_.1.1.2.2⟩)); have n5_ := Aside0.mk (Kd.R_mono (ok' := fun k_ => some k_ ≠ (.slice Ao14 t209.length co14 : Value).ownBlock) (Kd.R_keptB (HO222.out) hkp (fun k_ hk_ hs_ => (hk_.2) hs_)) (fun k_ hk_ => hk_.1.2)); have n6_ := Aside0.mk (hb); clear HO_6; clear HO_7; clear HO_8; clear HO_9; clear HO_10; clear HO222; clear HB; have HO_6 := n0_; have HO_7 := n1_; have HO_8 := n2_; have HO_9 := n3_; have HO_10 := n4_; have HO222 := n5_; have HB := n6_; clear n0_ n1_ n2_ n3_ n4_ n5_ n6_; (try clear hb); (try clear hkp); (try clear hy0)))
  (try simp only [Act.put, List.setIfInBounds_toArray, List.set_cons_zero, List.set_cons_succ])
  go_cut [67] (fun v67 wc => ∃ (kq : Nat) (x67_29 : Bool), v67 = .bool x67_29 ∧ Aside0 (laws_FnExactTaskSchedule.j1 kq l0 a1 t203 t204 t212 t213 x67_29 = some r) ∧ Aside0 (kq ≤ kj8) ∧ Aside0 (Kd.R (Kd.int .i64) 3 wc w.heap.size (fun k_ => some k_ ≠ (v207 : Value).ownBlock ∧ some k_ ≠ (v214 : Value).ownBlock ∧ some k_ ≠ (v216 : Value).ownBlock) v205 t203) ∧ Aside0 (Kd.R (Kd.int .i64) 3 wc w.heap.size (fun k_ => some k_ ≠ (v205 : Value).ownBlock ∧ some k_ ≠ (v214 : Value).ownBlock ∧ some k_ ≠ (v216 : Value).ownBlock) v207 t204) ∧ Aside0 (Kd.R (Kd.int .i64) 3 wc w.heap.size (fun k_ => some k_ ≠ (v205 : Value).ownBlock ∧ some k_ ≠ (v207 : Value).ownBlock ∧ some k_ ≠ (v216 : Value).ownBlock) v214 t212) ∧ Aside0 (Kd.R (Kd.int .i64) 3 wc w.heap.size (fun k_ => some k_ ≠ (v205 : Value).ownBlock ∧ some k_ ≠ (v207 : Value).ownBlock ∧ some k_ ≠ (v214 : Value).ownBlock) v216 t213) ∧ Aside0 (Below w.heap.size w wc))
  case first =>
    have H := HC30.out
    clear HC30
    by_cases c35 : t224 < 0
    · rw [if_pos c35] at H
      have c35b0 : decide (t224 < 0) = true := decide_eq_true c35
      clear c35
      (first | rw [c35b0] | (simp only [i64_w, i32_w]; rw [c35b0]) | skip)
      have H' := Aside0.mk H
      clear H
      go_wp2
      go_meet
      case rel => exact ⟨_, (true), (by first | rfl | (simp; done) | (simp [*]; done)), H', ⟨by have := HJ8.out; first | omega | exact Nat.le_refl _⟩, ⟨by (with_reducible repeat (first | apply Kd.R_alloc | apply Kd.R_drewN | apply Kd.R_drew)); exact HO_6.out⟩, ⟨by (with_reducible repeat (first | apply Kd.R_alloc | apply Kd.R_drewN | apply Kd.R_drew)); exact HO_7.out⟩, ⟨by (with_reducible repeat (first | apply Kd.R_alloc | apply Kd.R_drewN | apply Kd.R_drew)); exact HO_9.out⟩, ⟨by (with_reducible repeat (first | apply Kd.R_alloc | apply Kd.R_drewN | apply Kd.R_drew)); exact HO_10.out⟩, ⟨by repeat (first | (with_reducible first | exact HB.out | apply below_alloc | apply pw_below_drewN | apply below_drew1) | exact HB.out)⟩⟩
    rw [if_neg c35] at H
    have c35b0 : decide (t224 < 0) = false := decide_eq_false c35
    clear c35
    (first | rw [c35b0] | (simp only [i64_w, i32_w]; rw [c35b0]) | skip)
    replace H := Option.bind_eq_some_iff.mp H
    obtain ⟨t226, A360, H⟩ := H
    replace H : (if t226 = true then ((laws_eqIntS.f kj8 t213 t204).bind fun t227 => (laws_FnExactTaskSchedule.j1 kj8 l0 a1 t203 t204 t212 t213 (!t227))) else (laws_FnExactTaskSchedule.j1 kj8 l0 a1 t203 t204 t212 t213 true)) = some r := H
    have A36 := Aside0.mk A360
    clear A360
    by_cases c37 : t226 = true
    rotate_left
    · replace c37 := Bool.eq_false_iff.mpr c37
      subst c37
      have H1 : (laws_FnExactTaskSchedule.j1 kj8 l0 a1 t203 t204 t212 t213 true) = some r := by rw [if_neg (show ¬ (false = true) by decide)] at H; exact H
      clear H
      have H := H1
      clear H1
      have H' := Aside0.mk H
      clear H
      obtain ⟨Ao43, co43, eo43⟩ := Kd.R_slice HO_9.out
      subst eo43
      obtain ⟨Ao44, co44, eo44⟩ := Kd.R_slice HO_6.out
      subst eo44
      go_wp2_with (first | (go_at_call 55; (with_reducible refine (laws_eqIntS.calls kj8 _ _ t212 _ _ t203 false _ ?side1 ?side2 ?side3 ?side4 A36.out).mono ?_); (case side1 => repeat (first | exact (Kd.R_reads' HO_9.out).2.2 | (with_reducible refine Kd.C_alloc ?_ _) | (with_reducible refine Kd.C_drewN ?_ _) | (with_reducible refine Kd.C_drew ?_))); (case side2 => exact (Kd.R_reads' HO_9.out).2.1); (case side3 => repeat (first | exact (Kd.R_reads' HO_6.out).2.2 | (with_reducible refine Kd.C_alloc ?_ _) | (with_reducible refine Kd.C_drewN ?_ _) | (with_reducible refine Kd.C_drew ?_))); (case side4 => exact (Kd.R_reads' HO_6.out).2.1); rintro e w' ⟨rfl, ⟨nd, rfl⟩⟩))
      go_meet
      case rel => exact ⟨_, (true), (by first | rfl | (simp; done) | (simp [*]; done)), H', ⟨by have := HJ8.out; first | omega | exact Nat.le_refl _⟩, ⟨by (with_reducible repeat (first | apply Kd.R_alloc | apply Kd.R_drewN | apply Kd.R_drew)); exact HO_6.out⟩, ⟨by (with_reducible repeat (first | apply Kd.R_alloc | apply Kd.R_drewN | apply Kd.R_drew)); exact HO_7.out⟩, ⟨by (with_reducible repeat (first | apply Kd.R_alloc | apply Kd.R_drewN | apply Kd.R_drew)); exact HO_9.out⟩, ⟨by (with_reducible repeat (first | apply Kd.R_alloc | apply Kd.R_drewN | apply Kd.R_drew)); exact HO_10.out⟩, ⟨by repeat (first | (with_reducible first | exact HB.out | apply below_alloc | apply pw_below_drewN | apply below_drew1) | exact HB.out)⟩⟩
    subst c37
    have H1 : ((laws_eqIntS.f kj8 t213 t204).bind fun t227 => (laws_FnExactTaskSchedule.j1 kj8 l0 a1 t203 t204 t212 t213 (!t227))) = some r := by rw [if_pos rfl] at H; exact H
    clear H
    have H := H1
    clear H1
    replace H := Option.bind_eq_some_iff.mp H
    obtain ⟨t227, A380, H⟩ := H
    replace H : (laws_FnExactTaskSchedule.j1 kj8 l0 a1 t203 t204 t212 t213 (!t227)) = some r := H
    have A38 := Aside0.mk A380
    clear A380
    have H' := Aside0.mk H
    clear H
    obtain ⟨Ao39, co39, eo39⟩ := Kd.R_slice HO_9.out
    subst eo39
    obtain ⟨Ao40, co40, eo40⟩ := Kd.R_slice HO_6.out
    subst eo40
    go_wp2_with (first | (go_at_call 55; (with_reducible refine (laws_eqIntS.calls kj8 _ _ t212 _ _ t203 true _ ?side1 ?side2 ?side3 ?side4 A36.out).mono ?_); (case side1 => repeat (first | exact (Kd.R_reads' HO_9.out).2.2 | (with_reducible refine Kd.C_alloc ?_ _) | (with_reducible refine Kd.C_drewN ?_ _) | (with_reducible refine Kd.C_drew ?_))); (case side2 => exact (Kd.R_reads' HO_9.out).2.1); (case side3 => repeat (first | exact (Kd.R_reads' HO_6.out).2.2 | (with_reducible refine Kd.C_alloc ?_ _) | (with_reducible refine Kd.C_drewN ?_ _) | (with_reducible refine Kd.C_drew ?_))); (case side4 => exact (Kd.R_reads' HO_6.out).2.1); rintro e w' ⟨rfl, ⟨nd, rfl⟩⟩; obtain ⟨Ao41, co41, eo41⟩ := Kd.R_slice HO_10.out; subst eo41; obtain ⟨Ao42, co42, eo42⟩ := Kd.R_slice HO_7.out; subst eo42) | (go_at_call 55; (with_reducible refine (laws_eqIntS.calls kj8 _ _ t213 _ _ t204 t227 _ ?side1 ?side2 ?side3 ?side4 A38.out).mono ?_); (case side1 => repeat (first | exact (Kd.R_reads' HO_10.out).2.2 | (with_reducible refine Kd.C_alloc ?_ _) | (with_reducible refine Kd.C_drewN ?_ _) | (with_reducible refine Kd.C_drew ?_))); (case side2 => exact (Kd.R_reads' HO_10.out).2.1); (case side3 => repeat (first | exact (Kd.R_reads' HO_7.out).2.2 | (with_reducible refine Kd.C_alloc ?_ _) | (with_reducible refine Kd.C_drewN ?_ _) | (with_reducible refine Kd.C_drew ?_))); (case side4 => exact (Kd.R_reads' HO_7.out).2.1); rintro e w' ⟨rfl, ⟨nd, rfl⟩⟩))
    go_meet
    case rel => exact ⟨_, (!t227), (by first | rfl | (simp; done) | (simp [*]; done)), H', ⟨by have := HJ8.out; first | omega | exact Nat.le_refl _⟩, ⟨by (with_reducible repeat (first | apply Kd.R_alloc | apply Kd.R_drewN | apply Kd.R_drew)); exact HO_6.out⟩, ⟨by (with_reducible repeat (first | apply Kd.R_alloc | apply Kd.R_drewN | apply Kd.R_drew)); exact HO_7.out⟩, ⟨by (with_reducible repeat (first | apply Kd.R_alloc | apply Kd.R_drewN | apply Kd.R_drew)); exact HO_9.out⟩, ⟨by (with_reducible repeat (first | apply Kd.R_alloc | apply Kd.R_drewN | apply Kd.R_drew)); exact HO_10.out⟩, ⟨by repeat (first | (with_reducible first | exact HB.out | apply below_alloc | apply pw_below_drewN | apply below_drew1) | exact HB.out)⟩⟩
  clear HC30
  try clear c1
  try clear c2
  try clear p2
  try clear c3
  try clear c4
  try clear c4b0
  try clear c5
  try clear c6
  try clear c15
  try clear c17
  try clear c25
  try clear c27
  try clear c28
  try clear c29
  try clear c31
  try clear c35
  try clear c35b0
  try clear c37
  try clear p2
  obtain ⟨kq, x67_29, rfl, HA, HJ29, HO_6, HO_7, HO_9, HO_10, HB⟩ := hcut
  rcases kq with _ | kj29
  · exact absurd HA.out (by simp [laws_FnExactTaskSchedule.j1])
  have H := HA.out
  clear HA
  simp only [laws_FnExactTaskSchedule.j1] at H
  by_cases c45 : x67_29 = true
  · subst c45
    have H1 : (some false) = some r := by rw [if_pos rfl] at H; exact H
    clear H
    have H := H1
    clear H1
    exact absurd (hrt.symm.trans (Option.some.inj H).symm) (by decide)
  replace c45 := Bool.eq_false_iff.mpr c45
  subst c45
  have H1 : ((laws_markIntS.f kj29 t212 1).bind fun bt228 => ((laws_markIntS.f kj29 t213 bt228.1).bind fun bt230 => ((laws_heldIntS.f kj29 bt228.2 1).bind fun t232 => (if t232 < 0 then (some false) else ((laws_heldIntS.f kj29 bt230.2 t232).bind fun t233 => (if t233 < 0 then (some false) else (if t233 = bt230.1 then ((laws_toTaskS.f kj29 l0).bind fun t234 => ((impl_TaskSchedule.f kj29 t234 a1).bind fun bt237 => ((laws_eqIntS.f kj29 bt237.1 t203).bind fun t243 => (if t243 = true then ((laws_eqIntS.f kj29 bt237.2 t204).bind fun t244 => (laws_FnExactTaskSchedule.j2 kj29 bt228.2 bt230.2 bt230.1 (!t244))) else (laws_FnExactTaskSchedule.j2 kj29 bt228.2 bt230.2 bt230.1 true))))) else (some false)))))))) = some r := by rw [if_neg (show ¬ (false = true) by decide)] at H; exact H
  clear H
  have H := H1
  clear H1
  replace H := Option.bind_eq_some_iff.mp H
  obtain ⟨⟨t228, t229⟩, A460, H⟩ := H
  replace H : ((laws_markIntS.f kj29 t213 t228).bind fun bt230 => ((laws_heldIntS.f kj29 t229 1).bind fun t232 => (if t232 < 0 then (some false) else ((laws_heldIntS.f kj29 bt230.2 t232).bind fun t233 => (if t233 < 0 then (some false) else (if t233 = bt230.1 then ((laws_toTaskS.f kj29 l0).bind fun t234 => ((impl_TaskSchedule.f kj29 t234 a1).bind fun bt237 => ((laws_eqIntS.f kj29 bt237.1 t203).bind fun t243 => (if t243 = true then ((laws_eqIntS.f kj29 bt237.2 t204).bind fun t244 => (laws_FnExactTaskSchedule.j2 kj29 t229 bt230.2 bt230.1 (!t244))) else (laws_FnExactTaskSchedule.j2 kj29 t229 bt230.2 bt230.1 true))))) else (some false))))))) = some r := H
  have A46 := Aside0.mk A460
  clear A460
  replace H := Option.bind_eq_some_iff.mp H
  obtain ⟨⟨t230, t231⟩, A470, H⟩ := H
  replace H : ((laws_heldIntS.f kj29 t229 1).bind fun t232 => (if t232 < 0 then (some false) else ((laws_heldIntS.f kj29 t231 t232).bind fun t233 => (if t233 < 0 then (some false) else (if t233 = t230 then ((laws_toTaskS.f kj29 l0).bind fun t234 => ((impl_TaskSchedule.f kj29 t234 a1).bind fun bt237 => ((laws_eqIntS.f kj29 bt237.1 t203).bind fun t243 => (if t243 = true then ((laws_eqIntS.f kj29 bt237.2 t204).bind fun t244 => (laws_FnExactTaskSchedule.j2 kj29 t229 t231 t230 (!t244))) else (laws_FnExactTaskSchedule.j2 kj29 t229 t231 t230 true))))) else (some false)))))) = some r := H
  have A47 := Aside0.mk A470
  clear A470
  replace H := Option.bind_eq_some_iff.mp H
  obtain ⟨t232, A480, H⟩ := H
  replace H : (if t232 < 0 then (some false) else ((laws_heldIntS.f kj29 t231 t232).bind fun t233 => (if t233 < 0 then (some false) else (if t233 = t230 then ((laws_toTaskS.f kj29 l0).bind fun t234 => ((impl_TaskSchedule.f kj29 t234 a1).bind fun bt237 => ((laws_eqIntS.f kj29 bt237.1 t203).bind fun t243 => (if t243 = true then ((laws_eqIntS.f kj29 bt237.2 t204).bind fun t244 => (laws_FnExactTaskSchedule.j2 kj29 t229 t231 t230 (!t244))) else (laws_FnExactTaskSchedule.j2 kj29 t229 t231 t230 true))))) else (some false))))) = some r := H
  have A48 := Aside0.mk A480
  clear A480
  by_cases c49 : t232 < 0
  · rw [if_pos c49] at H
    have c49b0 : decide (t232 < 0) = true := decide_eq_true c49
    clear c49
    exact absurd (hrt.symm.trans (Option.some.inj H).symm) (by decide)
  rw [if_neg c49] at H
  have c49b0 : decide (t232 < 0) = false := decide_eq_false c49
  clear c49
  replace H := Option.bind_eq_some_iff.mp H
  obtain ⟨t233, A540, H⟩ := H
  replace H : (if t233 < 0 then (some false) else (if t233 = t230 then ((laws_toTaskS.f kj29 l0).bind fun t234 => ((impl_TaskSchedule.f kj29 t234 a1).bind fun bt237 => ((laws_eqIntS.f kj29 bt237.1 t203).bind fun t243 => (if t243 = true then ((laws_eqIntS.f kj29 bt237.2 t204).bind fun t244 => (laws_FnExactTaskSchedule.j2 kj29 t229 t231 t230 (!t244))) else (laws_FnExactTaskSchedule.j2 kj29 t229 t231 t230 true))))) else (some false))) = some r := H
  have A54 := Aside0.mk A540
  clear A540
  by_cases c55 : t233 < 0
  · rw [if_pos c55] at H
    have c55b0 : decide (t233 < 0) = true := decide_eq_true c55
    clear c55
    exact absurd (hrt.symm.trans (Option.some.inj H).symm) (by decide)
  rw [if_neg c55] at H
  have c55b0 : decide (t233 < 0) = false := decide_eq_false c55
  clear c55
  by_cases c60 : t233 = t230
  rotate_left
  · rw [if_neg c60] at H
    have c60b0 : (t233 == t230) = false := beq_eq_false_iff_ne.mpr c60
    have c60b1 : (t233 != t230) = true := bne_iff_ne.mpr c60
    obtain rfl := Option.some.inj H
    obtain ⟨Ao86, co86, eo86⟩ := Kd.R_slice HO_9.out
    subst eo86
    go_wp2_with (first | ((with_reducible refine gate_callee (f := 57) rfl ?_); refine goesL_ (some 70) rfl rfl Try.func57 (by kernel_rfl) rfl #[.slice Ao86 t212.length co86, .int .i64 1] rfl (by (try simp only [List.map_toArray, List.map_cons, List.map_nil]); first | done | rfl | (simp only [List.length_drop, List.length_take]; rfl)) ?_; (with_reducible refine (laws_markIntS.calls kj29 (fun k_ => some k_ = (.slice Ao86 t212.length co86 : Value).ownBlock) (.slice Ao86 t212.length co86) t212 1 t228 t229 w _ ?side1 ?side2 A46.out).mono ?_); (case side1 => repeat (first | (with_reducible first | exact HB.out | apply below_alloc | apply pw_below_drewN | apply below_drew1) | exact HB.out)); (case side2 => exact Kd.R_tight rfl HO_9.out); rintro e w87 ⟨rfl, hy0, hb, hkp⟩; refine ⟨_, rfl, ?_⟩; have n0_ := Aside0.mk (Kd.R_mono (ok' := fun k_ => some k_ ≠ (v207 : Value).ownBlock ∧ some k_ ≠ (.slice Ao86 t212.length co86 : Value).ownBlock ∧ some k_ ≠ (v216 : Value).ownBlock) (Kd.R_keptB (HO_6.out) hkp (fun k_ hk_ hs_ => (hk_.2.1) hs_)) (fun k_ hk_ => ⟨hk_.1.1, hk_.1.2.1, hk_.1.2.2⟩)); have n1_ := Aside0.mk (Kd.R_mono (ok' := fun k_ => some k_ ≠ (v205 : Value).ownBlock ∧ some k_ ≠ (.slice Ao86 t212.length co86 : Value).ownBlock ∧ some k_ ≠ (v216 : Value).ownBlock) (Kd.R_keptB (HO_7.out) hkp (fun k_ hk_ hs_ => (hk_.2.1) hs_)) (fun k_ hk_ => ⟨hk_.1.1, hk_.1.2.1, hk_.1.2.2⟩)); have n2_ := Aside0.mk (Kd.R_reok rfl hy0 (fun k_ e_ => HO_9.out.1 k_ e_)); have n3_ := Aside0.mk (Kd.R_mono (ok' := fun k_ => some k_ ≠ (v205 : Value).ownBlock ∧ some k_ ≠ (v207 : Value).ownBlock ∧ some k_ ≠ (.slice Ao86 t212.length co86 : Value).ownBlock) (Kd.R_keptB (HO_10.out) hkp (fun k_ hk_ hs_ => (hk_.2.2) hs_)) (fun k_ hk_ => ⟨hk_.1.1, hk_.1.2.1, hk_.1.2.2⟩)); have n4_ := Aside0.mk (hb); clear HO_6; clear HO_7; clear HO_9; clear HO_10; clear HB; have HO_6 := n0_; have HO_7 := n1_; have HO_9 := n2_; have HO_10 := n3_; have HB := n4_; clear n0_ n1_ n2_ n3_ n4_; (try clear hb); (try clear hkp); (try clear hy0); obtain ⟨Ao88, co88, eo88⟩ := Kd.R_slice HO_10.out; subst eo88) | ((with_reducible refine gate_callee (f := 57) rfl ?_); refine goesL_ (some 73) rfl rfl Try.func57 (by kernel_rfl) rfl #[.slice Ao88 t213.length co88, .int .i64 t228] rfl (by (try simp only [List.map_toArray, List.map_cons, List.map_nil]); first | done | rfl | (simp only [List.length_drop, List.length_take]; rfl)) ?_; (with_reducible refine (laws_markIntS.calls kj29 (fun k_ => some k_ = (.slice Ao88 t213.length co88 : Value).ownBlock) (.slice Ao88 t213.length co88) t213 t228 t230 t231 w _ ?side1 ?side2 A47.out).mono ?_); (case side1 => repeat (first | (with_reducible first | exact HB.out | apply below_alloc | apply pw_below_drewN | apply below_drew1) | exact HB.out)); (case side2 => exact Kd.R_tight rfl HO_10.out); rintro e w89 ⟨rfl, hy0, hb, hkp⟩; refine ⟨_, rfl, ?_⟩; have n0_ := Aside0.mk (Kd.R_mono (ok' := fun k_ => some k_ ≠ (v207 : Value).ownBlock ∧ some k_ ≠ (.slice Ao86 t212.length co86 : Value).ownBlock ∧ some k_ ≠ (.slice Ao88 t213.length co88 : Value).ownBlock) (Kd.R_keptB (HO_6.out) hkp (fun k_ hk_ hs_ => (hk_.2.2) hs_)) (fun k_ hk_ => ⟨hk_.1.1, hk_.1.2.1, hk_.1.2.2⟩)); have n1_ := Aside0.mk (Kd.R_mono (ok' := fun k_ => some k_ ≠ (v205 : Value).ownBlock ∧ some k_ ≠ (.slice Ao86 t212.length co86 : Value).ownBlock ∧ some k_ ≠ (.slice Ao88 t213.length co88 : Value).ownBlock) (Kd.R_keptB (HO_7.out) hkp (fun k_ hk_ hs_ => (hk_.2.2) hs_)) (fun k_ hk_ => ⟨hk_.1.1, hk_.1.2.1, hk_.1.2.2⟩)); have n2_ := Aside0.mk (Kd.R_mono (ok' := fun k_ => some k_ ≠ (v205 : Value).ownBlock ∧ some k_ ≠ (v207 : Value).ownBlock ∧ some k_ ≠ (.slice Ao88 t213.length co88 : Value).ownBlock) (Kd.R_keptB (HO_9.out) hkp (fun k_ hk_ hs_ => (hk_.2.2) hs_)) (fun k_ hk_ => ⟨hk_.1.1, hk_.1.2.1, hk_.1.2.2⟩)); have n3_ := Aside0.mk (Kd.R_reok rfl hy0 (fun k_ e_ => HO_10.out.1 k_ e_)); have n4_ := Aside0.mk (hb); clear HO_6; clear HO_7; clear HO_9; clear HO_10; clear HB; have HO_6 := n0_; have HO_7 := n1_; have HO_9 := n2_; have HO_10 := n3_; have HB := n4_; clear n0_ n1_ n2_ n3_ n4_; (try clear hb); (try clear hkp); (try clear hy0)) | ((with_reducible refine gate_callee (f := 59) rfl ?_); refine goesL_ (some 76) rfl rfl Try.func59 (by kernel_rfl) rfl #[.slice Ao86 t229.length co86, .int .i64 1] rfl (by (try simp only [List.map_toArray, List.map_cons, List.map_nil]); first | done | (rw [show t229.length = t212.length from (Kd.R_reads' HO_9.out).1.symm] <;> rfl) | rfl | (simp only [List.length_drop, List.length_take]; rfl)) ?_; (with_reducible refine (laws_heldIntS.calls kj29 _ _ t229 1 t232 _ ?side1 ?side2 A48.out).mono ?_); (case side1 => repeat (first | exact (Kd.R_reads' HO_9.out).2.2 | (with_reducible refine Kd.C_alloc ?_ _) | (with_reducible refine Kd.C_drewN ?_ _) | (with_reducible refine Kd.C_drew ?_))); (case side2 => rw [show t229.length = t212.length from (Kd.R_reads' HO_9.out).1.symm]; exact (Kd.R_reads' HO_9.out).2.1); rintro e w' ⟨rfl, ⟨nd, rfl⟩⟩; refine ⟨_, rfl, ?_⟩) | ((with_reducible refine gate_callee (f := 59) rfl ?_); refine goesL_ (some 81) rfl rfl Try.func59 (by kernel_rfl) rfl #[.slice Ao88 t231.length co88, .int .i64 t232] rfl (by (try simp only [List.map_toArray, List.map_cons, List.map_nil]); first | done | (rw [show t231.length = t213.length from (Kd.R_reads' HO_10.out).1.symm] <;> rfl) | rfl | (simp only [List.length_drop, List.length_take]; rfl)) ?_; (with_reducible refine (laws_heldIntS.calls kj29 _ _ t231 t232 t233 _ ?side1 ?side2 A54.out).mono ?_); (case side1 => repeat (first | exact (Kd.R_reads' HO_10.out).2.2 | (with_reducible refine Kd.C_alloc ?_ _) | (with_reducible refine Kd.C_drewN ?_ _) | (with_reducible refine Kd.C_drew ?_))); (case side2 => rw [show t231.length = t213.length from (Kd.R_reads' HO_10.out).1.symm]; exact (Kd.R_reads' HO_10.out).2.1); rintro e w' ⟨rfl, ⟨nd, rfl⟩⟩; refine ⟨_, rfl, ?_⟩))
    go_ret
    exact ⟨by first | rfl | (simp [errW_none, errW_some] <;> rfl) | (simp [*, errW_none, errW_some] <;> rfl), by repeat (first | (with_reducible first | exact HB.out | apply below_alloc | apply pw_below_drewN | apply below_drew1) | exact HB.out)⟩
  rw [if_pos c60] at H
  have c60b0 : (t233 == t230) = true := beq_iff_eq.mpr c60
  have c60b1 : (t233 != t230) = false := bne_eq_false_iff_eq.mpr c60
  clear c60
  replace H := Option.bind_eq_some_iff.mp H
  obtain ⟨t234, A610, H⟩ := H
  replace H : ((impl_TaskSchedule.f kj29 t234 a1).bind fun bt237 => ((laws_eqIntS.f kj29 bt237.1 t203).bind fun t243 => (if t243 = true then ((laws_eqIntS.f kj29 bt237.2 t204).bind fun t244 => (laws_FnExactTaskSchedule.j2 kj29 t229 t231 t230 (!t244))) else (laws_FnExactTaskSchedule.j2 kj29 t229 t231 t230 true)))) = some r := H
  have A61 := Aside0.mk A610
  clear A610
  replace H := Option.bind_eq_some_iff.mp H
  obtain ⟨⟨t237, t238⟩, A620, H⟩ := H
  replace H : ((laws_eqIntS.f kj29 t237 t203).bind fun t243 => (if t243 = true then ((laws_eqIntS.f kj29 t238 t204).bind fun t244 => (laws_FnExactTaskSchedule.j2 kj29 t229 t231 t230 (!t244))) else (laws_FnExactTaskSchedule.j2 kj29 t229 t231 t230 true))) = some r := H
  have A62 := Aside0.mk A620
  clear A620
  have HC63 := Aside0.mk H
  clear H
  obtain ⟨Ao64, co64, eo64⟩ := Kd.R_slice HO_9.out
  subst eo64
  go_upto_region 29 with (first | ((with_reducible refine gate_callee (f := 57) rfl ?_); refine goesL_ (some 70) rfl rfl Try.func57 (by kernel_rfl) rfl #[.slice Ao64 t212.length co64, .int .i64 1] rfl (by (try simp only [List.map_toArray, List.map_cons, List.map_nil]); first | done | rfl | (simp only [List.length_drop, List.length_take]; rfl)) ?_; (with_reducible refine (laws_markIntS.calls kj29 (fun k_ => some k_ = (.slice Ao64 t212.length co64 : Value).ownBlock) (.slice Ao64 t212.length co64) t212 1 t228 t229 w _ ?side1 ?side2 A46.out).mono ?_); (case side1 => repeat (first | (with_reducible first | exact HB.out | apply below_alloc | apply pw_below_drewN | apply below_drew1) | exact HB.out)); (case side2 => exact Kd.R_tight rfl HO_9.out); rintro e w65 ⟨rfl, hy0, hb, hkp⟩; refine ⟨_, rfl, ?_⟩; have n0_ := Aside0.mk (Kd.R_mono (ok' := fun k_ => some k_ ≠ (v207 : Value).ownBlock ∧ some k_ ≠ (.slice Ao64 t212.length co64 : Value).ownBlock ∧ some k_ ≠ (v216 : Value).ownBlock) (Kd.R_keptB (HO_6.out) hkp (fun k_ hk_ hs_ => (hk_.2.1) hs_)) (fun k_ hk_ => ⟨hk_.1.1, hk_.1.2.1, hk_.1.2.2⟩)); have n1_ := Aside0.mk (Kd.R_mono (ok' := fun k_ => some k_ ≠ (v205 : Value).ownBlock ∧ some k_ ≠ (.slice Ao64 t212.length co64 : Value).ownBlock ∧ some k_ ≠ (v216 : Value).ownBlock) (Kd.R_keptB (HO_7.out) hkp (fun k_ hk_ hs_ => (hk_.2.1) hs_)) (fun k_ hk_ => ⟨hk_.1.1, hk_.1.2.1, hk_.1.2.2⟩)); have n2_ := Aside0.mk (Kd.R_reok rfl hy0 (fun k_ e_ => HO_9.out.1 k_ e_)); have n3_ := Aside0.mk (Kd.R_mono (ok' := fun k_ => some k_ ≠ (v205 : Value).ownBlock ∧ some k_ ≠ (v207 : Value).ownBlock ∧ some k_ ≠ (.slice Ao64 t212.length co64 : Value).ownBlock) (Kd.R_keptB (HO_10.out) hkp (fun k_ hk_ hs_ => (hk_.2.2) hs_)) (fun k_ hk_ => ⟨hk_.1.1, hk_.1.2.1, hk_.1.2.2⟩)); have n4_ := Aside0.mk (hb); clear HO_6; clear HO_7; clear HO_9; clear HO_10; clear HB; have HO_6 := n0_; have HO_7 := n1_; have HO_9 := n2_; have HO_10 := n3_; have HB := n4_; clear n0_ n1_ n2_ n3_ n4_; (try clear hb); (try clear hkp); (try clear hy0); obtain ⟨Ao66, co66, eo66⟩ := Kd.R_slice HO_10.out; subst eo66) | ((with_reducible refine gate_callee (f := 57) rfl ?_); refine goesL_ (some 73) rfl rfl Try.func57 (by kernel_rfl) rfl #[.slice Ao66 t213.length co66, .int .i64 t228] rfl (by (try simp only [List.map_toArray, List.map_cons, List.map_nil]); first | done | rfl | (simp only [List.length_drop, List.length_take]; rfl)) ?_; (with_reducible refine (laws_markIntS.calls kj29 (fun k_ => some k_ = (.slice Ao66 t213.length co66 : Value).ownBlock) (.slice Ao66 t213.length co66) t213 t228 t230 t231 w _ ?side1 ?side2 A47.out).mono ?_); (case side1 => repeat (first | (with_reducible first | exact HB.out | apply below_alloc | apply pw_below_drewN | apply below_drew1) | exact HB.out)); (case side2 => exact Kd.R_tight rfl HO_10.out); rintro e w67 ⟨rfl, hy0, hb, hkp⟩; refine ⟨_, rfl, ?_⟩; have n0_ := Aside0.mk (Kd.R_mono (ok' := fun k_ => some k_ ≠ (v207 : Value).ownBlock ∧ some k_ ≠ (.slice Ao64 t212.length co64 : Value).ownBlock ∧ some k_ ≠ (.slice Ao66 t213.length co66 : Value).ownBlock) (Kd.R_keptB (HO_6.out) hkp (fun k_ hk_ hs_ => (hk_.2.2) hs_)) (fun k_ hk_ => ⟨hk_.1.1, hk_.1.2.1, hk_.1.2.2⟩)); have n1_ := Aside0.mk (Kd.R_mono (ok' := fun k_ => some k_ ≠ (v205 : Value).ownBlock ∧ some k_ ≠ (.slice Ao64 t212.length co64 : Value).ownBlock ∧ some k_ ≠ (.slice Ao66 t213.length co66 : Value).ownBlock) (Kd.R_keptB (HO_7.out) hkp (fun k_ hk_ hs_ => (hk_.2.2) hs_)) (fun k_ hk_ => ⟨hk_.1.1, hk_.1.2.1, hk_.1.2.2⟩)); have n2_ := Aside0.mk (Kd.R_mono (ok' := fun k_ => some k_ ≠ (v205 : Value).ownBlock ∧ some k_ ≠ (v207 : Value).ownBlock ∧ some k_ ≠ (.slice Ao66 t213.length co66 : Value).ownBlock) (Kd.R_keptB (HO_9.out) hkp (fun k_ hk_ hs_ => (hk_.2.2) hs_)) (fun k_ hk_ => ⟨hk_.1.1, hk_.1.2.1, hk_.1.2.2⟩)); have n3_ := Aside0.mk (Kd.R_reok rfl hy0 (fun k_ e_ => HO_10.out.1 k_ e_)); have n4_ := Aside0.mk (hb); clear HO_6; clear HO_7; clear HO_9; clear HO_10; clear HB; have HO_6 := n0_; have HO_7 := n1_; have HO_9 := n2_; have HO_10 := n3_; have HB := n4_; clear n0_ n1_ n2_ n3_ n4_; (try clear hb); (try clear hkp); (try clear hy0)) | ((with_reducible refine gate_callee (f := 59) rfl ?_); refine goesL_ (some 76) rfl rfl Try.func59 (by kernel_rfl) rfl #[.slice Ao64 t229.length co64, .int .i64 1] rfl (by (try simp only [List.map_toArray, List.map_cons, List.map_nil]); first | done | (rw [show t229.length = t212.length from (Kd.R_reads' HO_9.out).1.symm] <;> rfl) | rfl | (simp only [List.length_drop, List.length_take]; rfl)) ?_; (with_reducible refine (laws_heldIntS.calls kj29 _ _ t229 1 t232 _ ?side1 ?side2 A48.out).mono ?_); (case side1 => repeat (first | exact (Kd.R_reads' HO_9.out).2.2 | (with_reducible refine Kd.C_alloc ?_ _) | (with_reducible refine Kd.C_drewN ?_ _) | (with_reducible refine Kd.C_drew ?_))); (case side2 => rw [show t229.length = t212.length from (Kd.R_reads' HO_9.out).1.symm]; exact (Kd.R_reads' HO_9.out).2.1); rintro e w' ⟨rfl, ⟨nd, rfl⟩⟩; refine ⟨_, rfl, ?_⟩) | ((with_reducible refine gate_callee (f := 59) rfl ?_); refine goesL_ (some 81) rfl rfl Try.func59 (by kernel_rfl) rfl #[.slice Ao66 t231.length co66, .int .i64 t232] rfl (by (try simp only [List.map_toArray, List.map_cons, List.map_nil]); first | done | (rw [show t231.length = t213.length from (Kd.R_reads' HO_10.out).1.symm] <;> rfl) | rfl | (simp only [List.length_drop, List.length_take]; rfl)) ?_; (with_reducible refine (laws_heldIntS.calls kj29 _ _ t231 t232 t233 _ ?side1 ?side2 A54.out).mono ?_); (case side1 => repeat (first | exact (Kd.R_reads' HO_10.out).2.2 | (with_reducible refine Kd.C_alloc ?_ _) | (with_reducible refine Kd.C_drewN ?_ _) | (with_reducible refine Kd.C_drew ?_))); (case side2 => rw [show t231.length = t213.length from (Kd.R_reads' HO_10.out).1.symm]; exact (Kd.R_reads' HO_10.out).2.1); rintro e w' ⟨rfl, ⟨nd, rfl⟩⟩; refine ⟨_, rfl, ?_⟩) | ((with_reducible refine gate_callee (f := 29) rfl ?_); refine goesL_ (some 89) rfl rfl Try.func29 (by kernel_rfl) rfl #[.slice A0 l0.length c0] rfl (by (try simp only [List.map_toArray, List.map_cons, List.map_nil]); first | done | rfl | (simp only [List.length_drop, List.length_take]; rfl)) ?_; (with_reducible refine (laws_toTaskS.calls kj29 _ _ l0 t234 _ ?side1 ?side2 A61.out).mono ?_); (case side1 => repeat (first | exact (Kd.C_below HR0.out (by repeat (first | (with_reducible first | exact HB.out | apply below_alloc | apply pw_below_drewN | apply below_drew1) | exact HB.out))) | (with_reducible refine Kd.C_alloc ?_ _) | (with_reducible refine Kd.C_drewN ?_ _) | (with_reducible refine Kd.C_drew ?_))); (case side2 => exact HC0.out); rintro e w68 ⟨v235, rfl, ho0, hb⟩; refine ⟨_, rfl, ?_⟩; have n0_ := Aside0.mk (Kd.R_below (by (with_reducible repeat (first | apply Kd.R_alloc | apply Kd.R_drewN | apply Kd.R_drew)); exact HO_6.out) hb); have n1_ := Aside0.mk (Kd.R_below (by (with_reducible repeat (first | apply Kd.R_alloc | apply Kd.R_drewN | apply Kd.R_drew)); exact HO_7.out) hb); have n2_ := Aside0.mk (Kd.R_below (by (with_reducible repeat (first | apply Kd.R_alloc | apply Kd.R_drewN | apply Kd.R_drew)); exact HO_9.out) hb); have n3_ := Aside0.mk (Kd.R_below (by (with_reducible repeat (first | apply Kd.R_alloc | apply Kd.R_drewN | apply Kd.R_drew)); exact HO_10.out) hb); have n4_ := Aside0.mk (Kd.R_lower ho0 (below_size (by repeat (first | (with_reducible first | exact HB.out | apply below_alloc | apply pw_below_drewN | apply below_drew1) | exact HB.out)))); have n5_ := Aside0.mk (below_step (by repeat (first | (with_reducible first | exact HB.out | apply below_alloc | apply pw_below_drewN | apply below_drew1) | exact HB.out)) hb); clear HO_6; clear HO_7; clear HO_9; clear HO_10; clear HB; have HO_6 := n0_; have HO_7 := n1_; have HO_9 := n2_; have HO_10 := n3_; have HO236 := n4_; have HB := n5_; clear n0_ n1_ n2_ n3_ n4_ n5_; (try clear hb); (try clear hb2); (try clear hk); (try clear hi); (try clear ho0); obtain ⟨Ao69, co69, eo69⟩ := Kd.R_slice HO236.out; subst eo69) | ((with_reducible refine gate_callee (f := 67) rfl ?_); refine goesL_ (some 91) rfl rfl Try.func67 (by kernel_rfl) rfl #[.slice Ao69 t234.length co69, .int .i64 a1] rfl (by (try simp only [List.map_toArray, List.map_cons, List.map_nil]); first | done | rfl | (simp only [List.length_drop, List.length_take]; rfl)) ?_; (with_reducible refine (impl_TaskSchedule.calls kj29 _ _ t234 a1 t237 t238 _ ?side1 ?side2 A62.out).mono ?_); (case side1 => repeat (first | exact (Kd.R_reads' HO236.out).2.2 | (with_reducible refine Kd.C_alloc ?_ _) | (with_reducible refine Kd.C_drewN ?_ _) | (with_reducible refine Kd.C_drew ?_))); (case side2 => exact (Kd.R_reads' HO236.out).2.1); rintro e w70 ⟨v239, v241, rfl, ho0, ho1, hb⟩; refine ⟨_, rfl, ?_⟩; have n0_ := Aside0.mk (Kd.R_mono (Kd.R_told (Kd.R_told (Kd.R_old (by (with_reducible repeat (first | apply Kd.R_alloc | apply Kd.R_drewN | apply Kd.R_drew)); exact HO_6.out) hb) (Kd.R_base ho0)) (Kd.R_base ho1)) (fun _ h_ => h_.1)); have n1_ := Aside0.mk (Kd.R_mono (Kd.R_told (Kd.R_told (Kd.R_old (by (with_reducible repeat (first | apply Kd.R_alloc | apply Kd.R_drewN | apply Kd.R_drew)); exact HO_7.out) hb) (Kd.R_base ho0)) (Kd.R_base ho1)) (fun _ h_ => h_.1)); have n2_ := Aside0.mk (Kd.R_mono (Kd.R_told (Kd.R_told (Kd.R_old (by (with_reducible repeat (first | apply Kd.R_alloc | apply Kd.R_drewN | apply Kd.R_drew)); exact HO_9.out) hb) (Kd.R_base ho0)) (Kd.R_base ho1)) (fun _ h_ => h_.1)); have n3_ := Aside0.mk (Kd.R_mono (Kd.R_told (Kd.R_told (Kd.R_old (by (with_reducible repeat (first | apply Kd.R_alloc | apply Kd.R_drewN | apply Kd.R_drew)); exact HO_10.out) hb) (Kd.R_base ho0)) (Kd.R_base ho1)) (fun _ h_ => h_.1)); have n4_ := Aside0.mk (Kd.R_below (by (with_reducible repeat (first | apply Kd.R_alloc | apply Kd.R_drewN | apply Kd.R_drew)); exact HO236.out) hb); have n5_ := Aside0.mk (Kd.R_lower (Kd.R_new' (Kd.R_new' (Kd.R_new' (Kd.R_new' ho0 (Kd.R_lt (by (with_reducible repeat (first | apply Kd.R_alloc | apply Kd.R_drewN | apply Kd.R_drew)); exact HO_6.out))) (Kd.R_lt (by (with_reducible repeat (first | apply Kd.R_alloc | apply Kd.R_drewN | apply Kd.R_drew)); exact HO_7.out))) (Kd.R_lt (by (with_reducible repeat (first | apply Kd.R_alloc | apply Kd.R_drewN | apply Kd.R_drew)); exact HO_9.out))) (Kd.R_lt (by (with_reducible repeat (first | apply Kd.R_alloc | apply Kd.R_drewN | apply Kd.R_drew)); exact HO_10.out))) (below_size (by repeat (first | (with_reducible first | exact HB.out | apply below_alloc | apply pw_below_drewN | apply below_drew1) | exact HB.out)))); have n6_ := Aside0.mk (Kd.R_lower (Kd.R_new' (Kd.R_new' (Kd.R_new' (Kd.R_new' ho1 (Kd.R_lt (by (with_reducible repeat (first | apply Kd.R_alloc | apply Kd.R_drewN | apply Kd.R_drew)); exact HO_6.out))) (Kd.R_lt (by (with_reducible repeat (first | apply Kd.R_alloc | apply Kd.R_drewN | apply Kd.R_drew)); exact HO_7.out))) (Kd.R_lt (by (with_reducible repeat (first | apply Kd.R_alloc | apply Kd.R_drewN | apply Kd.R_drew)); exact HO_9.out))) (Kd.R_lt (by (with_reducible repeat (first | apply Kd.R_alloc | apply Kd.R_drewN | apply Kd.R_drew)); exact HO_10.out))) (below_size (by repeat (first | (with_reducible first | exact HB.out | apply below_alloc | apply pw_below_drewN | apply below_drew1) | exact HB.out)))); have n7_ := Aside0.mk (below_step (by repeat (first | (with_reducible first | exact HB.out | apply below_alloc | apply pw_below_drewN | apply below_drew1) | exact HB.out)) hb); clear HO_6; clear HO_7; clear HO_9; clear HO_10; clear HO236; clear HB; have HO_6 := n0_; have HO_7 := n1_; have HO_9 := n2_; have HO_10 := n3_; have HO236 := n4_; have HO240 := n5_; have HO242 := n6_; have HB := n7_; clear n0_ n1_ n2_ n3_ n4_ n5_ n6_ n7_; (try clear hb); (try clear hb2); (try clear hk); (try clear hi); (try clear ho0); (try clear ho1)))
  (try simp only [Act.put, List.setIfInBounds_toArray, List.set_cons_zero, List.set_cons_succ])
  go_cut [103] (fun v103 wc => ∃ (kq : Nat) (x103_62 : Bool), v103 = .bool x103_62 ∧ Aside0 (laws_FnExactTaskSchedule.j2 kq t229 t231 t230 x103_62 = some r) ∧ Aside0 (kq ≤ kj29) ∧ Aside0 (Kd.R (Kd.int .i64) 3 wc w.heap.size (fun k_ => some k_ ≠ ((.slice Ao66 t213.length co66) : Value).ownBlock) (.slice Ao64 t212.length co64) t229) ∧ Aside0 (Kd.R (Kd.int .i64) 3 wc w.heap.size (fun k_ => some k_ ≠ ((.slice Ao64 t212.length co64) : Value).ownBlock) (.slice Ao66 t213.length co66) t231) ∧ Aside0 (Below w.heap.size w wc))
  case first =>
    have H := HC63.out
    clear HC63
    replace H := Option.bind_eq_some_iff.mp H
    obtain ⟨t243, A710, H⟩ := H
    replace H : (if t243 = true then ((laws_eqIntS.f kj29 t238 t204).bind fun t244 => (laws_FnExactTaskSchedule.j2 kj29 t229 t231 t230 (!t244))) else (laws_FnExactTaskSchedule.j2 kj29 t229 t231 t230 true)) = some r := H
    have A71 := Aside0.mk A710
    clear A710
    by_cases c72 : t243 = true
    rotate_left
    · replace c72 := Bool.eq_false_iff.mpr c72
      subst c72
      have H1 : (laws_FnExactTaskSchedule.j2 kj29 t229 t231 t230 true) = some r := by rw [if_neg (show ¬ (false = true) by decide)] at H; exact H
      clear H
      have H := H1
      clear H1
      have H' := Aside0.mk H
      clear H
      obtain ⟨Ao78, co78, eo78⟩ := Kd.R_slice HO240.out
      subst eo78
      obtain ⟨Ao79, co79, eo79⟩ := Kd.R_slice HO_6.out
      subst eo79
      go_wp2_with (first | ((with_reducible refine gate_callee (f := 55) rfl ?_); refine goesL_ (some 96) rfl rfl Try.func55 (by kernel_rfl) rfl #[.slice Ao78 t237.length co78, .slice Ao79 t203.length co79] rfl (by (try simp only [List.map_toArray, List.map_cons, List.map_nil]); first | done | rfl | (simp only [List.length_drop, List.length_take]; rfl)) ?_; (with_reducible refine (laws_eqIntS.calls kj29 _ _ t237 _ _ t203 false _ ?side1 ?side2 ?side3 ?side4 A71.out).mono ?_); (case side1 => repeat (first | exact (Kd.R_reads' HO240.out).2.2 | (with_reducible refine Kd.C_alloc ?_ _) | (with_reducible refine Kd.C_drewN ?_ _) | (with_reducible refine Kd.C_drew ?_))); (case side2 => exact (Kd.R_reads' HO240.out).2.1); (case side3 => repeat (first | exact (Kd.R_reads' HO_6.out).2.2 | (with_reducible refine Kd.C_alloc ?_ _) | (with_reducible refine Kd.C_drewN ?_ _) | (with_reducible refine Kd.C_drew ?_))); (case side4 => exact (Kd.R_reads' HO_6.out).2.1); rintro e w' ⟨rfl, ⟨nd, rfl⟩⟩; refine ⟨_, rfl, ?_⟩))
      go_meet
      case rel => exact ⟨_, (true), (by first | rfl | (simp; done) | (simp [*]; done)), H', ⟨by have := HJ8.out; have := HJ29.out; first | omega | exact Nat.le_refl _⟩, ⟨by (with_reducible repeat (first | apply Kd.R_alloc | apply Kd.R_drewN | apply Kd.R_drew)); exact Kd.R_mono HO_9.out (fun _ hk => hk.1.1.2.2)⟩, ⟨by (with_reducible repeat (first | apply Kd.R_alloc | apply Kd.R_drewN | apply Kd.R_drew)); exact Kd.R_mono HO_10.out (fun _ hk => hk.1.1.2.2)⟩, ⟨by repeat (first | (with_reducible first | exact HB.out | apply below_alloc | apply pw_below_drewN | apply below_drew1) | exact HB.out)⟩⟩
    subst c72
    have H1 : ((laws_eqIntS.f kj29 t238 t204).bind fun t244 => (laws_FnExactTaskSchedule.j2 kj29 t229 t231 t230 (!t244))) = some r := by rw [if_pos rfl] at H; exact H
    clear H
    have H := H1
    clear H1
    replace H := Option.bind_eq_some_iff.mp H
    obtain ⟨t244, A730, H⟩ := H
    replace H : (laws_FnExactTaskSchedule.j2 kj29 t229 t231 t230 (!t244)) = some r := H
    have A73 := Aside0.mk A730
    clear A730
    have H' := Aside0.mk H
    clear H
    obtain ⟨Ao74, co74, eo74⟩ := Kd.R_slice HO240.out
    subst eo74
    obtain ⟨Ao75, co75, eo75⟩ := Kd.R_slice HO_6.out
    subst eo75
    go_wp2_with (first | ((with_reducible refine gate_callee (f := 55) rfl ?_); refine goesL_ (some 96) rfl rfl Try.func55 (by kernel_rfl) rfl #[.slice Ao74 t237.length co74, .slice Ao75 t203.length co75] rfl (by (try simp only [List.map_toArray, List.map_cons, List.map_nil]); first | done | rfl | (simp only [List.length_drop, List.length_take]; rfl)) ?_; (with_reducible refine (laws_eqIntS.calls kj29 _ _ t237 _ _ t203 true _ ?side1 ?side2 ?side3 ?side4 A71.out).mono ?_); (case side1 => repeat (first | exact (Kd.R_reads' HO240.out).2.2 | (with_reducible refine Kd.C_alloc ?_ _) | (with_reducible refine Kd.C_drewN ?_ _) | (with_reducible refine Kd.C_drew ?_))); (case side2 => exact (Kd.R_reads' HO240.out).2.1); (case side3 => repeat (first | exact (Kd.R_reads' HO_6.out).2.2 | (with_reducible refine Kd.C_alloc ?_ _) | (with_reducible refine Kd.C_drewN ?_ _) | (with_reducible refine Kd.C_drew ?_))); (case side4 => exact (Kd.R_reads' HO_6.out).2.1); rintro e w' ⟨rfl, ⟨nd, rfl⟩⟩; refine ⟨_, rfl, ?_⟩; obtain ⟨Ao76, co76, eo76⟩ := Kd.R_slice HO242.out; subst eo76; obtain ⟨Ao77, co77, eo77⟩ := Kd.R_slice HO_7.out; subst eo77) | (go_at_call 55; (with_reducible refine (laws_eqIntS.calls kj29 _ _ t238 _ _ t204 t244 _ ?side1 ?side2 ?side3 ?side4 A73.out).mono ?_); (case side1 => repeat (first | exact (Kd.R_reads' HO242.out).2.2 | (with_reducible refine Kd.C_alloc ?_ _) | (with_reducible refine Kd.C_drewN ?_ _) | (with_reducible refine Kd.C_drew ?_))); (case side2 => exact (Kd.R_reads' HO242.out).2.1); (case side3 => repeat (first | exact (Kd.R_reads' HO_7.out).2.2 | (with_reducible refine Kd.C_alloc ?_ _) | (with_reducible refine Kd.C_drewN ?_ _) | (with_reducible refine Kd.C_drew ?_))); (case side4 => exact (Kd.R_reads' HO_7.out).2.1); rintro e w' ⟨rfl, ⟨nd, rfl⟩⟩))
    go_meet
    case rel => exact ⟨_, (!t244), (by first | rfl | (simp; done) | (simp [*]; done)), H', ⟨by have := HJ8.out; have := HJ29.out; first | omega | exact Nat.le_refl _⟩, ⟨by (with_reducible repeat (first | apply Kd.R_alloc | apply Kd.R_drewN | apply Kd.R_drew)); exact Kd.R_mono HO_9.out (fun _ hk => hk.1.1.2.2)⟩, ⟨by (with_reducible repeat (first | apply Kd.R_alloc | apply Kd.R_drewN | apply Kd.R_drew)); exact Kd.R_mono HO_10.out (fun _ hk => hk.1.1.2.2)⟩, ⟨by repeat (first | (with_reducible first | exact HB.out | apply below_alloc | apply pw_below_drewN | apply below_drew1) | exact HB.out)⟩⟩
  clear HC63
  try clear c1
  try clear c2
  try clear p2
  try clear c3
  try clear c4
  try clear c4b0
  try clear c5
  try clear c6
  try clear c7
  try clear c15
  try clear c17
  try clear c25
  try clear c27
  try clear c28
  try clear c29
  try clear c31
  try clear c35
  try clear c35b0
  try clear c37
  try clear c45
  try clear c49
  try clear c49b0
  try clear c55
  try clear c55b0
  try clear c57
  try clear c59
  try clear c60
  try clear c60b0
  try clear c60b1
  try clear c66
  try clear c67
  try clear c68
  try clear c72
  try clear p2
  obtain ⟨kq, x103_62, rfl, HA, HJ62, HO_9, HO_10, HB⟩ := hcut
  have hl9_62 := (Kd.R_reads' HO_9.out).1
  rw [hl9_62] at HO_9
  (try simp only [hl9_62])
  (try simp only [hl9_62] at HO_10)
  have hl10_62 := (Kd.R_reads' HO_10.out).1
  rw [hl10_62] at HO_10
  (try simp only [hl10_62])
  (try simp only [hl10_62] at HO_9)
  rcases kq with _ | kj62
  · exact absurd HA.out (by simp [laws_FnExactTaskSchedule.j2])
  have H := HA.out
  clear HA
  simp only [laws_FnExactTaskSchedule.j2] at H
  by_cases c80 : x103_62 = true
  · subst c80
    have H1 : (some false) = some r := by rw [if_pos rfl] at H; exact H
    clear H
    have H := H1
    clear H1
    exact absurd (hrt.symm.trans (Option.some.inj H).symm) (by decide)
  replace c80 := Bool.eq_false_iff.mpr c80
  subst c80
  have H1 : ((laws_heldIntS.f kj62 t229 1).bind fun t245 => (if t245 < 0 then (some false) else ((laws_heldIntS.f kj62 t231 t245).bind fun t246 => (if t246 < 0 then (some false) else (if t246 = t230 then (some true) else (some false)))))) = some r := by rw [if_neg (show ¬ (false = true) by decide)] at H; exact H
  clear H
  have H := H1
  clear H1
  replace H := Option.bind_eq_some_iff.mp H
  obtain ⟨t245, A810, H⟩ := H
  replace H : (if t245 < 0 then (some false) else ((laws_heldIntS.f kj62 t231 t245).bind fun t246 => (if t246 < 0 then (some false) else (if t246 = t230 then (some true) else (some false))))) = some r := H
  have A81 := Aside0.mk A810
  clear A810
  by_cases c82 : t245 < 0
  · rw [if_pos c82] at H
    have c82b0 : decide (t245 < 0) = true := decide_eq_true c82
    clear c82
    exact absurd (hrt.symm.trans (Option.some.inj H).symm) (by decide)
  rw [if_neg c82] at H
  have c82b0 : decide (t245 < 0) = false := decide_eq_false c82
  clear c82
  replace H := Option.bind_eq_some_iff.mp H
  obtain ⟨t246, A830, H⟩ := H
  replace H : (if t246 < 0 then (some false) else (if t246 = t230 then (some true) else (some false))) = some r := H
  have A83 := Aside0.mk A830
  clear A830
  by_cases c84 : t246 < 0
  · rw [if_pos c84] at H
    have c84b0 : decide (t246 < 0) = true := decide_eq_true c84
    clear c84
    exact absurd (hrt.symm.trans (Option.some.inj H).symm) (by decide)
  rw [if_neg c84] at H
  have c84b0 : decide (t246 < 0) = false := decide_eq_false c84
  clear c84
  by_cases c85 : t246 = t230
  rotate_left
  · rw [if_neg c85] at H
    have c85b0 : (t246 == t230) = false := beq_eq_false_iff_ne.mpr c85
    have c85b1 : (t246 != t230) = true := bne_iff_ne.mpr c85
    obtain rfl := Option.some.inj H
    go_wp2_with (first | ((with_reducible refine gate_callee (f := 59) rfl ?_); refine goesL_ (some 106) rfl rfl Try.func59 (by kernel_rfl) rfl #[.slice Ao64 t229.length co64, .int .i64 1] rfl (by (try simp only [List.map_toArray, List.map_cons, List.map_nil]); first | done | rfl | (simp only [List.length_drop, List.length_take]; rfl)) ?_; (with_reducible refine (laws_heldIntS.calls kj62 _ _ t229 1 t245 _ ?side1 ?side2 A81.out).mono ?_); (case side1 => repeat (first | exact (Kd.R_reads' HO_9.out).2.2 | (with_reducible refine Kd.C_alloc ?_ _) | (with_reducible refine Kd.C_drewN ?_ _) | (with_reducible refine Kd.C_drew ?_))); (case side2 => exact (Kd.R_reads' HO_9.out).2.1); rintro e w' ⟨rfl, ⟨nd, rfl⟩⟩; refine ⟨_, rfl, ?_⟩) | ((with_reducible refine gate_callee (f := 59) rfl ?_); refine goesL_ (some 111) rfl rfl Try.func59 (by kernel_rfl) rfl #[.slice Ao66 t231.length co66, .int .i64 t245] rfl (by (try simp only [List.map_toArray, List.map_cons, List.map_nil]); first | done | rfl | (simp only [List.length_drop, List.length_take]; rfl)) ?_; (with_reducible refine (laws_heldIntS.calls kj62 _ _ t231 t245 t246 _ ?side1 ?side2 A83.out).mono ?_); (case side1 => repeat (first | exact (Kd.R_reads' HO_10.out).2.2 | (with_reducible refine Kd.C_alloc ?_ _) | (with_reducible refine Kd.C_drewN ?_ _) | (with_reducible refine Kd.C_drew ?_))); (case side2 => exact (Kd.R_reads' HO_10.out).2.1); rintro e w' ⟨rfl, ⟨nd, rfl⟩⟩; refine ⟨_, rfl, ?_⟩))
    go_ret
    exact ⟨by first | rfl | (simp [errW_none, errW_some] <;> rfl) | (simp [*, errW_none, errW_some] <;> rfl), by repeat (first | (with_reducible first | exact HB.out | apply below_alloc | apply pw_below_drewN | apply below_drew1) | exact HB.out)⟩
  rw [if_pos c85] at H
  have c85b0 : (t246 == t230) = true := beq_iff_eq.mpr c85
  have c85b1 : (t246 != t230) = false := bne_eq_false_iff_eq.mpr c85
  clear c85
  obtain rfl := Option.some.inj H
  go_wp2_with (first | ((with_reducible refine gate_callee (f := 59) rfl ?_); refine goesL_ (some 106) rfl rfl Try.func59 (by kernel_rfl) rfl #[.slice Ao64 t229.length co64, .int .i64 1] rfl (by (try simp only [List.map_toArray, List.map_cons, List.map_nil]); first | done | rfl | (simp only [List.length_drop, List.length_take]; rfl)) ?_; (with_reducible refine (laws_heldIntS.calls kj62 _ _ t229 1 t245 _ ?side1 ?side2 A81.out).mono ?_); (case side1 => repeat (first | exact (Kd.R_reads' HO_9.out).2.2 | (with_reducible refine Kd.C_alloc ?_ _) | (with_reducible refine Kd.C_drewN ?_ _) | (with_reducible refine Kd.C_drew ?_))); (case side2 => exact (Kd.R_reads' HO_9.out).2.1); rintro e w' ⟨rfl, ⟨nd, rfl⟩⟩; refine ⟨_, rfl, ?_⟩) | ((with_reducible refine gate_callee (f := 59) rfl ?_); refine goesL_ (some 111) rfl rfl Try.func59 (by kernel_rfl) rfl #[.slice Ao66 t231.length co66, .int .i64 t245] rfl (by (try simp only [List.map_toArray, List.map_cons, List.map_nil]); first | done | rfl | (simp only [List.length_drop, List.length_take]; rfl)) ?_; (with_reducible refine (laws_heldIntS.calls kj62 _ _ t231 t245 t246 _ ?side1 ?side2 A83.out).mono ?_); (case side1 => repeat (first | exact (Kd.R_reads' HO_10.out).2.2 | (with_reducible refine Kd.C_alloc ?_ _) | (with_reducible refine Kd.C_drewN ?_ _) | (with_reducible refine Kd.C_drew ?_))); (case side2 => exact (Kd.R_reads' HO_10.out).2.1); rintro e w' ⟨rfl, ⟨nd, rfl⟩⟩; refine ⟨_, rfl, ?_⟩))
  go_ret
  exact ⟨by first | rfl | (simp [errW_none, errW_some] <;> rfl) | (simp [*, errW_none, errW_some] <;> rfl), by repeat (first | (with_reducible first | exact HB.out | apply below_alloc | apply pw_below_drewN | apply below_drew1) | exact HB.out)⟩
end Go.Proofs.Ythbbhdadioiefaa.QFnExactTaskSchedule
