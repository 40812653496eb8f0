-- Written by wip/pr2.py: a program of this session's own, which runs the kit's print over contracts of its own.
import Derived.Test.YtdbbdikkboppnaaQFnExactTraceFromx0
namespace Go.Proofs.Ytdbbdikkboppnaa.QFnExactTraceFrom
open Go.RowKit Go.Proofs.YtdbbdikkboppnaaW.PrintWords Go.Proofs.YtdbbdikkboppnaaW.PrintLast Go.Proofs.YtdbbdikkboppnaaW.PrintMore
attribute [local go_sem] max2_int min2_int max_two min_two max_three min_three max_four min_four   -- for this text's walks alone
set_option linter.unusedVariables false
set_option linter.unusedSimpArgs false

/-! ### laws_markIntS_w: function 31 -/
def laws_markIntS_w.l0 : Nat → List Int → Int → Int → Option (Int × List Int)
  | 0, _, _, _ => none
  | k + 1, x0, x1, x5 => if x5 < (x0.length : Int) then (if 0 ≤ x5 then (laws_markIntS_w.l0 k (x0.set (x5 : Int).toNat x1) (wrap64 (x1 + 1)) (wrap64 (x5 + 1))) else (none)) else (some (x1, x0))
def laws_markIntS_w.f (k : Nat) (l0 : List Int) (a1 : Int) : Option (Int × List Int) := laws_markIntS_w.l0 k l0 a1 0
theorem laws_markIntS_w.mono_l : ∀ k, (∀ y0 y1 y2, LeO (laws_markIntS_w.l0 k y0 y1 y2) (laws_markIntS_w.l0 (k + 1) y0 y1 y2))
  | 0 => fun _ _ _ r h => by simp [laws_markIntS_w.l0] at h
  | k + 1 => by
    have ih0 := laws_markIntS_w.mono_l k
    · intro y0 y1 y2
      unfold laws_markIntS_w.l0
      repeat' first
      | (with_reducible exact ih0 _ _ _)
      | (with_reducible exact LeO.refl _)
      | (with_reducible exact LeO.none _)
      | (with_reducible refine LeO.ite ?_ ?_)
      | (with_reducible refine LeO.bind ?_ (fun _ => ?_))
      | exact ih0 _ _ _
      | exact LeO.none _
      | refine LeO.ite ?_ ?_
      | refine LeO.bind ?_ (fun _ => ?_)
theorem laws_markIntS_w.mono : ∀ a0 a1 k, LeO (laws_markIntS_w.f k a0 a1) (laws_markIntS_w.f (k + 1) a0 a1) := by
  intro a0 a1 k
  have ih0 := laws_markIntS_w.mono_l k
  unfold laws_markIntS_w.f
  repeat' first
      | (with_reducible exact ih0 _ _ _)
      | (with_reducible exact LeO.refl _)
      | (with_reducible exact LeO.none _)
      | (with_reducible refine LeO.ite ?_ ?_)
      | (with_reducible refine LeO.bind ?_ (fun _ => ?_))
      | exact ih0 _ _ _
      | exact LeO.none _
      | refine LeO.ite ?_ ?_
      | refine LeO.bind ?_ (fun _ => ?_)
set_option maxHeartbeats 8000000 in
set_option maxRecDepth 100000 in
theorem laws_markIntS_w.calls (k : Nat) (P0_ : Nat → Prop) (u9000_ : Value) (l0 : List Int) (a1 : Int) (r1 : Int) (r2 : List Int) (w0 w : World) (hB : Below w0.heap.size w0 w) (ho0 : Kd.W (Kd.int .i64) 3 w w0.heap.size P0_ u9000_ l0) (h : laws_markIntS_w.f k l0 a1 = some (r1, r2)) :
    Calls Try.prog 31 #[u9000_, .int .i64 a1] w fun e w' => e = .returned (.int .i64 r1) ∧ Kd.W (Kd.int .i64) 3 w' w0.heap.size (fun k_ => (P0_ k_ ∨ w.heap.size ≤ k_)) u9000_ r2 ∧ Below w0.heap.size w0 w' ∧ Kept w w' (fun k_ => P0_ k_) := by
  have HO0 := Aside0.mk (show Kd.W (Kd.int .i64) 3 w w0.heap.size (fun k_ => (P0_ k_ ∨ w.heap.size ≤ k_)) u9000_ l0 from Kd.Wr_mono ho0 (fun k_ hk => (.inl hk)))
  have HK := Aside0.mk (Kept.refl w (fun k_ => P0_ k_))
  have HW0 := Aside0.mk hB.size
  have HB := Aside0.mk hB
  clear hB
  have H : (laws_markIntS_w.l0 k l0 a1 0) = some (r1, r2) := h
  clear h
  have H' := Aside0.mk H
  clear H
  go_enter Try.func31, Try.ntmps31
  go_wp2
  go_loopg [1, 5] k (fun kq v1 v5 w' => ∃ (x0_1 : List Int) (x1_1 : Int) (x5_1 : Int), v1 = .int .i64 x1_1 ∧ v5 = .int .i64 x5_1 ∧ Aside0 (laws_markIntS_w.l0 kq x0_1 x1_1 x5_1 = some (r1, r2)) ∧ Aside0 (kq ≤ k) ∧ Aside0 (Kd.W (Kd.int .i64) 3 w' w0.heap.size (fun k_ => (P0_ k_ ∨ w.heap.size ≤ k_)) u9000_ x0_1) ∧ Aside0 (Kept w w' (fun k_ => P0_ k_)) ∧ Aside0 (Below w0.heap.size w0 w'))
  case atStart => exact ⟨(l0), (a1), (0), (by first | rfl | (simp; done) | (simp [*]; done)), (by first | rfl | (simp; done) | (simp [*]; done)), H', ⟨Nat.le_refl _⟩, ⟨by (with_reducible repeat (first | apply Kd.Wr_alloc | apply Kd.Wr_drewN | apply Kd.Wr_drew)); exact HO0.out⟩, ⟨by repeat (first | (with_reducible first | exact HK.out | apply Kept.alloc | apply Kept.drewN | apply Kept.drew) | exact HK.out)⟩, ⟨by repeat (first | (with_reducible first | exact HB.out | apply below_alloc | apply pw_below_drewN | apply below_drew1) | exact HB.out)⟩⟩
  case round =>
    clear H'
    try clear p2
    obtain ⟨x0_1, x1_1, x5_1, rfl, rfl, HA, HK1, HO_0, HK, HB⟩ := hrel
    cases gk with
    | zero => exact absurd HA.out (by simp [laws_markIntS_w.l0])
    | succ k1 =>
      have H := HA.out
      clear HA
      simp only [laws_markIntS_w.l0] at H
      by_cases c3 : x5_1 < (x0_1.length : Int)
      · rw [if_pos c3] at H
        have c3b0 : decide (x5_1 < (x0_1.length : Int)) = true := decide_eq_true c3
        clear c3
        by_cases c4 : 0 ≤ x5_1
        · rw [if_pos c4] at H
          have c4b0 : decide (0 ≤ x5_1) = true := decide_eq_true c4
          clear c4
          obtain ⟨y112, hy112⟩ : ∃ y_ : List Int, y_ = (x0_1.set (x5_1 : Int).toNat x1_1) := ⟨_, rfl⟩
          replace H : (laws_markIntS_w.l0 k1 y112 (wrap64 (x1_1 + 1)) (wrap64 (x5_1 + 1))) = some (r1, r2) := by first | (rw [hy112]; with_reducible exact H) | (have H2_ := (Option.bind_some _ _).symm.trans H; rw [hy112]; with_reducible exact H2_) | (have H2_ := (Option.bind_some _ _).symm.trans H; with_reducible exact H2_) | with_reducible exact H | (rw [hy112]; exact H) | exact H
          have Ny112 := Aside0.mk hy112
          clear hy112
          have H' := Aside0.mk H
          clear H
          obtain ⟨Ao6, co6, eo6⟩ := Kd.Wr_slice HO_0.out
          subst eo6
          have p5 : 0 ≤ (x5_1 : Int) := of_decide_eq_true (by first | (with_reducible assumption) | assumption)
          have q5 : (x5_1 : Int) < ((x0_1.length : Int) : Int) := of_decide_eq_true (by first | (with_reducible assumption) | assumption)
          obtain ⟨go5, co5, eo5, gb5, gl5, cl5, HG5⟩ := Kd.Wr_form HO_0.out (by omega)
          (first | cases eo5 | (injection eo5 with ea_ en_ ec_; (first | subst ea_ | (injection ea_ with ea_; subst ea_)); subst ec_; clear en_))
          have GB5 := Aside0.mk gb5
          have GG5 := Aside0.mk HG5
          clear gb5 gl5 HG5
          have HMgo5 := Aside0.mk (show (P0_ go5 ∨ w.heap.size ≤ go5) from (HO_0.out.1 _ rfl))
          obtain ⟨hx5_0, hf5_0⟩ := Kd.Wr_celln 0 HO_0.out (x5_1 : Int) p5 q5
          replace p5 := eq_true p5
          replace q5 := eq_true q5
          have HP7 := Kd.Wr_putg HO_0.out (x5_1 : Int) x1_1
          go_wp2_with (first | ((with_reducible refine gate_store (t := 3) (p := 15) rfl ?_); refine store_event (t := 3) (p := 15) (v := ?vo_w8) (w1 := (wr.setCell ⟨go5, (x5_1 : Int).toNat, none⟩ (.int .i64 x1_1))) ?hg ?ho ?hn ?hr ?_; (case ho => rfl); (case hg => rfl); (case hn => rfl); (case hr => first | (go_simp; done) | (go_simp; rfl)); intro w8 hw; have hg : wr.grownBy w8 (some go5) := (by rw [hw]; exact HP7.2); have hp_ : Kd.W (Kd.int .i64) 3 w8 w0.heap.size (fun k_ => (P0_ k_ ∨ w.heap.size ≤ k_)) (.slice (some ⟨go5, 0, none⟩) x0_1.length co6) y112 := (by rw [hw, Ny112.out]; exact HP7.1); clear HP7; have n0_ := Aside0.mk (hp_); have n1_ := Aside0.mk ((by rw [hw]; exact below_set (HB.out) GB5.out : Below w0.heap.size w0 w8)); have n2_ := Aside0.mk (Kept.of_grown (S := (fun k_ => P0_ k_)) hg (by repeat (first | (with_reducible first | exact HK.out | apply Kept.alloc | apply Kept.drewN | apply Kept.drew) | exact HK.out)) (fun k_ e_ => (HO_0.out.1 k_ e_))); clear HO_0; clear HB; clear HK; have HO_0 := n0_; have HB := n1_; have HK := n2_; clear n0_ n1_ n2_; clear hg hw hp_))
          go_roundg k1
          case measure => have := HK1.out; omega
          case rel => exact ⟨(y112), (wrap64 (x1_1 + 1)), (wrap64 (x5_1 + 1)), (by first | rfl | (simp; done) | (simp [*]; done)), (by first | rfl | (simp; done) | (simp [*]; done)), H', ⟨by have := HK1.out; omega⟩, ⟨by (with_reducible repeat (first | apply Kd.Wr_alloc | apply Kd.Wr_drewN | apply Kd.Wr_drew)); exact HO_0.out⟩, ⟨by repeat (first | (with_reducible first | exact HK.out | apply Kept.alloc | apply Kept.drewN | apply Kept.drew) | exact HK.out)⟩, ⟨by repeat (first | (with_reducible first | exact HB.out | apply below_alloc | apply pw_below_drewN | apply below_drew1) | exact HB.out)⟩⟩
        · rw [if_neg c4] at H
          exact absurd H (by simp)
      · rw [if_neg c3] at H
        have c3b0 : decide (x5_1 < (x0_1.length : Int)) = false := decide_eq_false c3
        clear c3
        simp only [Option.some.injEq, Prod.mk.injEq] at H
        obtain ⟨rfl, rfl⟩ := H
        obtain ⟨Ao9, co9, eo9⟩ := Kd.Wr_slice HO_0.out
        subst eo9
        go_wp2
        go_ret
        exact ⟨by first | rfl | (simp [errW_none, errW_some] <;> rfl) | (simp [*, errW_none, errW_some] <;> rfl), by (with_reducible repeat (first | apply Kd.Wr_alloc | apply Kd.Wr_drewN | apply Kd.Wr_drew)); exact HO_0.out, by repeat (first | (with_reducible first | exact HB.out | apply below_alloc | apply pw_below_drewN | apply below_drew1) | exact HB.out), by repeat (first | (with_reducible first | exact HK.out | apply Kept.alloc | apply Kept.drewN | apply Kept.drew) | exact HK.out)⟩

/-! ### spec_l1In: function 55 -/
def spec_l1In.f (a0 : Int) (a1 : Int) (a2 : Int) : Option (Bool) := if a0 ≥ a1 then (some (decide (a0 ≤ a2))) else (some false)
set_option maxHeartbeats 8000000 in
set_option maxRecDepth 100000 in
theorem spec_l1In.calls (a0 : Int) (a1 : Int) (a2 : Int) (r : Bool) (w : World) (h : spec_l1In.f a0 a1 a2 = some r) :
    Calls Try.prog 55 #[.int .i64 a0, .int .i64 a1, .int .i64 a2] w fun e w' => e = .returned (.bool r) ∧ Drawn0 w w' := by
  have H : (if a0 ≥ a1 then (some (decide (a0 ≤ a2))) else (some false)) = some r := h
  clear h
  by_cases c4 : a0 ≥ a1
  · rw [if_pos c4] at H
    have c4b0 : decide (a1 ≤ a0) = true := decide_eq_true c4
    clear c4
    obtain rfl := Option.some.inj H
    go_enter Try.func55, Try.ntmps55
    go_wp2
    go_ret
    exact ⟨by first | rfl | (simp; done) | (simp [*]; done), by repeat (first | exact Drawn0.refl _ | apply Drawn0.step)⟩
  · rw [if_neg c4] at H
    have c4b0 : decide (a1 ≤ a0) = false := decide_eq_false c4
    clear c4
    obtain rfl := Option.some.inj H
    go_enter Try.func55, Try.ntmps55
    go_wp2
    go_ret
    exact ⟨by first | rfl | (simp; done) | (simp [*]; done), by repeat (first | exact Drawn0.refl _ | apply Drawn0.step)⟩

/-! ### spec_TraceFrom: function 32 -/
mutual
def spec_TraceFrom.l0 : Nat → List Int → List Bool → Int → Option (List Bool × Bool)
  | 0, _, _, _ => none
  | k + 1, x0, x4, x5 => if x5 < (x0.length : Int) then (if 0 ≤ x5 then ((spec_l1In.f (rd x0 x5) 0 (wrap64 (200 - (x4.length : Int)))).bind fun t117 => (if t117 = true then (if (rd x0 x5) = 0 then (if x5 > 0 then (spec_TraceFrom.j1 k x0 x4 x5 true) else (spec_TraceFrom.j1 k x0 x4 x5 ((x0.length : Int) == 1))) else (spec_TraceFrom.j1 k x0 x4 x5 false)) else (spec_TraceFrom.j1 k x0 x4 x5 true))) else (none)) else (some (x4, true))
def spec_TraceFrom.j1 : Nat → List Int → List Bool → Int → Bool → Option (List Bool × Bool)
  | 0, _, _, _, _ => none
  | k + 1, x0, x4, x5, x38 => if x38 = true then (some ((([] : List Bool)), false)) else (spec_TraceFrom.l1 k x0 x4 x5 0)
def spec_TraceFrom.l1 : Nat → List Int → List Bool → Int → Int → Option (List Bool × Bool)
  | 0, _, _, _, _ => none
  | k + 1, x0, x4, x5, x6 => if 0 ≤ x5 then (if x5 < (x0.length : Int) then (if x6 < (rd x0 x5) then (if x4.length < 140737488355328 then (spec_TraceFrom.l1 k x0 (x4 ++ [((Int.tmod x5 2) == 1)]) x5 (wrap64 (x6 + 1))) else (none)) else (spec_TraceFrom.l0 k x0 x4 (wrap64 (x5 + 1)))) else (none)) else (none)
end
def spec_TraceFrom.f (k : Nat) (l0 : List Int) : Option (List Bool × Bool) := spec_TraceFrom.l0 k l0 (([] : List Bool)) 0
theorem spec_TraceFrom.mono_l : ∀ k, (∀ y0 y1 y2, LeO (spec_TraceFrom.l0 k y0 y1 y2) (spec_TraceFrom.l0 (k + 1) y0 y1 y2)) ∧ (∀ y0 y1 y2 y3, LeO (spec_TraceFrom.j1 k y0 y1 y2 y3) (spec_TraceFrom.j1 (k + 1) y0 y1 y2 y3)) ∧ (∀ y0 y1 y2 y3, LeO (spec_TraceFrom.l1 k y0 y1 y2 y3) (spec_TraceFrom.l1 (k + 1) y0 y1 y2 y3))
  | 0 => ⟨fun _ _ _ r h => by simp [spec_TraceFrom.l0] at h, fun _ _ _ _ r h => by simp [spec_TraceFrom.j1] at h, fun _ _ _ _ r h => by simp [spec_TraceFrom.l1] at h⟩
  | k + 1 => by
    obtain ⟨ih0, ih1, ih2⟩ := spec_TraceFrom.mono_l k
    refine ⟨?_, ?_, ?_⟩
    · intro y0 y1 y2
      unfold spec_TraceFrom.l0
      repeat' first
      | (with_reducible exact ih0 _ _ _)
      | (with_reducible exact ih1 _ _ _ _)
      | (with_reducible exact ih2 _ _ _ _)
      | (with_reducible exact LeO.refl _)
      | (with_reducible exact LeO.none _)
      | (with_reducible refine LeO.ite ?_ ?_)
      | (with_reducible refine LeO.bind ?_ (fun _ => ?_))
      | exact ih0 _ _ _
      | exact ih1 _ _ _ _
      | exact ih2 _ _ _ _
      | exact LeO.none _
      | refine LeO.ite ?_ ?_
      | refine LeO.bind ?_ (fun _ => ?_)
    · intro y0 y1 y2 y3
      unfold spec_TraceFrom.j1
      repeat' first
      | (with_reducible exact ih0 _ _ _)
      | (with_reducible exact ih1 _ _ _ _)
      | (with_reducible exact ih2 _ _ _ _)
      | (with_reducible exact LeO.refl _)
      | (with_reducible exact LeO.none _)
      | (with_reducible refine LeO.ite ?_ ?_)
      | (with_reducible refine LeO.bind ?_ (fun _ => ?_))
      | exact ih0 _ _ _
      | exact ih1 _ _ _ _
      | exact ih2 _ _ _ _
      | exact LeO.none _
      | refine LeO.ite ?_ ?_
      | refine LeO.bind ?_ (fun _ => ?_)
    · intro y0 y1 y2 y3
      unfold spec_TraceFrom.l1
      repeat' first
      | (with_reducible exact ih0 _ _ _)
      | (with_reducible exact ih1 _ _ _ _)
      | (with_reducible exact ih2 _ _ _ _)
      | (with_reducible exact LeO.refl _)
      | (with_reducible exact LeO.none _)
      | (with_reducible refine LeO.ite ?_ ?_)
      | (with_reducible refine LeO.bind ?_ (fun _ => ?_))
      | exact ih0 _ _ _
      | exact ih1 _ _ _ _
      | exact ih2 _ _ _ _
      | exact LeO.none _
      | refine LeO.ite ?_ ?_
      | refine LeO.bind ?_ (fun _ => ?_)
theorem spec_TraceFrom.mono : ∀ a0 k, LeO (spec_TraceFrom.f k a0) (spec_TraceFrom.f (k + 1) a0) := by
  intro a0 k
  obtain ⟨ih0, ih1, ih2⟩ := spec_TraceFrom.mono_l k
  unfold spec_TraceFrom.f
  repeat' first
      | (with_reducible exact ih0 _ _ _)
      | (with_reducible exact ih1 _ _ _ _)
      | (with_reducible exact ih2 _ _ _ _)
      | (with_reducible exact LeO.refl _)
      | (with_reducible exact LeO.none _)
      | (with_reducible refine LeO.ite ?_ ?_)
      | (with_reducible refine LeO.bind ?_ (fun _ => ?_))
      | exact ih0 _ _ _
      | exact ih1 _ _ _ _
      | exact ih2 _ _ _ _
      | exact LeO.none _
      | refine LeO.ite ?_ ?_
      | refine LeO.bind ?_ (fun _ => ?_)
set_option maxHeartbeats 8000000 in
set_option maxRecDepth 100000 in
theorem spec_TraceFrom.calls (k : Nat) (A0 : Option Addr) (c0 : Nat) (l0 : List Int) (r1 : List Bool) (r2 : Bool) (w : World) (hr0 : Kd.C (Kd.int .i64) w A0 l0.length l0) (hc0 : l0.length ≤ c0) (h : spec_TraceFrom.f k l0 = some (r1, r2)) :
    Calls Try.prog 32 #[.slice A0 l0.length c0] w fun e w' => ∃ v0_ : Value, e = .returned (.tuple #[v0_, .bool r2]) ∧ Kd.R Kd.bool 4 w' w.heap.size (fun _ => True) v0_ r1 ∧ Below w.heap.size w w' := by
  have HR0 := Aside0.mk hr0
  have HC0 := Aside0.mk hc0
  clear hr0 hc0
  have HB := Aside0.mk (Below.refl w.heap.size w)
  have H : (spec_TraceFrom.l0 k l0 (([] : List Bool)) 0) = some (r1, r2) := h
  clear h
  obtain ⟨y113, hy113⟩ : ∃ y_ : List Bool, y_ = (([] : List Bool)) := ⟨_, rfl⟩
  replace H : (spec_TraceFrom.l0 k l0 y113 0) = some (r1, r2) := by first | (rw [hy113]; with_reducible exact H) | (have H2_ := (Option.bind_some _ _).symm.trans H; rw [hy113]; with_reducible exact H2_) | (have H2_ := (Option.bind_some _ _).symm.trans H; with_reducible exact H2_) | with_reducible exact H | (rw [hy113]; exact H) | exact H
  have Ny113 := Aside0.mk hy113
  clear hy113
  have H' := Aside0.mk H
  clear H
  go_enter Try.func32, Try.ntmps32
  go_wp2_with (first | ((with_reducible refine gate_dst (N := 7) rfl ?_); (try (refine gate_guard (by rfl) ?_; dsimp only)); refine Kd.R_lit Kd.bool _ 4 ?hg (N := 7) ?hd (xs := ([] : List Bool)) (inner := []) (ok := fun _ => True) (okp := fun _ => True) ?hr ?hp (fun _ hk => hk) trivial (Below.refl _ _) (Nat.le_refl _) (by simp) ?_; (case hd => rfl); (case hg => rfl); (case hr => first | (go_simp; done) | (go_simp; rfl)); (case hp => exact (Reps.none _ _)); intro v114 w2 ho3 hb hg_ hnew_; clear hg_ hnew_; (first | rw [← Ny113.out] at ho3 | (simp only [Int.reduceToNat] at ho3; rw [← Ny113.out] at ho3)); have n0_ := Aside0.mk (Kd.R_lower ho3 (below_size (by repeat (first | (with_reducible first | exact HB.out | apply below_alloc | apply pw_below_drewN | apply below_drew1) | exact HB.out)))); have n1_ := Aside0.mk (below_step (by repeat (first | (with_reducible first | exact HB.out | apply below_alloc | apply pw_below_drewN | apply below_drew1) | exact HB.out)) hb); clear HB; have HO115 := n0_; have HB := n1_; clear n0_ n1_; clear hb ho3))
  go_loopg [4, 5] k (fun kq v4 v5 w' => ∃ (x4_1 : List Bool) (x5_1 : Int), v5 = .int .i64 x5_1 ∧ Aside0 (spec_TraceFrom.l0 kq l0 x4_1 x5_1 = some (r1, r2)) ∧ Aside0 (kq ≤ k) ∧ Aside0 (Kd.R Kd.bool 4 w' w.heap.size (fun _ => True) v4 x4_1) ∧ Aside0 (Below w.heap.size w w'))
  case atStart => exact ⟨(y113), (0), (by first | rfl | (simp; done) | (simp [*]; done)), H', ⟨Nat.le_refl _⟩, ⟨by (with_reducible repeat (first | apply Kd.R_alloc | apply Kd.R_drewN | apply Kd.R_drew)); exact HO115.out⟩, ⟨by repeat (first | (with_reducible first | exact HB.out | apply below_alloc | apply pw_below_drewN | apply below_drew1) | exact HB.out)⟩⟩
  case round =>
    clear H'
    try clear p2
    try clear c3
    obtain ⟨x4_1, x5_1, rfl, HA, HK1, HO_4, HB⟩ := hrel
    cases gk with
    | zero => exact absurd HA.out (by simp [spec_TraceFrom.l0])
    | succ k1 =>
      have H := HA.out
      clear HA
      simp only [spec_TraceFrom.l0] at H
      by_cases c4 : x5_1 < (l0.length : Int)
      · rw [if_pos c4] at H
        have c4b0 : decide (x5_1 < (l0.length : Int)) = true := decide_eq_true c4
        clear c4
        have HC5 := Aside0.mk H
        clear H
        go_upto_region 5 with (fail)
        go_cut [38] (fun v38 wc => ∃ (kq : Nat) (x38_4 : Bool), v38 = .bool x38_4 ∧ Aside0 (spec_TraceFrom.j1 kq l0 x4_1 x5_1 x38_4 = some (r1, r2)) ∧ Aside0 (kq ≤ k1) ∧ Aside0 (Kd.R Kd.bool 4 wc w.heap.size (fun _ => True) u4 x4_1) ∧ Aside0 (Below w.heap.size w wc))
        case first =>
          have H := HC5.out
          clear HC5
          by_cases c6 : 0 ≤ x5_1
          · rw [if_pos c6] at H
            have c6b0 : decide (0 ≤ x5_1) = true := decide_eq_true c6
            clear c6
            (first | rw [c6b0] | (simp only [i64_w, i32_w]; rw [c6b0]) | skip)
            replace H := Option.bind_eq_some_iff.mp H
            obtain ⟨t117, A70, H⟩ := H
            replace H : (if t117 = true then (if (rd l0 x5_1) = 0 then (if x5_1 > 0 then (spec_TraceFrom.j1 k1 l0 x4_1 x5_1 true) else (spec_TraceFrom.j1 k1 l0 x4_1 x5_1 ((l0.length : Int) == 1))) else (spec_TraceFrom.j1 k1 l0 x4_1 x5_1 false)) else (spec_TraceFrom.j1 k1 l0 x4_1 x5_1 true)) = some (r1, r2) := H
            have A7 := Aside0.mk A70
            clear A70
            by_cases c8 : t117 = true
            · subst c8
              have H1 : (if (rd l0 x5_1) = 0 then (if x5_1 > 0 then (spec_TraceFrom.j1 k1 l0 x4_1 x5_1 true) else (spec_TraceFrom.j1 k1 l0 x4_1 x5_1 ((l0.length : Int) == 1))) else (spec_TraceFrom.j1 k1 l0 x4_1 x5_1 false)) = some (r1, r2) := by rw [if_pos rfl] at H; exact H
              clear H
              have H := H1
              clear H1
              by_cases c9 : (rd l0 x5_1) = 0
              · rw [if_pos c9] at H
                have c9b0 : ((rd l0 x5_1) == 0) = true := beq_iff_eq.mpr c9
                have c9b1 : ((rd l0 x5_1) != 0) = false := bne_eq_false_iff_eq.mpr c9
                clear c9
                by_cases c10 : x5_1 > 0
                · rw [if_pos c10] at H
                  have c10b0 : decide (0 < x5_1) = true := decide_eq_true c10
                  clear c10
                  have H' := Aside0.mk H
                  clear H
                  have p116 : 0 ≤ (x5_1 : Int) := of_decide_eq_true (by first | (with_reducible assumption) | assumption)
                  have q116 : x5_1 < (l0.length : Int) := of_decide_eq_true (by first | (with_reducible assumption) | assumption)
                  obtain ⟨ad116, e116, hx116_0⟩ := Kd.at_int HR0.out x5_1 p116 q116
                  cases e116
                  replace hx116_0 := (HB.out.cell (World.block_lt_of_cell? w _ hx116_0)).trans hx116_0
                  replace p116 := eq_true p116
                  replace q116 := eq_true q116
                  obtain ⟨Ao11, co11, eo11⟩ := Kd.R_slice HO_4.out
                  subst eo11
                  go_wp2_with (first | ((with_reducible refine gate_callee (f := 55) rfl ?_); refine goesL_ (some 21) rfl rfl Try.func55 (by kernel_rfl) rfl #[.int .i64 (rd l0 x5_1), .int .i64 0, .int .i64 (wrap64 (200 - (x4_1.length : Int)))] rfl (by (try simp only [List.map_toArray, List.map_cons, List.map_nil]); first | done | rfl | (simp only [List.length_drop, List.length_take]; rfl)) ?_; (with_reducible refine (spec_l1In.calls (rd l0 x5_1) 0 (wrap64 (200 - (x4_1.length : Int))) true _ A7.out).mono ?_); rintro e w' ⟨rfl, ⟨nd, rfl⟩⟩; refine ⟨_, rfl, ?_⟩; have p118 : 0 ≤ (x5_1 : Int) := of_decide_eq_true (by first | (with_reducible assumption) | assumption); have q118 : x5_1 < (l0.length : Int) := of_decide_eq_true (by first | (with_reducible assumption) | assumption); obtain ⟨ad118, e118, hx118_0⟩ := Kd.at_int HR0.out x5_1 p118 q118; obtain rfl : ad116 = ad118 := (by injection e118); replace hx118_0 := (HB.out.cell (World.block_lt_of_cell? w _ hx118_0)).trans hx118_0; replace p118 := eq_true p118; replace q118 := eq_true q118))
                  go_meet
                  case rel => exact ⟨_, (true), (by first | rfl | (simp; done) | (simp [*]; done)), H', ⟨by have := HK1.out; first | omega | exact Nat.le_refl _⟩, ⟨by (with_reducible repeat (first | apply Kd.R_alloc | apply Kd.R_drewN | apply Kd.R_drew)); exact HO_4.out⟩, ⟨by repeat (first | (with_reducible first | exact HB.out | apply below_alloc | apply pw_below_drewN | apply below_drew1) | exact HB.out)⟩⟩
                · rw [if_neg c10] at H
                  have c10b0 : decide (0 < x5_1) = false := decide_eq_false c10
                  clear c10
                  have H' := Aside0.mk H
                  clear H
                  have p116 : 0 ≤ (x5_1 : Int) := of_decide_eq_true (by first | (with_reducible assumption) | assumption)
                  have q116 : x5_1 < (l0.length : Int) := of_decide_eq_true (by first | (with_reducible assumption) | assumption)
                  obtain ⟨ad116, e116, hx116_0⟩ := Kd.at_int HR0.out x5_1 p116 q116
                  cases e116
                  replace hx116_0 := (HB.out.cell (World.block_lt_of_cell? w _ hx116_0)).trans hx116_0
                  replace p116 := eq_true p116
                  replace q116 := eq_true q116
                  obtain ⟨Ao12, co12, eo12⟩ := Kd.R_slice HO_4.out
                  subst eo12
                  go_wp2_with (first | ((with_reducible refine gate_callee (f := 55) rfl ?_); refine goesL_ (some 21) rfl rfl Try.func55 (by kernel_rfl) rfl #[.int .i64 (rd l0 x5_1), .int .i64 0, .int .i64 (wrap64 (200 - (x4_1.length : Int)))] rfl (by (try simp only [List.map_toArray, List.map_cons, List.map_nil]); first | done | rfl | (simp only [List.length_drop, List.length_take]; rfl)) ?_; (with_reducible refine (spec_l1In.calls (rd l0 x5_1) 0 (wrap64 (200 - (x4_1.length : Int))) true _ A7.out).mono ?_); rintro e w' ⟨rfl, ⟨nd, rfl⟩⟩; refine ⟨_, rfl, ?_⟩; have p118 : 0 ≤ (x5_1 : Int) := of_decide_eq_true (by first | (with_reducible assumption) | assumption); have q118 : x5_1 < (l0.length : Int) := of_decide_eq_true (by first | (with_reducible assumption) | assumption); obtain ⟨ad118, e118, hx118_0⟩ := Kd.at_int HR0.out x5_1 p118 q118; obtain rfl : ad116 = ad118 := (by injection e118); replace hx118_0 := (HB.out.cell (World.block_lt_of_cell? w _ hx118_0)).trans hx118_0; replace p118 := eq_true p118; replace q118 := eq_true q118))
                  go_meet
                  case rel => exact ⟨_, (((l0.length : Int) == 1)), (by first | rfl | (simp; done) | (simp [*]; done)), H', ⟨by have := HK1.out; first | omega | exact Nat.le_refl _⟩, ⟨by (with_reducible repeat (first | apply Kd.R_alloc | apply Kd.R_drewN | apply Kd.R_drew)); exact HO_4.out⟩, ⟨by repeat (first | (with_reducible first | exact HB.out | apply below_alloc | apply pw_below_drewN | apply below_drew1) | exact HB.out)⟩⟩
              · rw [if_neg c9] at H
                have c9b0 : ((rd l0 x5_1) == 0) = false := beq_eq_false_iff_ne.mpr c9
                have c9b1 : ((rd l0 x5_1) != 0) = true := bne_iff_ne.mpr c9
                have H' := Aside0.mk H
                clear H
                have p116 : 0 ≤ (x5_1 : Int) := of_decide_eq_true (by first | (with_reducible assumption) | assumption)
                have q116 : x5_1 < (l0.length : Int) := of_decide_eq_true (by first | (with_reducible assumption) | assumption)
                obtain ⟨ad116, e116, hx116_0⟩ := Kd.at_int HR0.out x5_1 p116 q116
                cases e116
                replace hx116_0 := (HB.out.cell (World.block_lt_of_cell? w _ hx116_0)).trans hx116_0
                replace p116 := eq_true p116
                replace q116 := eq_true q116
                obtain ⟨Ao13, co13, eo13⟩ := Kd.R_slice HO_4.out
                subst eo13
                go_wp2_with (first | ((with_reducible refine gate_callee (f := 55) rfl ?_); refine goesL_ (some 21) rfl rfl Try.func55 (by kernel_rfl) rfl #[.int .i64 (rd l0 x5_1), .int .i64 0, .int .i64 (wrap64 (200 - (x4_1.length : Int)))] rfl (by (try simp only [List.map_toArray, List.map_cons, List.map_nil]); first | done | rfl | (simp only [List.length_drop, List.length_take]; rfl)) ?_; (with_reducible refine (spec_l1In.calls (rd l0 x5_1) 0 (wrap64 (200 - (x4_1.length : Int))) true _ A7.out).mono ?_); rintro e w' ⟨rfl, ⟨nd, rfl⟩⟩; refine ⟨_, rfl, ?_⟩; have p118 : 0 ≤ (x5_1 : Int) := of_decide_eq_true (by first | (with_reducible assumption) | assumption); have q118 : x5_1 < (l0.length : Int) := of_decide_eq_true (by first | (with_reducible assumption) | assumption); obtain ⟨ad118, e118, hx118_0⟩ := Kd.at_int HR0.out x5_1 p118 q118; obtain rfl : ad116 = ad118 := (by injection e118); replace hx118_0 := (HB.out.cell (World.block_lt_of_cell? w _ hx118_0)).trans hx118_0; replace p118 := eq_true p118; replace q118 := eq_true q118))
                go_meet
                case rel => exact ⟨_, (false), (by first | rfl | (simp; done) | (simp [*]; done)), H', ⟨by have := HK1.out; first | omega | exact Nat.le_refl _⟩, ⟨by (with_reducible repeat (first | apply Kd.R_alloc | apply Kd.R_drewN | apply Kd.R_drew)); exact HO_4.out⟩, ⟨by repeat (first | (with_reducible first | exact HB.out | apply below_alloc | apply pw_below_drewN | apply below_drew1) | exact HB.out)⟩⟩
            · replace c8 := Bool.eq_false_iff.mpr c8
              subst c8
              have H1 : (spec_TraceFrom.j1 k1 l0 x4_1 x5_1 true) = some (r1, r2) := by rw [if_neg (show ¬ (false = true) by decide)] at H; exact H
              clear H
              have H := H1
              clear H1
              have H' := Aside0.mk H
              clear H
              have p116 : 0 ≤ (x5_1 : Int) := of_decide_eq_true (by first | (with_reducible assumption) | assumption)
              have q116 : x5_1 < (l0.length : Int) := of_decide_eq_true (by first | (with_reducible assumption) | assumption)
              obtain ⟨ad116, e116, hx116_0⟩ := Kd.at_int HR0.out x5_1 p116 q116
              cases e116
              replace hx116_0 := (HB.out.cell (World.block_lt_of_cell? w _ hx116_0)).trans hx116_0
              replace p116 := eq_true p116
              replace q116 := eq_true q116
              obtain ⟨Ao14, co14, eo14⟩ := Kd.R_slice HO_4.out
              subst eo14
              go_wp2_with (first | ((with_reducible refine gate_callee (f := 55) rfl ?_); refine goesL_ (some 21) rfl rfl Try.func55 (by kernel_rfl) rfl #[.int .i64 (rd l0 x5_1), .int .i64 0, .int .i64 (wrap64 (200 - (x4_1.length : Int)))] rfl (by (try simp only [List.map_toArray, List.map_cons, List.map_nil]); first | done | rfl | (simp only [List.length_drop, List.length_take]; rfl)) ?_; (with_reducible refine (spec_l1In.calls (rd l0 x5_1) 0 (wrap64 (200 - (x4_1.length : Int))) false _ A7.out).mono ?_); rintro e w' ⟨rfl, ⟨nd, rfl⟩⟩; refine ⟨_, rfl, ?_⟩))
              go_meet
              case rel => exact ⟨_, (true), (by first | rfl | (simp; done) | (simp [*]; done)), H', ⟨by have := HK1.out; first | omega | exact Nat.le_refl _⟩, ⟨by (with_reducible repeat (first | apply Kd.R_alloc | apply Kd.R_drewN | apply Kd.R_drew)); exact HO_4.out⟩, ⟨by repeat (first | (with_reducible first | exact HB.out | apply below_alloc | apply pw_below_drewN | apply below_drew1) | exact HB.out)⟩⟩
          · rw [if_neg c6] at H
            exact absurd H (by simp)
        case rest =>
          clear HC5
          try clear c1
          try clear p1
          try clear q1
          try clear hx1
          try clear p2
          try clear c3
          try clear c4
          try clear c4b0
          try clear c5
          try clear c6
          try clear c6b0
          try clear p6
          try clear c8
          try clear c9
          try clear c9b0
          try clear c9b1
          try clear c10
          try clear c10b0
          try clear p11
          try clear q11
          try clear hx11
          try clear hx116_0
          try clear hx118_0
          try clear p116
          try clear p118
          try clear p2
          try clear q116
          try clear q118
          obtain ⟨kq, x38_4, rfl, HA, HJ4, HO_4, HB⟩ := hcut
          cases kq with
          | zero => exact absurd HA.out (by simp [spec_TraceFrom.j1])
          | succ kj4 =>
            have H := HA.out
            clear HA
            simp only [spec_TraceFrom.j1] at H
            by_cases c15 : x38_4 = true
            · subst c15
              have H1 : (some ((([] : List Bool)), false)) = some (r1, r2) := by rw [if_pos rfl] at H; exact H
              clear H
              have H := H1
              clear H1
              obtain ⟨y119, hy119⟩ : ∃ y_ : List Bool, y_ = (([] : List Bool)) := ⟨_, rfl⟩
              replace H : (some (y119, false)) = some (r1, r2) := by first | (rw [hy119]; with_reducible exact H) | (have H2_ := (Option.bind_some _ _).symm.trans H; rw [hy119]; with_reducible exact H2_) | (have H2_ := (Option.bind_some _ _).symm.trans H; with_reducible exact H2_) | with_reducible exact H | (rw [hy119]; exact H) | exact H
              have Ny119 := Aside0.mk hy119
              clear hy119
              simp only [Option.some.injEq, Prod.mk.injEq] at H
              obtain ⟨rfl, rfl⟩ := H
              go_wp2_with (first | ((with_reducible refine gate_dst (N := 39) rfl ?_); (try (refine gate_guard (by rfl) ?_; dsimp only)); refine Kd.R_lit Kd.bool _ 4 ?hg (N := 39) ?hd (xs := ([] : List Bool)) (inner := []) (ok := fun _ => True) (okp := fun _ => True) ?hr ?hp (fun _ hk => hk) trivial (Below.refl _ _) (Nat.le_refl _) (by simp) ?_; (case hd => rfl); (case hg => rfl); (case hr => first | (go_simp; done) | (go_simp; rfl)); (case hp => exact (Reps.none _ _)); intro v120 w16 ho17 hb hg_ hnew_; clear hg_ hnew_; (first | rw [← Ny119.out] at ho17 | (simp only [Int.reduceToNat] at ho17; rw [← Ny119.out] at ho17)); have n0_ := Aside0.mk (Kd.R_elder' (by (with_reducible repeat (first | apply Kd.R_alloc | apply Kd.R_drewN | apply Kd.R_drew)); exact HO_4.out) (Kd.R_base ho17) hb); have n1_ := Aside0.mk (Kd.R_lower (Kd.R_new' ho17 (Kd.R_lt (by (with_reducible repeat (first | apply Kd.R_alloc | apply Kd.R_drewN | apply Kd.R_drew)); exact HO_4.out))) (below_size (by repeat (first | (with_reducible first | exact HB.out | apply below_alloc | apply pw_below_drewN | apply below_drew1) | exact HB.out)))); have n2_ := Aside0.mk (below_step (by repeat (first | (with_reducible first | exact HB.out | apply below_alloc | apply pw_below_drewN | apply below_drew1) | exact HB.out)) hb); clear HO_4; clear HB; have HO_4 := n0_; have HO121 := n1_; have HB := n2_; clear n0_ n1_ n2_; clear hb ho17))
              go_ret2
              exact ⟨_, by first | rfl | (simp [errW_none, errW_some] <;> rfl) | (simp [*, errW_none, errW_some] <;> rfl), by (with_reducible repeat (first | apply Kd.R_alloc | apply Kd.R_drewN | apply Kd.R_drew)); exact Kd.R_mono HO121.out (fun _ hk => trivial), by repeat (first | (with_reducible first | exact HB.out | apply below_alloc | apply pw_below_drewN | apply below_drew1) | exact HB.out)⟩
            · replace c15 := Bool.eq_false_iff.mpr c15
              subst c15
              have H1 : (spec_TraceFrom.l1 kj4 l0 x4_1 x5_1 0) = some (r1, r2) := by rw [if_neg (show ¬ (false = true) by decide)] at H; exact H
              clear H
              have H := H1
              clear H1
              have H' := Aside0.mk H
              clear H
              go_wp2
              go_loopg [4, 6] kj4 (fun kq v4 v6 w' => ∃ (x4_3 : List Bool) (x6_3 : Int), v6 = .int .i64 x6_3 ∧ Aside0 (spec_TraceFrom.l1 kq l0 x4_3 x5_1 x6_3 = some (r1, r2)) ∧ Aside0 (kq ≤ kj4) ∧ Aside0 (Kd.R Kd.bool 4 w' w.heap.size (fun _ => True) v4 x4_3) ∧ Aside0 (Below w.heap.size w w'))
              case atStart => exact ⟨(x4_1), (0), (by first | rfl | (simp; done) | (simp [*]; done)), H', ⟨Nat.le_refl _⟩, ⟨by (with_reducible repeat (first | apply Kd.R_alloc | apply Kd.R_drewN | apply Kd.R_drew)); exact HO_4.out⟩, ⟨by repeat (first | (with_reducible first | exact HB.out | apply below_alloc | apply pw_below_drewN | apply below_drew1) | exact HB.out)⟩⟩
              case round =>
                clear H'
                try clear c1
                try clear p1
                try clear q1
                try clear hx1
                try clear p2
                try clear c3
                try clear c4
                try clear c4b0
                try clear c5
                try clear c6
                try clear c6b0
                try clear p6
                try clear c8
                try clear c9
                try clear c9b0
                try clear c9b1
                try clear c10
                try clear c10b0
                try clear p11
                try clear q11
                try clear hx11
                try clear c15
                try clear hx116_0
                try clear hx118_0
                try clear p1
                try clear p11
                try clear p116
                try clear p118
                try clear p2
                try clear p6
                try clear q1
                try clear q11
                try clear q116
                try clear q118
                obtain ⟨x4_3, x6_3, rfl, HA, HK3, HO_4, HB⟩ := hrel
                cases gk with
                | zero => exact absurd HA.out (by simp [spec_TraceFrom.l1])
                | succ k3 =>
                  have H := HA.out
                  clear HA
                  simp only [spec_TraceFrom.l1] at H
                  by_cases c18 : 0 ≤ x5_1
                  · rw [if_pos c18] at H
                    have c18b0 : decide (0 ≤ x5_1) = true := decide_eq_true c18
                    clear c18
                    by_cases c19 : x5_1 < (l0.length : Int)
                    · rw [if_pos c19] at H
                      have c19b0 : decide (x5_1 < (l0.length : Int)) = true := decide_eq_true c19
                      clear c19
                      by_cases c20 : x6_3 < (rd l0 x5_1)
                      · rw [if_pos c20] at H
                        have c20b0 : decide (x6_3 < (rd l0 x5_1)) = true := decide_eq_true c20
                        clear c20
                        by_cases c21 : x4_3.length < 140737488355328
                        · rw [if_pos c21] at H
                          have LMc21 := Aside0.mk c21
                          clear c21
                          obtain ⟨y123, hy123⟩ : ∃ y_ : List Bool, y_ = (x4_3 ++ [((Int.tmod x5_1 2) == 1)]) := ⟨_, rfl⟩
                          replace H : (spec_TraceFrom.l1 k3 l0 y123 x5_1 (wrap64 (x6_3 + 1))) = some (r1, r2) := by first | (rw [hy123]; with_reducible exact H) | (have H2_ := (Option.bind_some _ _).symm.trans H; rw [hy123]; with_reducible exact H2_) | (have H2_ := (Option.bind_some _ _).symm.trans H; with_reducible exact H2_) | with_reducible exact H | (rw [hy123]; exact H) | exact H
                          have Ny123 := Aside0.mk hy123
                          clear hy123
                          have H' := Aside0.mk H
                          clear H
                          have p122 : 0 ≤ (x5_1 : Int) := of_decide_eq_true (by first | (with_reducible assumption) | assumption)
                          have q122 : x5_1 < (l0.length : Int) := of_decide_eq_true (by first | (with_reducible assumption) | assumption)
                          obtain ⟨ad122, e122, hx122_0⟩ := Kd.at_int HR0.out x5_1 p122 q122
                          cases e122
                          replace hx122_0 := (HB.out.cell (World.block_lt_of_cell? w _ hx122_0)).trans hx122_0
                          replace p122 := eq_true p122
                          replace q122 := eq_true q122
                          go_wp2_with (first | ((with_reducible refine gate_builtin (b := .append) (xs := #[.tmp 48, .tmp 52]) rfl ?_); (try (refine gate_guard (by rfl) ?_; dsimp only)); at_builtin; refine Kd.R_append Kd.bool (w0 := w) w.heap.size rfl (.tmp 48) (.tmp 52) 22 4 (.bool false) 1 rfl Try.underlying22 info4 rfl (by decide) (by omega) u4 x4_3 ((Int.tmod x5_1 2) == 1) [.bool ((Int.tmod x5_1 2) == 1)] (fun _ => True) (fun _ => False) rfl rfl ?aP (fun _ hk => hk.elim) ?aF ?aO ?aB ?aS ?aL ?_; (case aP => exact rfl); (case aB => exact (by repeat (first | (with_reducible first | exact HB.out | apply below_alloc | apply pw_below_drewN | apply below_drew1) | exact HB.out))); (case aF => exact (fun _ _ => trivial)); (case aO => exact (by (with_reducible repeat (first | apply Kd.R_alloc | apply Kd.R_drewN | apply Kd.R_drew)); exact HO_4.out)); (case aS => exact (below_size (by repeat (first | (with_reducible first | exact HB.out | apply below_alloc | apply pw_below_drewN | apply below_drew1) | exact HB.out)))); (case aL => have := LMc21.out; omega); intro v124 w22 ho hb hg hat; rw [← Ny123.out] at ho; have n0_ := Aside0.mk (hb); have n1_ := Aside0.mk (ho); clear HB; clear HO_4; have HB := n0_; have HO125 := n1_; clear n0_ n1_; clear ho hb hg hat))
                          go_roundg k3
                          case measure => have := HK1.out; have := HJ4.out; have := HK3.out; omega
                          case rel => exact ⟨(y123), (wrap64 (x6_3 + 1)), (by first | rfl | (simp; done) | (simp [*]; done)), H', ⟨by have := HK1.out; have := HJ4.out; have := HK3.out; omega⟩, ⟨by (with_reducible repeat (first | apply Kd.R_alloc | apply Kd.R_drewN | apply Kd.R_drew)); exact HO125.out⟩, ⟨by repeat (first | (with_reducible first | exact HB.out | apply below_alloc | apply pw_below_drewN | apply below_drew1) | exact HB.out)⟩⟩
                        · rw [if_neg c21] at H
                          exact absurd H (by simp)
                      · rw [if_neg c20] at H
                        have c20b0 : decide (x6_3 < (rd l0 x5_1)) = false := decide_eq_false c20
                        clear c20
                        have H' := Aside0.mk H
                        clear H
                        have p122 : 0 ≤ (x5_1 : Int) := of_decide_eq_true (by first | (with_reducible assumption) | assumption)
                        have q122 : x5_1 < (l0.length : Int) := of_decide_eq_true (by first | (with_reducible assumption) | assumption)
                        obtain ⟨ad122, e122, hx122_0⟩ := Kd.at_int HR0.out x5_1 p122 q122
                        cases e122
                        replace hx122_0 := (HB.out.cell (World.block_lt_of_cell? w _ hx122_0)).trans hx122_0
                        replace p122 := eq_true p122
                        replace q122 := eq_true q122
                        go_wp2
                        go_roundg k3
                        case measure => have := HK1.out; have := HJ4.out; have := HK3.out; omega
                        case rel => exact ⟨(x4_3), (wrap64 (x5_1 + 1)), (by first | rfl | (simp; done) | (simp [*]; done)), H', ⟨by have := HK1.out; have := HJ4.out; have := HK3.out; omega⟩, ⟨by (with_reducible repeat (first | apply Kd.R_alloc | apply Kd.R_drewN | apply Kd.R_drew)); exact HO_4.out⟩, ⟨by repeat (first | (with_reducible first | exact HB.out | apply below_alloc | apply pw_below_drewN | apply below_drew1) | exact HB.out)⟩⟩
                    · rw [if_neg c19] at H
                      exact absurd H (by simp)
                  · rw [if_neg c18] at H
                    exact absurd H (by simp)
      · rw [if_neg c4] at H
        have c4b0 : decide (x5_1 < (l0.length : Int)) = false := decide_eq_false c4
        clear c4
        simp only [Option.some.injEq, Prod.mk.injEq] at H
        obtain ⟨rfl, rfl⟩ := H
        go_wp2
        go_ret2
        exact ⟨_, by first | rfl | (simp [errW_none, errW_some] <;> rfl) | (simp [*, errW_none, errW_some] <;> rfl), by (with_reducible repeat (first | apply Kd.R_alloc | apply Kd.R_drewN | apply Kd.R_drew)); exact HO_4.out, by repeat (first | (with_reducible first | exact HB.out | apply below_alloc | apply pw_below_drewN | apply below_drew1) | exact HB.out)⟩

/-! ### impl_in: function 56 -/
def impl_in.f (a0 : Int) (a1 : Int) (a2 : Int) : Option (Bool) := if a0 ≥ a1 then (some (decide (a0 ≤ a2))) else (some false)
set_option maxHeartbeats 8000000 in
set_option maxRecDepth 100000 in
theorem impl_in.calls (a0 : Int) (a1 : Int) (a2 : Int) (r : Bool) (w : World) (h : impl_in.f a0 a1 a2 = some r) :
    Calls Try.prog 56 #[.int .i64 a0, .int .i64 a1, .int .i64 a2] w fun e w' => e = .returned (.bool r) ∧ Drawn0 w w' := by
  have H : (if a0 ≥ a1 then (some (decide (a0 ≤ a2))) else (some false)) = some r := h
  clear h
  by_cases c4 : a0 ≥ a1
  · rw [if_pos c4] at H
    have c4b0 : decide (a1 ≤ a0) = true := decide_eq_true c4
    clear c4
    obtain rfl := Option.some.inj H
    go_enter Try.func56, Try.ntmps56
    go_wp2
    go_ret
    exact ⟨by first | rfl | (simp; done) | (simp [*]; done), by repeat (first | exact Drawn0.refl _ | apply Drawn0.step)⟩
  · rw [if_neg c4] at H
    have c4b0 : decide (a1 ≤ a0) = false := decide_eq_false c4
    clear c4
    obtain rfl := Option.some.inj H
    go_enter Try.func56, Try.ntmps56
    go_wp2
    go_ret
    exact ⟨by first | rfl | (simp; done) | (simp [*]; done), by repeat (first | exact Drawn0.refl _ | apply Drawn0.step)⟩

-- NOT PRINTED: function 73 (slices_Clip_bool_bool)

-- NOT PRINTED: function 74 (slices_Clone_bool_bool)

/-! ### impl_clone_bool: function 57 (own) -/
/-! #### small words -/
def IdxPost {α : Type} (p : α → Bool) (l : List α) (e : Ending) : Prop := ∃ r : Int, e = .returned (.int .i64 r) ∧ (0 ≤ r ↔ l.any p = true)
theorem x_drawn_drew {w : World} {q q' : Nat} : (w.drewN q).drewN q' = w.drewN (q + q') := World.drewN_drewN ..
theorem C_int_cell {k : IntKind} {w : World} {A : Option Addr} {n : Nat} {l : List Int} (h : Kd.C (Kd.int k) w A n l) (i : Nat) (hi : i < n) : ∃ ad, A = some ad ∧ w.cell? (ad.add i) = some (.int k (l.getD i 0)) := by
  obtain ⟨ad, c, e, hl, hK, hc⟩ := Kd.C_get h (0 : Int) (i : Int) (by omega) (by omega)
  have hK' : c = [.int k (l.getD (i : Int).toNat 0)] := hK
  subst hK'
  have := hc 0 _ rfl
  rw [show (i : Int).toNat * (Kd.int k).sz + 0 = i from by show (i : Int).toNat * 1 + 0 = i; omega] at this
  exact ⟨ad, e, this⟩
theorem x_none {α : Type} (p : α → Bool) (l : List α) (d : α) (h : ∀ j, j < l.length → p (l.getD j d) = false) : l.any p = false := by
  rw [List.any_eq_false]
  intro x hx
  obtain ⟨j, hj, rfl⟩ := List.getElem_of_mem hx
  have := h j hj
  rw [List.getD_eq_getElem?_getD, List.getElem?_eq_getElem hj] at this
  simpa using this
theorem x_some {α : Type} (p : α → Bool) (l : List α) (d : α) (j : Nat) (hj : j < l.length) (h : p (l.getD j d) = true) : l.any p = true := by
  rw [List.any_eq_true]
  refine ⟨_, List.getElem_mem hj, ?_⟩
  rw [List.getD_eq_getElem?_getD, List.getElem?_eq_getElem hj] at h
  simpa using h

/-- What is read can be made, and be told as new: an element that leads nowhere. -/
def Flat {α : Type} (d : Kd α) : Prop := ∀ (w : World) (base : Nat) (ok : Nat → Prop) (x : α) (cs : List Value), d.K w x cs → d.M w base ok x cs
theorem C_nil_of_none {α : Type} {d : Kd α} {w : World} {l : List α} (h : Kd.C d w none l.length l) : l = [] := by
  rcases l with _ | ⟨a, l⟩
  · rfl
  · obtain ⟨ad, e, _⟩ := h.2.2 (by simp)
    cases e
theorem R_empty {α : Type} (d : Kd α) (e : Nat) (w : World) : d.R e (w.alloc (.cells #[] e)) w.heap.size (fun _ => True) (.slice (some ⟨w.heap.size, 0, none⟩) 0 0) [] :=
  ⟨fun _ _ => trivial, [], World.ownsRow_made w #[] 0 (Nat.le_refl _) (Nat.zero_le _) (by simp), Reps.none _ _⟩

theorem clip_run {P : Program} (t e : TypeId) {i : TypeInfo} (ht : P.underlying t = some (.slice e)) (hi : P.info? e = some i) (A : Option Addr) (n c : Nat) (hn : n ≤ c) (W : World) :
    (Instr.slice t (.slice A n c) none (some (.int .i64 (n : Int))) (some (.int .i64 (n : Int)))).run P W = .ok (.slice A n n) W := by
  have hel : P.elem t = e := by simp [Program.elem, ht]
  have hu : P.underlying t = some (.slice (P.elem t)) := by rw [hel]; exact ht
  rw [run_slice_hm W t A n c hu .i64 .i64 (n : Int) (n : Int) (by omega) (by omega) (by omega), hel]
  have e0 : A.map (fun x => x.add (0 * i.size)) = A := by
    rw [Nat.zero_mul]
    cases A <;> rfl
  simp [sizeOf, typeInfo, hi, sliced, Result.andThen, Addr.add]


set_option maxHeartbeats 2000000 in
theorem slices_Clone_bool.calls (A0 : Option Addr) (c0 : Nat) (l0 : List Bool) (w : World) (hr0 : Kd.C Kd.bool w A0 l0.length l0) (hc0 : l0.length ≤ c0) (hb : l0.length * 1 ≤ 140737488355328) :
    Calls Try.prog 74 #[.slice A0 l0.length c0] w fun e w' => ∃ v0_ : Value, e = .returned v0_ ∧ Kd.R Kd.bool 4 w' w.heap.size (fun _ => True) v0_ l0 ∧ Below w.heap.size w w' := by
  have HR := Aside0.mk hr0
  have HB := Aside0.mk hb
  clear hr0 hb
  have q : ∀ (w : World) (a : Option Addr) (n c n' c' : Nat), (binOp .eql 22 (.slice a n c) (.slice none n' c')).run Try.prog w = .ok (.bool a.isNone) w := fun w a n c n' c' => Go.Lib.run_eql_slice_nil w _ _ a n c n' c' Try.underlying22
  cases A0 with
  | none =>
    obtain rfl := C_nil_of_none HR.out
    go_enter Try.func74, Try.ntmps74
    go_wp2
    go_ret
    exact ⟨_, rfl, Kd.R_nil _ _ _ _ _, Below.refl _ _⟩
  | some ad =>
    have flat : Flat Kd.bool := fun _ _ _ _ _ h => h
    have FL := Aside0.mk flat
    clear flat
    go_enter Try.func74, Try.ntmps74
    go_wp2_with (at_builtin; go_loud (refine Kd.R_append_rows Kd.bool (w0 := w) w.heap.size rfl _ _ 22 4 (.bool false) 1 rfl Try.underlying22 (by kernel_rfl) rfl (by decide) (by decide) (.slice (some ⟨w.heap.size, 0, none⟩) 0 0) [] l0 (some ad) l0.length c0 (fun _ => True) (fun _ => False) rfl rfl (R_empty _ _ _) (Kd.C_alloc HR.out _) (fun x cs h => FL.out _ _ _ _ _ h) (fun _ h => h.elim) (fun _ _ => trivial) (below_alloc (Below.refl _ _) _) ?r6 ?r7 ?_))
    case r6 => simp
    case r7 => simpa using HB.out
    intro v1 w1 h1 h2 _ _
    have H1 := Aside0.mk h1
    have H2 := Aside0.mk h2
    clear h1 h2
    go_wp2
    go_ret
    exact ⟨_, rfl, H1.out, H2.out⟩
/-- slices.Clip. -/
theorem slices_Clip_bool.calls (base : Nat) (v : Value) (l0 : List Bool) (w : World) (ok : Nat → Prop) (hr : Kd.R Kd.bool 4 w base ok v l0) :
    Calls Try.prog 73 #[v] w fun e w' => ∃ v0_ : Value, e = .returned v0_ ∧ Kd.W Kd.bool 4 w base ok v0_ l0 ∧ w' = w := by
  obtain ⟨A, c, rfl, hl, _⟩ := Kd.R_reads hr
  have HR := Aside0.mk hr
  clear hr
  have hsl : ∀ W : World, (Instr.slice 22 (.slice A l0.length c) none (some (.int .i64 (l0.length : Int))) (some (.int .i64 (l0.length : Int)))).run Try.prog W = .ok (.slice A l0.length l0.length) W := by
    intro W
    obtain ⟨i0, hi, _⟩ := Option.map_eq_some_iff.1 (show (Try.prog.info? 4).map (fun i => (i.zero, i.size, i.bytes)) = some (some (.bool false), 1, 1) by kernel_rfl)
    exact clip_run 22 4 Try.underlying22 hi A _ c hl W
  go_enter Try.func73, Try.ntmps73
  go_wp2
  go_ret
  exact ⟨_, rfl, Kd.W_mk (Nat.le_refl _) HR.out, rfl⟩
def impl_clone_bool.f (l0 : List Bool) : Option (List Bool) := if l0.length * 1 ≤ 140737488355328 then some l0 else none
theorem impl_clone_bool.calls (A0 : Option Addr) (c0 : Nat) (l0 : List Bool) (r : List Bool) (w : World) (hr0 : Kd.C Kd.bool w A0 l0.length l0) (hc0 : l0.length ≤ c0) (h : impl_clone_bool.f l0 = some r) :
    Calls Try.prog 57 #[.slice A0 l0.length c0] w fun e w' => ∃ v0_ : Value, e = .returned v0_ ∧ Kd.W Kd.bool 4 w' w.heap.size (fun _ => True) v0_ r ∧ Below w.heap.size w w' := by
  unfold impl_clone_bool.f at h
  split at h
  · rename_i hb
    obtain rfl := Option.some.inj h
    have H := slices_Clone_bool.calls A0 c0 l0 w hr0 hc0 hb
    clear hr0 hc0 hb h
    go_enter Try.func57, Try.ntmps57
    go_wp2_with fail
    refine H.mono ?_
    rintro e w1 ⟨v1, rfl, hv, hB⟩
    have H2 := slices_Clip_bool.calls w.heap.size v1 l0 w1 (fun _ => True) hv
    have HB := Aside0.mk hB
    clear hv hB
    go_wp2_with fail
    refine H2.mono ?_
    rintro e w2 ⟨v2, rfl, hv, rfl⟩
    have HV := Aside0.mk hv
    clear hv
    go_wp2
    go_ret
    exact ⟨_, rfl, HV.out, HB.out⟩
  · cases h


end Go.Proofs.Ytdbbdikkboppnaa.QFnExactTraceFrom
