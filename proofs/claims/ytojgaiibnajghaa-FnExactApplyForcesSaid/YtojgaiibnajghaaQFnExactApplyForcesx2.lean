-- Written by wip/pr2.py: a program of this session's own, which runs the kit's print over contracts of its own.
import Derived.Test.YtojgaiibnajghaaQFnExactApplyForcesx1
namespace Go.Proofs.Ytojgaiibnajghaa.QFnExactApplyForces
open Go.RowKit Go.Proofs.YtojgaiibnajghaaW.PrintWords Go.Proofs.YtojgaiibnajghaaW.PrintLast Go.Proofs.YtojgaiibnajghaaW.PrintMore
attribute [local go_sem] max2_int min2_int max_two min_two max_three min_three max_four min_four   -- for this text's walks alone
set_option linter.unusedVariables false
set_option linter.unusedSimpArgs false

/-! ### spec_l14Apply: function 53 -/
def spec_l14Apply.l0 : Nat → List (S67) → Int → List Bool → List Int → Option (List Bool × List Int)
  | 0, _, _, _, _ => none
  | k + 1, x1, x6, x188000, x188001 => if x6 < (x1.length : Int) then (if 0 ≤ x6 then (if 0 ≤ ((rd_T67 x1 x6).f0) then (if ((rd_T67 x1 x6).f0) < (x188000.length : Int) then (spec_l14Apply.l0 k x1 (wrap64 (x6 + 1)) (x188000.set (((rd_T67 x1 x6).f0) : Int).toNat ((rd_T67 x1 x6).f1)) x188001) else (none)) else (none)) else (none)) else (some (x188000, x188001))
def spec_l14Apply.f (k : Nat) (l0_0 : List Bool) (l0_1 : List Int) (l1 : List (S67)) : Option (List Bool × List Int) := (spec_l1Copy.f l0_0 l0_1).bind fun bt181 => (spec_l14Apply.l0 k l1 0 bt181.1 bt181.2)
theorem spec_l14Apply.mono_l : ∀ k, (∀ y0 y1 y2 y3, LeO (spec_l14Apply.l0 k y0 y1 y2 y3) (spec_l14Apply.l0 (k + 1) y0 y1 y2 y3))
  | 0 => fun _ _ _ _ r h => by simp [spec_l14Apply.l0] at h
  | k + 1 => by
    have ih0 := spec_l14Apply.mono_l k
    · intro y0 y1 y2 y3
      unfold spec_l14Apply.l0
      repeat' first
      | (with_reducible exact ih0 _ _ _ _)
      | (with_reducible exact LeO.refl _)
      | (with_reducible exact LeO.none _)
      | (with_reducible refine LeO.ite ?_ ?_)
      | (with_reducible refine LeO.bind ?_ (fun _ => ?_))
      | exact ih0 _ _ _ _
      | exact LeO.none _
      | refine LeO.ite ?_ ?_
      | refine LeO.bind ?_ (fun _ => ?_)
theorem spec_l14Apply.mono : ∀ a0 a1 a2 k, LeO (spec_l14Apply.f k a0 a1 a2) (spec_l14Apply.f (k + 1) a0 a1 a2) := by
  intro a0 a1 a2 k
  have ih0 := spec_l14Apply.mono_l k
  unfold spec_l14Apply.f
  repeat' first
      | (with_reducible exact ih0 _ _ _ _)
      | (with_reducible exact LeO.refl _)
      | (with_reducible exact LeO.none _)
      | (with_reducible refine LeO.ite ?_ ?_)
      | (with_reducible refine LeO.bind ?_ (fun _ => ?_))
      | exact ih0 _ _ _ _
      | exact LeO.none _
      | refine LeO.ite ?_ ?_
      | refine LeO.bind ?_ (fun _ => ?_)
def spec_l14Apply.T5 : Bool × List (List Nat × List Nat) := (true, [([], []), ([0], [0]), ([], []), ([], []), ([2, 3], [2, 3]), ([4], [4]), ([5], [5]), ([], []), ([], []), ([7, 8], [7, 8]), ([9], [9]), ([10], [10]), ([1, 6, 0, 1, 2, 3, 4, 5, 6, 7, 8, 9, 10, 11], [1, 6]), ([12, 11, 0, 1, 2, 3, 4, 5, 6, 7, 8, 9, 10, 11], [11, 12])])
def spec_l14Apply.B5 : List Nat := [0, 1, 0, 0, 12, 28, 60, 0, 0, 384, 896, 1920, 4095, 8191]
theorem spec_l14Apply.tab5 : rtab .any (opsOf Try.f53 5) = spec_l14Apply.T5 := by kernel_rfl
theorem spec_l14Apply.bits5 : waitsOk spec_l14Apply.T5.2 spec_l14Apply.B5 = true := by kernel_rfl
set_option maxHeartbeats 8000000 in
set_option maxRecDepth 100000 in
theorem spec_l14Apply.calls (k : Nat) (A0_0 : Option Addr) (c0_0 : Nat) (l0_0 : List Bool) (A0_1 : Option Addr) (c0_1 : Nat) (l0_1 : List Int) (A1 : Option Addr) (c1 : Nat) (l1 : List (S67)) (r1 : List Bool) (r2 : List Int) (w : World) (hr0_0 : Kd.C Kd.bool w A0_0 l0_0.length l0_0) (hc0_0 : l0_0.length ≤ c0_0) (hr0_1 : Kd.C (Kd.int .i64) w A0_1 l0_1.length l0_1) (hc0_1 : l0_1.length ≤ c0_1) (hr1 : Kd.C k67 w A1 l1.length l1) (hc1 : l1.length ≤ c1) (h : spec_l14Apply.f k l0_0 l0_1 l1 = some (r1, r2)) :
    Calls Try.prog 53 #[.agg #[.slice A0_0 l0_0.length c0_0, .slice A0_1 l0_1.length c0_1], .slice A1 l1.length c1] w fun e w' => ∃ v0_ v1_ : Value, e = .returned (.agg #[v0_, v1_]) ∧ Kd.R Kd.bool 4 w' w.heap.size (fun _ => True) v0_ r1 ∧ Kd.R (Kd.int .i64) 3 w' w.heap.size (fun _ => True) v1_ r2 ∧ Below w.heap.size w w' := by
  have hu27 := Try.underlying27
  have HR0_0 := Aside0.mk hr0_0
  have HC0_0 := Aside0.mk hc0_0
  clear hr0_0 hc0_0
  have HR0_1 := Aside0.mk hr0_1
  have HC0_1 := Aside0.mk hc0_1
  clear hr0_1 hc0_1
  have HR1 := Aside0.mk hr1
  have HC1 := Aside0.mk hc1
  clear hr1 hc1
  have HB := Aside0.mk (Below.refl w.heap.size w)
  have H : ((spec_l1Copy.f l0_0 l0_1).bind fun bt181 => (spec_l14Apply.l0 k l1 0 bt181.1 bt181.2)) = some (r1, r2) := h
  clear h
  replace H := Option.bind_eq_some_iff.mp H
  obtain ⟨⟨t181, t184⟩, A30, H⟩ := H
  replace H : (spec_l14Apply.l0 k l1 0 t181 t184) = some (r1, r2) := H
  have A3 := Aside0.mk A30
  clear A30
  have H' := Aside0.mk H
  clear H
  go_enter Try.func53, Try.ntmps53
  go_wp2_with (first | ((with_reducible refine gate_dst (N := 2) rfl ?_); refine box_event ?hg (N := 2) ?hd (cs := #[.slice A0_0 l0_0.length c0_0, .slice A0_1 l0_1.length c0_1]) (t := 27) ?hr ?_; (case hd => rfl); (case hg => rfl); (case hr => first | (go_simp; done) | (go_simp; rfl)); intro gb179 hg w4 hbox hb; have n0_ := Aside0.mk (below_step (by repeat (first | (with_reducible first | exact HB.out | apply below_alloc | apply pw_below_drewN | apply below_drew1) | exact HB.out)) hb); have n1_ := Aside0.mk (hbox); have n2_ := Aside0.mk ((by rw [hg]; exact (below_size (by repeat (first | (with_reducible first | exact HB.out | apply below_alloc | apply pw_below_drewN | apply below_drew1) | exact HB.out))) : w.heap.size ≤ gb179)); have n3_ := Aside0.mk ((by rw [hg]; exact (below_size (by repeat (first | (with_reducible first | exact HB.out | apply below_alloc | apply pw_below_drewN | apply below_drew1) | exact HB.out))) : w.heap.size ≤ gb179)); clear HB; have HB := n0_; have BK179 := n1_; have GW179 := n2_; have GE179 := n3_; clear n0_ n1_ n2_ n3_; clear hb hbox hg) | ((with_reducible refine gate_dst (N := 4) rfl ?_); refine box_event ?hg (N := 4) ?hd (cs := #[.slice none 0 0, .slice none 0 0]) (t := 27) ?hr ?_; (case hd => rfl); (case hg => rfl); (case hr => first | (go_simp; done) | (go_simp; rfl)); intro gb180 hg w5 hbox hb; have n0_ := Aside0.mk (blk_below (g := gb179) (o := .cells #[.slice A0_0 l0_0.length c0_0, .slice A0_1 l0_1.length c0_1] 27 (0, 0)) (by (with_reducible repeat (first | refine blk_drewN ?_ _ | refine blk_drew ?_ | refine blk_alloc ?_ _)); exact BK179.out) hb); have n1_ := Aside0.mk (below_step (by repeat (first | (with_reducible first | exact HB.out | apply below_alloc | apply pw_below_drewN | apply below_drew1 | refine below_set ?_ GE179.out) | exact HB.out)) hb); have n2_ := Aside0.mk (hbox); have n3_ := Aside0.mk ((by rw [hg]; exact (below_size (by repeat (first | (with_reducible first | exact HB.out | apply below_alloc | apply pw_below_drewN | apply below_drew1 | refine below_set ?_ GE179.out) | exact HB.out))) : w.heap.size ≤ gb180)); have n4_ := Aside0.mk ((by rw [hg]; exact (below_size (by repeat (first | (with_reducible first | exact HB.out | apply below_alloc | apply pw_below_drewN | apply below_drew1 | refine below_set ?_ GE179.out) | exact HB.out))) : w.heap.size ≤ gb180)); have n5_ := Aside0.mk ((by rw [hg]; exact Nat.ne_of_lt (blk_lt (g := gb179) (o := .cells #[.slice A0_0 l0_0.length c0_0, .slice A0_1 l0_1.length c0_1] 27 (0, 0)) (by (with_reducible repeat (first | refine blk_drewN ?_ _ | refine blk_drew ?_ | refine blk_alloc ?_ _)); exact BK179.out)) : gb179 ≠ gb180)); have n6_ := Aside0.mk ((by rw [hg]; exact Nat.ne_of_gt (blk_lt (g := gb179) (o := .cells #[.slice A0_0 l0_0.length c0_0, .slice A0_1 l0_1.length c0_1] 27 (0, 0)) (by (with_reducible repeat (first | refine blk_drewN ?_ _ | refine blk_drew ?_ | refine blk_alloc ?_ _)); exact BK179.out)) : gb180 ≠ gb179)); clear BK179; clear HB; have BK179 := n0_; have HB := n1_; have BK180 := n2_; have GW180 := n3_; have GE180 := n4_; have NB179_180 := n5_; have NB180_179 := n6_; clear n0_ n1_ n2_ n3_ n4_ n5_ n6_; clear hb hbox hg; have hnb6 := NB179_180.out; have hnc6 := NB180_179.out; have hcz7_0 : w5.cell? ⟨gb179, 0, none⟩ = some (.slice A0_0 l0_0.length c0_0) := (blk_cell BK179.out 0).trans rfl; have hcz7_1 : w5.cell? ⟨gb179, 1, none⟩ = some (.slice A0_1 l0_1.length c0_1) := (blk_cell BK179.out 1).trans rfl; have hfz7_0 := blk_frozen BK179.out 0; have hfz7_1 := blk_frozen BK179.out 1) | ((with_reducible refine gate_callee (f := 36) rfl ?_); refine goesL_ (some 8) rfl rfl Try.func36 (by kernel_rfl) rfl #[.agg #[.slice A0_0 l0_0.length c0_0, .slice A0_1 l0_1.length c0_1]] rfl (by (try simp only [List.map_toArray, List.map_cons, List.map_nil]); first | done | rfl | (simp only [List.length_drop, List.length_take]; rfl)) ?_; (with_reducible refine (spec_l1Copy.calls _ _ l0_0 _ _ l0_1 t181 t184 _ ?side1 ?side2 ?side3 ?side4 A3.out).mono ?_); (case side1 => repeat (first | exact (Kd.C_below HR0_0.out HB.out) | (with_reducible refine Kd.C_alloc ?_ _) | (with_reducible refine Kd.C_drewN ?_ _) | (with_reducible refine Kd.C_drew ?_))); (case side2 => exact HC0_0.out); (case side3 => repeat (first | exact (Kd.C_below HR0_1.out HB.out) | (with_reducible refine Kd.C_alloc ?_ _) | (with_reducible refine Kd.C_drewN ?_ _) | (with_reducible refine Kd.C_drew ?_))); (case side4 => exact HC0_1.out); rintro e w8 ⟨v182, v185, rfl, ho0, ho1, hb⟩; refine ⟨_, rfl, ?_⟩; have n0_ := Aside0.mk (Kd.R_lower ho0 (below_size (by repeat (first | (with_reducible first | exact HB.out | apply below_alloc | apply pw_below_drewN | apply below_drew1 | refine below_set ?_ GE179.out | refine below_set ?_ GE180.out) | exact HB.out)))); have n1_ := Aside0.mk (Kd.R_lower ho1 (below_size (by repeat (first | (with_reducible first | exact HB.out | apply below_alloc | apply pw_below_drewN | apply below_drew1 | refine below_set ?_ GE179.out | refine below_set ?_ GE180.out) | exact HB.out)))); have n2_ := Aside0.mk (blk_below (g := gb179) (o := .cells #[.slice A0_0 l0_0.length c0_0, .slice A0_1 l0_1.length c0_1] 27 (0, 0)) (by (with_reducible repeat (first | refine blk_drewN ?_ _ | refine blk_drew ?_ | refine blk_alloc ?_ _)); exact BK179.out) hb); have n3_ := Aside0.mk (blk_below (g := gb180) (o := .cells #[.slice none 0 0, .slice none 0 0] 27 (0, 0)) (by (with_reducible repeat (first | refine blk_drewN ?_ _ | refine blk_drew ?_ | refine blk_alloc ?_ _)); exact BK180.out) hb); have n4_ := Aside0.mk (below_step (by repeat (first | (with_reducible first | exact HB.out | apply below_alloc | apply pw_below_drewN | apply below_drew1 | refine below_set ?_ GE179.out | refine below_set ?_ GE180.out) | exact HB.out)) hb); clear BK179; clear BK180; clear HB; have HO183 := n0_; have HO186 := n1_; have BK179 := n2_; have BK180 := n3_; have HB := n4_; clear n0_ n1_ n2_ n3_ n4_; (try clear hb); (try clear hb2); (try clear hk); (try clear hi); (try clear ho0); (try clear ho1)) | ((with_reducible refine gate_dst (N := 5) rfl ?_); refine box_event ?hg (N := 5) ?hd (cs := #[.slice none 0 0, .slice none 0 0]) (t := 27) ?hr ?_; (case hd => rfl); (case hg => rfl); (case hr => first | (go_simp; done) | (go_simp; rfl)); intro gb187 hg w9 hbox hb; have n0_ := Aside0.mk (Kd.R_below (by (with_reducible repeat (first | apply Kd.R_alloc | apply Kd.R_drewN | apply Kd.R_drew)); exact HO183.out) hb); have n1_ := Aside0.mk (Kd.R_below (by (with_reducible repeat (first | apply Kd.R_alloc | apply Kd.R_drewN | apply Kd.R_drew)); exact HO186.out) hb); have n2_ := Aside0.mk (blk_below (g := gb179) (o := .cells #[.slice A0_0 l0_0.length c0_0, .slice A0_1 l0_1.length c0_1] 27 (0, 0)) (by (with_reducible repeat (first | refine blk_drewN ?_ _ | refine blk_drew ?_ | refine blk_alloc ?_ _)); exact BK179.out) hb); have n3_ := Aside0.mk (blk_below (g := gb180) (o := .cells #[.slice none 0 0, .slice none 0 0] 27 (0, 0)) (by (with_reducible repeat (first | refine blk_drewN ?_ _ | refine blk_drew ?_ | refine blk_alloc ?_ _)); exact BK180.out) hb); have n4_ := Aside0.mk (below_step (by repeat (first | (with_reducible first | exact HB.out | apply below_alloc | apply pw_below_drewN | apply below_drew1 | refine below_set ?_ GE179.out | refine below_set ?_ GE180.out) | exact HB.out)) hb); have n5_ := Aside0.mk (hbox); have n6_ := Aside0.mk ((by rw [hg]; exact (below_size (by repeat (first | (with_reducible first | exact HB.out | apply below_alloc | apply pw_below_drewN | apply below_drew1 | refine below_set ?_ GE179.out | refine below_set ?_ GE180.out) | exact HB.out))) : w.heap.size ≤ gb187)); have n7_ := Aside0.mk ((by rw [hg]; exact (below_size (by repeat (first | (with_reducible first | exact HB.out | apply below_alloc | apply pw_below_drewN | apply below_drew1 | refine below_set ?_ GE179.out | refine below_set ?_ GE180.out) | exact HB.out))) : w.heap.size ≤ gb187)); have n8_ := Aside0.mk ((by rw [hg]; exact Nat.ne_of_lt (blk_lt (g := gb179) (o := .cells #[.slice A0_0 l0_0.length c0_0, .slice A0_1 l0_1.length c0_1] 27 (0, 0)) (by (with_reducible repeat (first | refine blk_drewN ?_ _ | refine blk_drew ?_ | refine blk_alloc ?_ _)); exact BK179.out)) : gb179 ≠ gb187)); have n9_ := Aside0.mk ((by rw [hg]; exact Nat.ne_of_gt (blk_lt (g := gb179) (o := .cells #[.slice A0_0 l0_0.length c0_0, .slice A0_1 l0_1.length c0_1] 27 (0, 0)) (by (with_reducible repeat (first | refine blk_drewN ?_ _ | refine blk_drew ?_ | refine blk_alloc ?_ _)); exact BK179.out)) : gb187 ≠ gb179)); have n10_ := Aside0.mk ((by rw [hg]; exact Nat.ne_of_lt (blk_lt (g := gb180) (o := .cells #[.slice none 0 0, .slice none 0 0] 27 (0, 0)) (by (with_reducible repeat (first | refine blk_drewN ?_ _ | refine blk_drew ?_ | refine blk_alloc ?_ _)); exact BK180.out)) : gb180 ≠ gb187)); have n11_ := Aside0.mk ((by rw [hg]; exact Nat.ne_of_gt (blk_lt (g := gb180) (o := .cells #[.slice none 0 0, .slice none 0 0] 27 (0, 0)) (by (with_reducible repeat (first | refine blk_drewN ?_ _ | refine blk_drew ?_ | refine blk_alloc ?_ _)); exact BK180.out)) : gb187 ≠ gb180)); clear HO183; clear HO186; clear BK179; clear BK180; clear HB; have HO183 := n0_; have HO186 := n1_; have BK179 := n2_; have BK180 := n3_; have HB := n4_; have BK187 := n5_; have GW187 := n6_; have GE187 := n7_; have NB179_187 := n8_; have NB187_179 := n9_; have NB180_187 := n10_; have NB187_180 := n11_; clear n0_ n1_ n2_ n3_ n4_ n5_ n6_ n7_ n8_ n9_ n10_ n11_; clear hb hbox hg; obtain ⟨Ao10, co10, eo10⟩ := Kd.R_slice HO183.out; subst eo10; have hnb11 := NB187_179.out; have hnc11 := NB179_187.out; have hnb12 := NB187_180.out; have hnc12 := NB180_187.out; have hcz13_0 : w9.cell? ⟨gb187, 0, none⟩ = some (.slice none 0 0) := (blk_cell BK187.out 0).trans rfl; have hcz13_1 : w9.cell? ⟨gb187, 1, none⟩ = some (.slice none 0 0) := (blk_cell BK187.out 1).trans rfl; have hfz13_0 := blk_frozen BK187.out 0; have hfz13_1 := blk_frozen BK187.out 1; obtain ⟨Ao14, co14, eo14⟩ := Kd.R_slice HO186.out; subst eo14))
  go_loopg [6] k (fun kq v6 w' => ∃ (x6_1 : Int) (x188000_1 : List Bool) (u188000 : Value), v6 = .int .i64 x6_1 ∧ Aside0 (spec_l14Apply.l0 kq l1 x6_1 x188000_1 t184 = some (r1, r2)) ∧ Aside0 (kq ≤ k) ∧ Aside0 (Kd.R Kd.bool 4 w' w.heap.size (fun _ => True) u188000 x188000_1) ∧ Aside0 (Kd.R (Kd.int .i64) 3 w' w.heap.size (fun _ => True) (.slice Ao14 t184.length co14) t184) ∧ Aside0 (w'.heap[gb179]? = some (.cells #[(.slice A0_0 l0_0.length c0_0), (.slice A0_1 l0_1.length c0_1)] 27 (0, 0))) ∧ Aside0 (w'.heap[gb180]? = some (.cells #[(.slice none 0 0), (.slice none 0 0)] 27 (0, 0))) ∧ Aside0 (w'.heap[gb187]? = some (.cells #[u188000, (.slice Ao14 t184.length co14)] 27 (0, 0))) ∧ Aside0 (Below w.heap.size w w'))
  case atStart => exact ⟨(0), (t181), (.slice Ao10 t181.length co10), (by first | rfl | (simp; done) | (simp [*]; done)), H', ⟨Nat.le_refl _⟩, ⟨by (with_reducible repeat (first | apply Kd.R_alloc | apply Kd.R_drewN | apply Kd.R_drew)); exact Kd.R_mono (Kd.R_far (p := ⟨gb187, 1, none⟩) (Kd.R_far (p := ⟨gb187, 0, none⟩) (Kd.R_types HO183.out BK187.out (by decide)) (fun _ hk => by first | exact hk.2 | exact trivial) (.slice Ao10 t181.length co10)) (fun _ hk => by first | exact hk.2 | exact trivial) (.slice Ao14 t184.length co14)) (fun _ hk => trivial)⟩, ⟨by (with_reducible repeat (first | apply Kd.R_alloc | apply Kd.R_drewN | apply Kd.R_drew)); exact Kd.R_mono (Kd.R_far (p := ⟨gb187, 1, none⟩) (Kd.R_far (p := ⟨gb187, 0, none⟩) (Kd.R_types HO186.out BK187.out (by decide)) (fun _ hk => by first | exact hk.2 | exact trivial) (.slice Ao10 t181.length co10)) (fun _ hk => by first | exact hk.2 | exact trivial) (.slice Ao14 t184.length co14)) (fun _ hk => trivial)⟩, ⟨by (with_reducible repeat (first | refine blk_drewN ?_ _ | refine blk_drew ?_ | refine blk_alloc ?_ _)); refine blk_far ?_ NB179_187.out _; (with_reducible repeat (first | refine blk_drewN ?_ _ | refine blk_drew ?_ | refine blk_alloc ?_ _)); refine blk_far ?_ NB179_187.out _; (with_reducible repeat (first | refine blk_drewN ?_ _ | refine blk_drew ?_ | refine blk_alloc ?_ _)); exact BK179.out⟩, ⟨by (with_reducible repeat (first | refine blk_drewN ?_ _ | refine blk_drew ?_ | refine blk_alloc ?_ _)); refine blk_far ?_ NB180_187.out _; (with_reducible repeat (first | refine blk_drewN ?_ _ | refine blk_drew ?_ | refine blk_alloc ?_ _)); refine blk_far ?_ NB180_187.out _; (with_reducible repeat (first | refine blk_drewN ?_ _ | refine blk_drew ?_ | refine blk_alloc ?_ _)); exact BK180.out⟩, ⟨by (with_reducible repeat (first | refine blk_drewN ?_ _ | refine blk_drew ?_ | refine blk_alloc ?_ _)); refine blk_put (cs := #[.slice Ao10 t181.length co10, .slice none 0 0]) ?_ 1 _ rfl; (with_reducible repeat (first | refine blk_drewN ?_ _ | refine blk_drew ?_ | refine blk_alloc ?_ _)); refine blk_put (cs := #[.slice none 0 0, .slice none 0 0]) ?_ 0 _ rfl; (with_reducible repeat (first | refine blk_drewN ?_ _ | refine blk_drew ?_ | refine blk_alloc ?_ _)); exact BK187.out⟩, ⟨by repeat (first | (with_reducible first | exact HB.out | apply below_alloc | apply pw_below_drewN | apply below_drew1 | refine below_set ?_ GE179.out | refine below_set ?_ GE180.out | refine below_set ?_ GE187.out) | exact HB.out)⟩⟩
  case round =>
    clear H'
    try clear c1
    try clear p2
    try clear c3
    try clear c5
    try clear c6
    try clear c11
    try clear c12
    try clear hcz13_0
    try clear hcz13_1
    try clear hcz7_0
    try clear hcz7_1
    try clear hfz13_0
    try clear hfz13_1
    try clear hfz7_0
    try clear hfz7_1
    obtain ⟨x6_1, x188000_1, u188000, rfl, HA, HK1, HO_188000, HO_188001, BK179, BK180, BK187, HB⟩ := hrel
    cases gk with
    | zero => exact absurd HA.out (by simp [spec_l14Apply.l0])
    | succ k1 =>
      have H := HA.out
      clear HA
      simp only [spec_l14Apply.l0] at H
      by_cases c15 : x6_1 < (l1.length : Int)
      · rw [if_pos c15] at H
        have c15b0 : decide (x6_1 < (l1.length : Int)) = true := decide_eq_true c15
        clear c15
        by_cases c16 : 0 ≤ x6_1
        · rw [if_pos c16] at H
          have c16b0 : decide (0 ≤ x6_1) = true := decide_eq_true c16
          clear c16
          by_cases c17 : 0 ≤ ((rd_T67 l1 x6_1).f0)
          · rw [if_pos c17] at H
            have c17b0 : decide (0 ≤ ((rd_T67 l1 x6_1).f0)) = true := decide_eq_true c17
            clear c17
            by_cases c18 : ((rd_T67 l1 x6_1).f0) < (x188000_1.length : Int)
            · rw [if_pos c18] at H
              have c18b0 : decide (((rd_T67 l1 x6_1).f0) < (x188000_1.length : Int)) = true := decide_eq_true c18
              clear c18
              obtain ⟨y190, hy190⟩ : ∃ y_ : List Bool, y_ = (x188000_1.set (((rd_T67 l1 x6_1).f0) : Int).toNat ((rd_T67 l1 x6_1).f1)) := ⟨_, rfl⟩
              replace H : (spec_l14Apply.l0 k1 l1 (wrap64 (x6_1 + 1)) y190 t184) = some (r1, r2) := by first | (rw [hy190]; with_reducible exact H) | (have H2_ := (Option.bind_some _ _).symm.trans H; rw [hy190]; with_reducible exact H2_) | (have H2_ := (Option.bind_some _ _).symm.trans H; with_reducible exact H2_) | with_reducible exact H | (rw [hy190]; exact H) | exact H
              have Ny190 := Aside0.mk hy190
              clear hy190
              have H' := Aside0.mk H
              clear H
              try go_wp2
              have n0_ := Aside0.mk (Kd.R_drew HO_188000.out)
              have n1_ := Aside0.mk (Kd.R_drew HO_188001.out)
              have n2_ := Aside0.mk (blk_drew BK179.out)
              have n3_ := Aside0.mk (blk_drew BK180.out)
              have n4_ := Aside0.mk (blk_drew BK187.out)
              have n5_ := Aside0.mk (below_drew1 HB.out)
              clear HO_188000
              clear HO_188001
              clear BK179
              clear BK180
              clear BK187
              clear HB
              have HO_188000 := n0_
              have HO_188001 := n1_
              have BK179 := n2_
              have BK180 := n3_
              have BK187 := n4_
              have HB := n5_
              clear n0_ n1_ n2_ n3_ n4_ n5_
              have p188 : 0 ≤ (x6_1 : Int) := of_decide_eq_true (by first | (with_reducible assumption) | assumption)
              have q188 : x6_1 < (l1.length : Int) := of_decide_eq_true (by first | (with_reducible assumption) | assumption)
              obtain ⟨ad188, e188, hx188_0, hx188_1⟩ := at_T67 HR1.out x6_1 p188 q188
              have hw188_1 := hx188_1
              have hw188_0 := hx188_0
              cases e188
              replace hx188_0 := (HB.out.cell (World.block_lt_of_cell? w _ hx188_0)).trans hx188_0
              replace hx188_1 := (HB.out.cell (World.block_lt_of_cell? w _ hx188_1)).trans hx188_1
              replace p188 := eq_true p188
              replace q188 := eq_true q188
              have p189 : 0 ≤ (x6_1 : Int) := of_decide_eq_true (by first | (with_reducible assumption) | assumption)
              have q189 : x6_1 < (l1.length : Int) := of_decide_eq_true (by first | (with_reducible assumption) | assumption)
              obtain ⟨ad189, e189, hx189_0, hx189_1⟩ := at_T67 HR1.out x6_1 p189 q189
              have hw189_1 := hx189_1
              have hw189_0 := hx189_0
              obtain rfl : ad188 = ad189 := (by injection e189)
              replace hx189_0 := (HB.out.cell (World.block_lt_of_cell? w _ hx189_0)).trans hx189_0
              replace hx189_1 := (HB.out.cell (World.block_lt_of_cell? w _ hx189_1)).trans hx189_1
              replace p189 := eq_true p189
              replace q189 := eq_true q189
              have p19 : 0 ≤ (((rd_T67 l1 x6_1).f0) : Int) := of_decide_eq_true (by first | (with_reducible assumption) | assumption)
              have q19 : (((rd_T67 l1 x6_1).f0) : Int) < ((x188000_1.length : Int) : Int) := of_decide_eq_true (by first | (with_reducible assumption) | assumption)
              obtain ⟨go19, co19, eo19, gb19, gl19, cl19, HG19⟩ := Kd.R_form HO_188000.out (by omega)
              (first | cases eo19 | (injection eo19 with ea_ en_ ec_; (first | subst ea_ | (injection ea_ with ea_; subst ea_)); subst ec_; clear en_))
              have GB19 := Aside0.mk gb19
              have GG19 := Aside0.mk HG19
              clear gb19 gl19 HG19
              obtain ⟨hx19_0, hf19_0⟩ := Kd.R_celln false HO_188000.out (((rd_T67 l1 x6_1).f0) : Int) p19 q19
              replace p19 := eq_true p19
              replace q19 := eq_true q19
              have HP21 := Kd.R_putn HO_188000.out (((rd_T67 l1 x6_1).f0) : Int) ((rd_T67 l1 x6_1).f1)
              rw [← Ny190.out] at HP21
              have HQ21 := Aside0.mk HP21
              clear HP21
              refine start_ (n := 14) (S := fun w' => w'.cell? ⟨gb187, 0, none⟩ = some (.slice (some ⟨go19, 0, none⟩) x188000_1.length co19) ∧ w'.cell? ⟨gb187, 1, none⟩ = some (.slice Ao14 t184.length co14) ∧ w'.cell? (ad188.add ((x6_1).toNat * 2)) = some (.int .i64 ((rd_T67 l1 x6_1).f0)) ∧ w'.cell? ⟨(ad188.add ((x6_1).toNat * 2)).block, (ad188.add ((x6_1).toNat * 2)).off + 1, none⟩ = some (.bool ((rd_T67 l1 x6_1).f1)) ∧ w'.cell? (ad188.add ((x6_1).toNat * 2)) = some (.int .i64 ((rd_T67 l1 x6_1).f0)) ∧ w'.cell? ⟨(ad188.add ((x6_1).toNat * 2)).block, (ad188.add ((x6_1).toNat * 2)).off + 1, none⟩ = some (.bool ((rd_T67 l1 x6_1).f1))) (ds := [13]) #[false, false, false, false, false, false, false, false, false, false, false, false, false, false] (by kernel_rfl) rfl rfl ⟨(blk_cell BK187.out 0).trans rfl, (blk_cell BK187.out 1).trans rfl, ((HB.out.cell (World.block_lt_of_cell? w _ hw188_0)).trans hw188_0), ((HB.out.cell (World.block_lt_of_cell? w _ hw188_1)).trans hw188_1), ((HB.out.cell (World.block_lt_of_cell? w _ hw189_0)).trans hw189_0), ((HB.out.cell (World.block_lt_of_cell? w _ hw189_1)).trans hw189_1)⟩ (fun hHeld => ?_); refine with_tabW spec_l14Apply.tab5 spec_l14Apply.bits5 (fun HT_ HW_ => ?_)
              generalize wr.drew = w20 at HO_188000 HO_188001 BK179 BK180 BK187 HB GG19 HQ21 hf19_0 hx188_0 hx188_1 hx189_0 hx189_1 hx19_0 hHeld ⊢
              refine pure_ (i := 0) (N := some 15) (v := ?_) (a' := ?_) #[true, false, false, false, false, false, false, false, false, false, false, false, false, false] rfl rfl (any_of HT_.out (by kernel_rfl)) (fun _ _ _ h => h) (Or.inl ⟨by rfl, ?_⟩) ?_ ?_
              rotate_left
              · intro w'
                go_simp
                with_reducible rfl
              rotate_left
              · simp only [Act.put, List.setIfInBounds_toArray, List.set_cons_zero, List.set_cons_succ, i64_w, i32_w]
                rfl
              refine pure_ (i := 2) (N := some 17) (v := ?_) (a' := ?_) #[true, false, true, false, false, false, false, false, false, false, false, false, false, false] rfl rfl (any_of HT_.out (by kernel_rfl)) (fun _ _ _ h => h) (Or.inl ⟨by rfl, ?_⟩) ?_ ?_
              rotate_left
              · intro w'
                go_simp
                with_reducible rfl
              rotate_left
              · simp only [Act.put, List.setIfInBounds_toArray, List.set_cons_zero, List.set_cons_succ, i64_w, i32_w]
                rfl
              refine pure_ (i := 3) (N := some 18) (v := ?_) (a' := ?_) #[true, false, true, true, false, false, false, false, false, false, false, false, false, false] rfl rfl (any_of HT_.out (by kernel_rfl)) (fun _ _ _ h => h) (Or.inl ⟨by rfl, ?_⟩) ?_ ?_
              rotate_left
              · intro w'
                go_simp
                with_reducible rfl
              rotate_left
              · simp only [Act.put, List.setIfInBounds_toArray, List.set_cons_zero, List.set_cons_succ, i64_w, i32_w]
                rfl
              refine pure_ (i := 4) (N := some 19) (v := ?_) (a' := ?_) #[true, false, true, true, true, false, false, false, false, false, false, false, false, false] rfl rfl (any_of HT_.out (by kernel_rfl)) (fun _ _ _ h => h) (Or.inl ⟨by rfl, ?_⟩) ?_ ?_
              rotate_left
              · intro w'
                go_simp
                with_reducible rfl
              rotate_left
              · simp only [Act.put, List.setIfInBounds_toArray, List.set_cons_zero, List.set_cons_succ, i64_w, i32_w]
                rfl
              refine pure_ (i := 5) (N := some 20) (v := ?_) (a' := ?_) #[true, false, true, true, true, true, false, false, false, false, false, false, false, false] rfl rfl (any_of HT_.out (by kernel_rfl)) (fun _ _ _ h => h) (Or.inl ⟨by rfl, ?_⟩) ?_ ?_
              rotate_left
              · intro w'
                go_simp
                with_reducible rfl
              rotate_left
              · simp only [Act.put, List.setIfInBounds_toArray, List.set_cons_zero, List.set_cons_succ, i64_w, i32_w]
                rfl
              refine pure_ (i := 7) (N := some 22) (v := ?_) (a' := ?_) #[true, false, true, true, true, true, false, true, false, false, false, false, false, false] rfl rfl (any_of HT_.out (by kernel_rfl)) (fun _ _ _ h => h) (Or.inl ⟨by rfl, ?_⟩) ?_ ?_
              rotate_left
              · intro w'
                go_simp
                with_reducible rfl
              rotate_left
              · simp only [Act.put, List.setIfInBounds_toArray, List.set_cons_zero, List.set_cons_succ, i64_w, i32_w]
                rfl
              refine pure_ (i := 8) (N := some 23) (v := ?_) (a' := ?_) #[true, false, true, true, true, true, false, true, true, false, false, false, false, false] rfl rfl (any_of HT_.out (by kernel_rfl)) (fun _ _ _ h => h) (Or.inl ⟨by rfl, ?_⟩) ?_ ?_
              rotate_left
              · intro w'
                go_simp
                with_reducible rfl
              rotate_left
              · simp only [Act.put, List.setIfInBounds_toArray, List.set_cons_zero, List.set_cons_succ, i64_w, i32_w]
                rfl
              refine pure_ (i := 9) (N := some 24) (v := ?_) (a' := ?_) #[true, false, true, true, true, true, false, true, true, true, false, false, false, false] rfl rfl (any_of HT_.out (by kernel_rfl)) (fun _ _ _ h => h) (Or.inl ⟨by rfl, ?_⟩) ?_ ?_
              rotate_left
              · intro w'
                go_simp
                with_reducible rfl
              rotate_left
              · simp only [Act.put, List.setIfInBounds_toArray, List.set_cons_zero, List.set_cons_succ, i64_w, i32_w]
                rfl
              refine pure_ (i := 10) (N := some 25) (v := ?_) (a' := ?_) #[true, false, true, true, true, true, false, true, true, true, true, false, false, false] rfl rfl (any_of HT_.out (by kernel_rfl)) (fun _ _ _ h => h) (Or.inl ⟨by rfl, ?_⟩) ?_ ?_
              rotate_left
              · intro w'
                go_simp
                with_reducible rfl
              rotate_left
              · simp only [Act.put, List.setIfInBounds_toArray, List.set_cons_zero, List.set_cons_succ, i64_w, i32_w]
                rfl
              refine take_ (i := 1) (N := some 16) (v := ?_) (a' := ?_) #[true, true, true, true, true, true, false, true, true, true, true, false, false, false] rfl rfl (take_ofW HT_.out HW_.out (by kernel_rfl)) (fun _ _ _ h => h) (Or.inl ⟨by rfl, ?_⟩) hHeld ?_ ?_
              rotate_left
              · rintro w' ⟨s0, s1, s2, s3, s4, s5⟩
                go_simp
                with_reducible rfl
              rotate_left
              · simp only [Act.put, List.setIfInBounds_toArray, List.set_cons_zero, List.set_cons_succ, i64_w, i32_w]
                rfl
              refine take_ (i := 6) (N := some 21) (v := ?_) (a' := ?_) #[true, true, true, true, true, true, true, true, true, true, true, false, false, false] rfl rfl (take_ofW HT_.out HW_.out (by kernel_rfl)) (fun _ _ _ h => h) (Or.inl ⟨by rfl, ?_⟩) hHeld ?_ ?_
              rotate_left
              · rintro w' ⟨s0, s1, s2, s3, s4, s5⟩
                go_simp
                with_reducible rfl
              rotate_left
              · simp only [Act.put, List.setIfInBounds_toArray, List.set_cons_zero, List.set_cons_succ, i64_w, i32_w]
                rfl
              refine take_ (i := 11) (N := some 26) (v := ?_) (a' := ?_) #[true, true, true, true, true, true, true, true, true, true, true, true, false, false] rfl rfl (take_ofW HT_.out HW_.out (by kernel_rfl)) (fun _ _ _ h => h) (Or.inl ⟨by rfl, ?_⟩) hHeld ?_ ?_
              rotate_left
              · rintro w' ⟨s0, s1, s2, s3, s4, s5⟩
                go_simp
                with_reducible rfl
              rotate_left
              · simp only [Act.put, List.setIfInBounds_toArray, List.set_cons_zero, List.set_cons_succ, i64_w, i32_w]
                rfl
              refine pure_ (i := 12) (N := some 27) (v := ?_) (a' := ?_) #[true, true, true, true, true, true, true, true, true, true, true, true, true, false] rfl rfl (any_of HT_.out (by kernel_rfl)) (fun _ _ _ h => h) (Or.inl ⟨by rfl, ?_⟩) ?_ ?_
              rotate_left
              · intro w'
                go_simp
                with_reducible rfl
              rotate_left
              · simp only [Act.put, List.setIfInBounds_toArray, List.set_cons_zero, List.set_cons_succ, i64_w, i32_w]
                rfl
              refine last_ (i := 13) (N := none) #[true, true, true, true, true, true, true, true, true, true, true, true, true, true] rfl rfl (one_of HT_.out (by kernel_rfl)) (by decide) (fun K hK => ?_)
              refine skip_ (w1 := ?_) (by rfl) rfl ?_ ?_
              rotate_left
              · go_simp
                rfl
              refine hK.out _ _ ?_
              clear hK K
              refine done_ (done_of HT_.out (by kernel_rfl)) ?_
              try go_wp2
              go_roundg k1
              case measure => have := HK1.out; omega
              case rel => exact ⟨(wrap64 (x6_1 + 1)), (y190), (.slice (some ⟨go19, 0, none⟩) x188000_1.length co19), (by first | rfl | (simp; done) | (simp [*]; done)), H', ⟨by have := HK1.out; omega⟩, ⟨by (with_reducible repeat (first | apply Kd.R_alloc | apply Kd.R_drewN | apply Kd.R_drew)); exact HQ21.out⟩, ⟨by (with_reducible repeat (first | apply Kd.R_alloc | apply Kd.R_drewN | apply Kd.R_drew)); exact Kd.R_mono (Kd.R_far (p := ⟨go19, (((rd_T67 l1 x6_1).f0) : Int).toNat, none⟩) (Kd.R_types HO_188001.out GG19.out (by decide)) (fun _ hk => by first | exact hk.2 | exact trivial) (.bool ((rd_T67 l1 x6_1).f1))) (fun _ hk => trivial)⟩, ⟨by (with_reducible repeat (first | refine blk_drewN ?_ _ | refine blk_drew ?_ | refine blk_alloc ?_ _)); refine blk_far ?_ (by have h_ := Kd.R_ne HO_188000.out BK179.out (by decide); intro e_; exact h_ (by rw [e_]; rfl)) _; (with_reducible repeat (first | refine blk_drewN ?_ _ | refine blk_drew ?_ | refine blk_alloc ?_ _)); exact BK179.out⟩, ⟨by (with_reducible repeat (first | refine blk_drewN ?_ _ | refine blk_drew ?_ | refine blk_alloc ?_ _)); refine blk_far ?_ (by have h_ := Kd.R_ne HO_188000.out BK180.out (by decide); intro e_; exact h_ (by rw [e_]; rfl)) _; (with_reducible repeat (first | refine blk_drewN ?_ _ | refine blk_drew ?_ | refine blk_alloc ?_ _)); exact BK180.out⟩, ⟨by (with_reducible repeat (first | refine blk_drewN ?_ _ | refine blk_drew ?_ | refine blk_alloc ?_ _)); refine blk_far ?_ (by have h_ := Kd.R_ne HO_188000.out BK187.out (by decide); intro e_; exact h_ (by rw [e_]; rfl)) _; (with_reducible repeat (first | refine blk_drewN ?_ _ | refine blk_drew ?_ | refine blk_alloc ?_ _)); exact BK187.out⟩, ⟨by repeat (first | (with_reducible first | exact HB.out | apply below_alloc | apply pw_below_drewN | apply below_drew1 | refine below_set ?_ GB19.out | refine below_set ?_ GE179.out | refine below_set ?_ GE180.out | refine below_set ?_ GE187.out) | exact HB.out)⟩⟩
            · rw [if_neg c18] at H
              exact absurd H (by simp)
          · rw [if_neg c17] at H
            exact absurd H (by simp)
        · rw [if_neg c16] at H
          exact absurd H (by simp)
      · rw [if_neg c15] at H
        have c15b0 : decide (x6_1 < (l1.length : Int)) = false := decide_eq_false c15
        clear c15
        simp only [Option.some.injEq, Prod.mk.injEq] at H
        obtain ⟨rfl, rfl⟩ := H
        have hnb22 := NB187_179.out
        have hnc22 := NB179_187.out
        have hnb23 := NB187_180.out
        have hnc23 := NB180_187.out
        have hcz24_0 : wr.cell? ⟨gb187, 0, none⟩ = some (u188000) := (blk_cell BK187.out 0).trans rfl
        have hcz24_1 : wr.cell? ⟨gb187, 1, none⟩ = some (.slice Ao14 t184.length co14) := (blk_cell BK187.out 1).trans rfl
        have hfz24_0 := blk_frozen BK187.out 0
        have hfz24_1 := blk_frozen BK187.out 1
        obtain ⟨Ao25, co25, eo25⟩ := Kd.R_slice HO_188000.out
        subst eo25
        have hnb26 := NB180_179.out
        have hnc26 := NB179_180.out
        have hcz27_0 : wr.cell? ⟨gb180, 0, none⟩ = some (.slice none 0 0) := (blk_cell BK180.out 0).trans rfl
        have hcz27_1 : wr.cell? ⟨gb180, 1, none⟩ = some (.slice none 0 0) := (blk_cell BK180.out 1).trans rfl
        have hfz27_0 := blk_frozen BK180.out 0
        have hfz27_1 := blk_frozen BK180.out 1
        go_wp2
        refine bodyPost_ret (results_cell_row rfl _ _ gb180 27 #[.slice Ao25 x188000_1.length co25, .slice Ao14 t184.length co14] (0, 0) _ rfl (by (with_reducible repeat (first | refine blk_drewN ?_ _ | refine blk_drew ?_ | refine blk_alloc ?_ _)); refine blk_put (cs := #[.slice Ao25 x188000_1.length co25, .slice none 0 0]) ?_ 1 _ rfl; (with_reducible repeat (first | refine blk_drewN ?_ _ | refine blk_drew ?_ | refine blk_alloc ?_ _)); refine blk_put (cs := #[.slice none 0 0, .slice none 0 0]) ?_ 0 _ rfl; (with_reducible repeat (first | refine blk_drewN ?_ _ | refine blk_drew ?_ | refine blk_alloc ?_ _)); exact BK180.out) Try.underlying27 rfl (by kernel_rfl)) rfl ?_
        exact ⟨_, _, by first | rfl | (simp [errW_none, errW_some] <;> rfl) | (simp [*, errW_none, errW_some] <;> rfl), by (with_reducible repeat (first | apply Kd.R_alloc | apply Kd.R_drewN | apply Kd.R_drew)); exact Kd.R_mono (Kd.R_far (p := ⟨gb180, 1, none⟩) (Kd.R_far (p := ⟨gb180, 0, none⟩) (Kd.R_types HO_188000.out BK180.out (by decide)) (fun _ hk => by first | exact hk.2 | exact trivial) (.slice Ao25 x188000_1.length co25)) (fun _ hk => by first | exact hk.2 | exact trivial) (.slice Ao14 t184.length co14)) (fun _ hk => trivial), by (with_reducible repeat (first | apply Kd.R_alloc | apply Kd.R_drewN | apply Kd.R_drew)); exact Kd.R_mono (Kd.R_far (p := ⟨gb180, 1, none⟩) (Kd.R_far (p := ⟨gb180, 0, none⟩) (Kd.R_types HO_188001.out BK180.out (by decide)) (fun _ hk => by first | exact hk.2 | exact trivial) (.slice Ao25 x188000_1.length co25)) (fun _ hk => by first | exact hk.2 | exact trivial) (.slice Ao14 t184.length co14)) (fun _ hk => trivial), by repeat (first | (with_reducible first | exact HB.out | apply below_alloc | apply pw_below_drewN | apply below_drew1 | refine below_set ?_ GE179.out | refine below_set ?_ GE180.out | refine below_set ?_ GE187.out) | exact HB.out)⟩

/-! ### spec_ApplyForces: function 23 -/
def spec_ApplyForces.f (k : Nat) (l0_0 : List Bool) (l0_1 : List Int) (l1 : List (S67)) : Option (List Bool × List Int) := (spec_l1OwnImage.f l0_0 l0_1).bind fun bt193 => ((spec_ImageValid.f k bt193.1 bt193.2).bind fun t199 => (if t199 = true then ((spec_ForcesValid.f k l1 (bt193.1.length : Int)).bind fun t200 => (if t200 = true then ((spec_l14Apply.f k bt193.1 bt193.2 l1).bind fun bt201 => (some (bt201.1, bt201.2))) else (some (([] : List Bool), ([] : List Int))))) else (some (([] : List Bool), ([] : List Int)))))
theorem spec_ApplyForces.mono : ∀ a0 a1 a2 k, LeO (spec_ApplyForces.f k a0 a1 a2) (spec_ApplyForces.f (k + 1) a0 a1 a2) := by
  intro a0 a1 a2 k
  unfold spec_ApplyForces.f
  repeat' first
      | (with_reducible exact spec_ForcesValid.mono _ _ _)
      | (with_reducible exact spec_ImageValid.mono _ _ _)
      | (with_reducible exact spec_l14Apply.mono _ _ _ _)
      | (with_reducible exact LeO.refl _)
      | (with_reducible exact LeO.none _)
      | (with_reducible refine LeO.ite ?_ ?_)
      | (with_reducible refine LeO.bind ?_ (fun _ => ?_))
      | exact spec_ForcesValid.mono _ _ _
      | exact spec_ImageValid.mono _ _ _
      | exact spec_l14Apply.mono _ _ _ _
      | exact LeO.none _
      | refine LeO.ite ?_ ?_
      | refine LeO.bind ?_ (fun _ => ?_)
set_option maxHeartbeats 8000000 in
set_option maxRecDepth 100000 in
theorem spec_ApplyForces.calls (k : Nat) (A0_0 : Option Addr) (c0_0 : Nat) (l0_0 : List Bool) (A0_1 : Option Addr) (c0_1 : Nat) (l0_1 : List Int) (A1 : Option Addr) (c1 : Nat) (l1 : List (S67)) (r1 : List Bool) (r2 : List Int) (w : World) (hr0_0 : Kd.C Kd.bool w A0_0 l0_0.length l0_0) (hc0_0 : l0_0.length ≤ c0_0) (hr0_1 : Kd.C (Kd.int .i64) w A0_1 l0_1.length l0_1) (hc0_1 : l0_1.length ≤ c0_1) (hr1 : Kd.C k67 w A1 l1.length l1) (hc1 : l1.length ≤ c1) (h : spec_ApplyForces.f k l0_0 l0_1 l1 = some (r1, r2)) :
    Calls Try.prog 23 #[.agg #[.slice A0_0 l0_0.length c0_0, .slice A0_1 l0_1.length c0_1], .slice A1 l1.length c1] w fun e w' => ∃ v0_ v1_ : Value, e = .returned (.agg #[v0_, v1_]) ∧ Kd.R Kd.bool 4 w' w.heap.size (fun _ => True) v0_ r1 ∧ Kd.R (Kd.int .i64) 3 w' w.heap.size (fun _ => True) v1_ r2 ∧ Below w.heap.size w w' := by
  have hu27 := Try.underlying27
  have HR0_0 := Aside0.mk hr0_0
  have HC0_0 := Aside0.mk hc0_0
  clear hr0_0 hc0_0
  have HR0_1 := Aside0.mk hr0_1
  have HC0_1 := Aside0.mk hc0_1
  clear hr0_1 hc0_1
  have HR1 := Aside0.mk hr1
  have HC1 := Aside0.mk hc1
  clear hr1 hc1
  have HB := Aside0.mk (Below.refl w.heap.size w)
  have H : ((spec_l1OwnImage.f l0_0 l0_1).bind fun bt193 => ((spec_ImageValid.f k bt193.1 bt193.2).bind fun t199 => (if t199 = true then ((spec_ForcesValid.f k l1 (bt193.1.length : Int)).bind fun t200 => (if t200 = true then ((spec_l14Apply.f k bt193.1 bt193.2 l1).bind fun bt201 => (some (bt201.1, bt201.2))) else (some (([] : List Bool), ([] : List Int))))) else (some (([] : List Bool), ([] : List Int)))))) = some (r1, r2) := h
  clear h
  replace H := Option.bind_eq_some_iff.mp H
  obtain ⟨⟨t193, t196⟩, A30, H⟩ := H
  replace H : ((spec_ImageValid.f k t193 t196).bind fun t199 => (if t199 = true then ((spec_ForcesValid.f k l1 (t193.length : Int)).bind fun t200 => (if t200 = true then ((spec_l14Apply.f k t193 t196 l1).bind fun bt201 => (some (bt201.1, bt201.2))) else (some (([] : List Bool), ([] : List Int))))) else (some (([] : List Bool), ([] : List Int))))) = some (r1, r2) := H
  have A3 := Aside0.mk A30
  clear A30
  replace H := Option.bind_eq_some_iff.mp H
  obtain ⟨t199, A40, H⟩ := H
  replace H : (if t199 = true then ((spec_ForcesValid.f k l1 (t193.length : Int)).bind fun t200 => (if t200 = true then ((spec_l14Apply.f k t193 t196 l1).bind fun bt201 => (some (bt201.1, bt201.2))) else (some (([] : List Bool), ([] : List Int))))) else (some (([] : List Bool), ([] : List Int)))) = some (r1, r2) := H
  have A4 := Aside0.mk A40
  clear A40
  by_cases c5 : t199 = true
  · subst c5
    have H1 : ((spec_ForcesValid.f k l1 (t193.length : Int)).bind fun t200 => (if t200 = true then ((spec_l14Apply.f k t193 t196 l1).bind fun bt201 => (some (bt201.1, bt201.2))) else (some (([] : List Bool), ([] : List Int))))) = some (r1, r2) := by rw [if_pos rfl] at H; exact H
    clear H
    have H := H1
    clear H1
    replace H := Option.bind_eq_some_iff.mp H
    obtain ⟨t200, A60, H⟩ := H
    replace H : (if t200 = true then ((spec_l14Apply.f k t193 t196 l1).bind fun bt201 => (some (bt201.1, bt201.2))) else (some (([] : List Bool), ([] : List Int)))) = some (r1, r2) := H
    have A6 := Aside0.mk A60
    clear A60
    by_cases c7 : t200 = true
    · subst c7
      have H1 : ((spec_l14Apply.f k t193 t196 l1).bind fun bt201 => (some (bt201.1, bt201.2))) = some (r1, r2) := by rw [if_pos rfl] at H; exact H
      clear H
      have H := H1
      clear H1
      replace H := Option.bind_eq_some_iff.mp H
      obtain ⟨⟨t201, t204⟩, A80, H⟩ := H
      replace H : (some (t201, t204)) = some (r1, r2) := H
      have A8 := Aside0.mk A80
      clear A80
      simp only [Option.some.injEq, Prod.mk.injEq] at H
      obtain ⟨rfl, rfl⟩ := H
      go_enter Try.func23, Try.ntmps23
      go_wp2_with (first | ((with_reducible refine gate_dst (N := 2) rfl ?_); (try (refine gate_guard (by rfl) ?_; dsimp only)); refine box_event ?hg (N := 2) ?hd (cs := #[.slice A0_0 l0_0.length c0_0, .slice A0_1 l0_1.length c0_1]) (t := 27) ?hr ?_; (case hd => rfl); (case hg => rfl); (case hr => first | (go_simp; done) | (go_simp; rfl)); intro gb191 hg w9 hbox hb; have n0_ := Aside0.mk (below_step (by repeat (first | (with_reducible first | exact HB.out | apply below_alloc | apply pw_below_drewN | apply below_drew1) | exact HB.out)) hb); have n1_ := Aside0.mk (hbox); have n2_ := Aside0.mk ((by rw [hg]; exact (below_size (by repeat (first | (with_reducible first | exact HB.out | apply below_alloc | apply pw_below_drewN | apply below_drew1) | exact HB.out))) : w.heap.size ≤ gb191)); have n3_ := Aside0.mk ((by rw [hg]; exact (below_size (by repeat (first | (with_reducible first | exact HB.out | apply below_alloc | apply pw_below_drewN | apply below_drew1) | exact HB.out))) : w.heap.size ≤ gb191)); clear HB; have HB := n0_; have BK191 := n1_; have GW191 := n2_; have GE191 := n3_; clear n0_ n1_ n2_ n3_; clear hb hbox hg) | ((with_reducible refine gate_dst (N := 4) rfl ?_); (try (refine gate_guard (by rfl) ?_; dsimp only)); refine box_event ?hg (N := 4) ?hd (cs := #[.slice none 0 0, .slice none 0 0]) (t := 27) ?hr ?_; (case hd => rfl); (case hg => rfl); (case hr => first | (go_simp; done) | (go_simp; rfl)); intro gb192 hg w10 hbox hb; have n0_ := Aside0.mk (blk_below (g := gb191) (o := .cells #[.slice A0_0 l0_0.length c0_0, .slice A0_1 l0_1.length c0_1] 27 (0, 0)) (by (with_reducible repeat (first | refine blk_drewN ?_ _ | refine blk_drew ?_ | refine blk_alloc ?_ _)); exact BK191.out) hb); have n1_ := Aside0.mk (below_step (by repeat (first | (with_reducible first | exact HB.out | apply below_alloc | apply pw_below_drewN | apply below_drew1 | refine below_set ?_ GE191.out) | exact HB.out)) hb); have n2_ := Aside0.mk (hbox); have n3_ := Aside0.mk ((by rw [hg]; exact (below_size (by repeat (first | (with_reducible first | exact HB.out | apply below_alloc | apply pw_below_drewN | apply below_drew1 | refine below_set ?_ GE191.out) | exact HB.out))) : w.heap.size ≤ gb192)); have n4_ := Aside0.mk ((by rw [hg]; exact (below_size (by repeat (first | (with_reducible first | exact HB.out | apply below_alloc | apply pw_below_drewN | apply below_drew1 | refine below_set ?_ GE191.out) | exact HB.out))) : w.heap.size ≤ gb192)); have n5_ := Aside0.mk ((by rw [hg]; exact Nat.ne_of_lt (blk_lt (g := gb191) (o := .cells #[.slice A0_0 l0_0.length c0_0, .slice A0_1 l0_1.length c0_1] 27 (0, 0)) (by (with_reducible repeat (first | refine blk_drewN ?_ _ | refine blk_drew ?_ | refine blk_alloc ?_ _)); exact BK191.out)) : gb191 ≠ gb192)); have n6_ := Aside0.mk ((by rw [hg]; exact Nat.ne_of_gt (blk_lt (g := gb191) (o := .cells #[.slice A0_0 l0_0.length c0_0, .slice A0_1 l0_1.length c0_1] 27 (0, 0)) (by (with_reducible repeat (first | refine blk_drewN ?_ _ | refine blk_drew ?_ | refine blk_alloc ?_ _)); exact BK191.out)) : gb192 ≠ gb191)); clear BK191; clear HB; have BK191 := n0_; have HB := n1_; have BK192 := n2_; have GW192 := n3_; have GE192 := n4_; have NB191_192 := n5_; have NB192_191 := n6_; clear n0_ n1_ n2_ n3_ n4_ n5_ n6_; clear hb hbox hg; have hnb11 := NB191_192.out; have hnc11 := NB192_191.out; have hcz12_0 : w10.cell? ⟨gb191, 0, none⟩ = some (.slice A0_0 l0_0.length c0_0) := (blk_cell BK191.out 0).trans rfl; have hcz12_1 : w10.cell? ⟨gb191, 1, none⟩ = some (.slice A0_1 l0_1.length c0_1) := (blk_cell BK191.out 1).trans rfl; have hfz12_0 := blk_frozen BK191.out 0; have hfz12_1 := blk_frozen BK191.out 1) | ((with_reducible refine gate_callee (f := 48) rfl ?_); refine goesL_ (some 6) rfl rfl Try.func48 (by kernel_rfl) rfl #[.agg #[.slice A0_0 l0_0.length c0_0, .slice A0_1 l0_1.length c0_1]] rfl (by (try simp only [List.map_toArray, List.map_cons, List.map_nil]); first | done | rfl | (simp only [List.length_drop, List.length_take]; rfl)) ?_; (with_reducible refine (spec_l1OwnImage.calls _ _ l0_0 _ _ l0_1 t193 t196 _ ?side1 ?side2 ?side3 ?side4 A3.out).mono ?_); (case side1 => repeat (first | exact (Kd.C_below HR0_0.out HB.out) | (with_reducible refine Kd.C_alloc ?_ _) | (with_reducible refine Kd.C_drewN ?_ _) | (with_reducible refine Kd.C_drew ?_))); (case side2 => exact HC0_0.out); (case side3 => repeat (first | exact (Kd.C_below HR0_1.out HB.out) | (with_reducible refine Kd.C_alloc ?_ _) | (with_reducible refine Kd.C_drewN ?_ _) | (with_reducible refine Kd.C_drew ?_))); (case side4 => exact HC0_1.out); rintro e w13 ⟨v194, v197, rfl, ho0, ho1, hb⟩; refine ⟨_, rfl, ?_⟩; have n0_ := Aside0.mk (Kd.R_lower ho0 (below_size (by repeat (first | (with_reducible first | exact HB.out | apply below_alloc | apply pw_below_drewN | apply below_drew1 | refine below_set ?_ GE191.out | refine below_set ?_ GE192.out) | exact HB.out)))); have n1_ := Aside0.mk (Kd.R_lower ho1 (below_size (by repeat (first | (with_reducible first | exact HB.out | apply below_alloc | apply pw_below_drewN | apply below_drew1 | refine below_set ?_ GE191.out | refine below_set ?_ GE192.out) | exact HB.out)))); have n2_ := Aside0.mk (blk_below (g := gb191) (o := .cells #[.slice A0_0 l0_0.length c0_0, .slice A0_1 l0_1.length c0_1] 27 (0, 0)) (by (with_reducible repeat (first | refine blk_drewN ?_ _ | refine blk_drew ?_ | refine blk_alloc ?_ _)); exact BK191.out) hb); have n3_ := Aside0.mk (blk_below (g := gb192) (o := .cells #[.slice none 0 0, .slice none 0 0] 27 (0, 0)) (by (with_reducible repeat (first | refine blk_drewN ?_ _ | refine blk_drew ?_ | refine blk_alloc ?_ _)); exact BK192.out) hb); have n4_ := Aside0.mk (below_step (by repeat (first | (with_reducible first | exact HB.out | apply below_alloc | apply pw_below_drewN | apply below_drew1 | refine below_set ?_ GE191.out | refine below_set ?_ GE192.out) | exact HB.out)) hb); clear BK191; clear BK192; clear HB; have HO195 := n0_; have HO198 := n1_; have BK191 := n2_; have BK192 := n3_; have HB := n4_; clear n0_ n1_ n2_ n3_ n4_; (try clear hb); (try clear hb2); (try clear hk); (try clear hi); (try clear ho0); (try clear ho1); obtain ⟨Ao14, co14, eo14⟩ := Kd.R_slice HO195.out; subst eo14; have hcz15_0 : w13.cell? ⟨gb191, 0, none⟩ = some (.slice A0_0 l0_0.length c0_0) := (blk_cell BK191.out 0).trans rfl; have hcz15_1 : w13.cell? ⟨gb191, 1, none⟩ = some (.slice A0_1 l0_1.length c0_1) := (blk_cell BK191.out 1).trans rfl; have hfz15_0 := blk_frozen BK191.out 0; have hfz15_1 := blk_frozen BK191.out 1; obtain ⟨Ao16, co16, eo16⟩ := Kd.R_slice HO198.out; subst eo16) | ((with_reducible refine gate_callee (f := 35) rfl ?_); refine goesL_ (some 8) rfl rfl Try.func35 (by kernel_rfl) rfl #[.agg #[.slice Ao14 t193.length co14, .slice Ao16 t196.length co16]] rfl (by (try simp only [List.map_toArray, List.map_cons, List.map_nil]); first | done | rfl | (simp only [List.length_drop, List.length_take]; rfl)) ?_; (with_reducible refine (spec_ImageValid.calls k _ _ t193 _ _ t196 true _ ?side1 ?side2 ?side3 ?side4 A4.out).mono ?_); (case side1 => refine (Kd.R_reads' (e := 4) (base := w.heap.size) (ok := fun k_ => True) (n := t193.length) (c := co14) ?_).2.2; exact (by (with_reducible repeat (first | apply Kd.R_alloc | apply Kd.R_drewN | apply Kd.R_drew)); exact (Kd.R_mono (Kd.R_far (p := ⟨gb191, 1, none⟩) (Kd.R_far (p := ⟨gb191, 0, none⟩) (Kd.R_types HO195.out BK191.out (by decide)) (fun _ hk => by first | exact hk.2 | exact trivial) (.slice Ao14 t193.length co14)) (fun _ hk => by first | exact hk.2 | exact trivial) (.slice Ao16 t196.length co16)) (fun _ h_ => h_.1)))); (case side2 => exact (Kd.R_reads' HO195.out).2.1); (case side3 => refine (Kd.R_reads' (e := 3) (base := w.heap.size) (ok := fun k_ => True) (n := t196.length) (c := co16) ?_).2.2; exact (by (with_reducible repeat (first | apply Kd.R_alloc | apply Kd.R_drewN | apply Kd.R_drew)); exact (Kd.R_mono (Kd.R_far (p := ⟨gb191, 1, none⟩) (Kd.R_far (p := ⟨gb191, 0, none⟩) (Kd.R_types HO198.out BK191.out (by decide)) (fun _ hk => by first | exact hk.2 | exact trivial) (.slice Ao14 t193.length co14)) (fun _ hk => by first | exact hk.2 | exact trivial) (.slice Ao16 t196.length co16)) (fun _ h_ => h_.1)))); (case side4 => exact (Kd.R_reads' HO198.out).2.1); rintro e w17 ⟨rfl, hb⟩; refine ⟨_, rfl, ?_⟩; have n0_ := Aside0.mk (Kd.R_below (by (with_reducible repeat (first | apply Kd.R_alloc | apply Kd.R_drewN | apply Kd.R_drew)); exact (Kd.R_mono (Kd.R_far (p := ⟨gb191, 1, none⟩) (Kd.R_far (p := ⟨gb191, 0, none⟩) (Kd.R_types HO195.out BK191.out (by decide)) (fun _ hk => by first | exact hk.2 | exact trivial) (.slice Ao14 t193.length co14)) (fun _ hk => by first | exact hk.2 | exact trivial) (.slice Ao16 t196.length co16)) (fun _ h_ => h_.1))) hb); have n1_ := Aside0.mk (Kd.R_below (by (with_reducible repeat (first | apply Kd.R_alloc | apply Kd.R_drewN | apply Kd.R_drew)); exact (Kd.R_mono (Kd.R_far (p := ⟨gb191, 1, none⟩) (Kd.R_far (p := ⟨gb191, 0, none⟩) (Kd.R_types HO198.out BK191.out (by decide)) (fun _ hk => by first | exact hk.2 | exact trivial) (.slice Ao14 t193.length co14)) (fun _ hk => by first | exact hk.2 | exact trivial) (.slice Ao16 t196.length co16)) (fun _ h_ => h_.1))) hb); have n2_ := Aside0.mk (blk_below (g := gb191) (o := .cells #[.slice Ao14 t193.length co14, .slice Ao16 t196.length co16] 27 (0, 0)) (by (with_reducible repeat (first | refine blk_drewN ?_ _ | refine blk_drew ?_ | refine blk_alloc ?_ _)); refine blk_put (cs := #[.slice Ao14 t193.length co14, .slice A0_1 l0_1.length c0_1]) ?_ 1 _ rfl; (with_reducible repeat (first | refine blk_drewN ?_ _ | refine blk_drew ?_ | refine blk_alloc ?_ _)); refine blk_put (cs := #[.slice A0_0 l0_0.length c0_0, .slice A0_1 l0_1.length c0_1]) ?_ 0 _ rfl; (with_reducible repeat (first | refine blk_drewN ?_ _ | refine blk_drew ?_ | refine blk_alloc ?_ _)); exact BK191.out) hb); have n3_ := Aside0.mk (blk_below (g := gb192) (o := .cells #[.slice none 0 0, .slice none 0 0] 27 (0, 0)) (by (with_reducible repeat (first | refine blk_drewN ?_ _ | refine blk_drew ?_ | refine blk_alloc ?_ _)); refine blk_far ?_ NB192_191.out _; (with_reducible repeat (first | refine blk_drewN ?_ _ | refine blk_drew ?_ | refine blk_alloc ?_ _)); refine blk_far ?_ NB192_191.out _; (with_reducible repeat (first | refine blk_drewN ?_ _ | refine blk_drew ?_ | refine blk_alloc ?_ _)); exact BK192.out) hb); have n4_ := Aside0.mk (below_step (by repeat (first | (with_reducible first | exact HB.out | apply below_alloc | apply pw_below_drewN | apply below_drew1 | refine below_set ?_ GE191.out | refine below_set ?_ GE192.out) | exact HB.out)) hb); clear HO195; clear HO198; clear BK191; clear BK192; clear HB; have HO195 := n0_; have HO198 := n1_; have BK191 := n2_; have BK192 := n3_; have HB := n4_; clear n0_ n1_ n2_ n3_ n4_; (try clear hb); (try clear hb2); (try clear hk); (try clear hi); have hcz18_0 : w17.cell? ⟨gb191, 0, none⟩ = some (.slice Ao14 t193.length co14) := (blk_cell BK191.out 0).trans rfl; have hcz18_1 : w17.cell? ⟨gb191, 1, none⟩ = some (.slice Ao16 t196.length co16) := (blk_cell BK191.out 1).trans rfl; have hfz18_0 := blk_frozen BK191.out 0; have hfz18_1 := blk_frozen BK191.out 1) | (go_at_call 52; (with_reducible refine (spec_ForcesValid.calls k _ _ l1 (t193.length : Int) true _ ?side1 ?side2 A6.out).mono ?_); (case side1 => repeat (first | exact (Kd.C_below HR1.out HB.out) | (with_reducible refine Kd.C_alloc ?_ _) | (with_reducible refine Kd.C_drewN ?_ _) | (with_reducible refine Kd.C_drew ?_))); (case side2 => exact HC1.out); rintro e w' ⟨rfl, ⟨nd, rfl⟩⟩; (try (rw [drewN_self w17]; generalize hq_ : World.drewN w17 _ = w17; have n0_ : Aside0 (Kd.R Kd.bool 4 w17 w.heap.size (fun _ => True) (.slice Ao14 t193.length co14) t193) := ⟨by rw [← hq_]; exact (by (with_reducible repeat (first | apply Kd.R_alloc | apply Kd.R_drewN | apply Kd.R_drew)); exact HO195.out)⟩; have n1_ : Aside0 (Kd.R (Kd.int .i64) 3 w17 w.heap.size (fun _ => True) (.slice Ao16 t196.length co16) t196) := ⟨by rw [← hq_]; exact (by (with_reducible repeat (first | apply Kd.R_alloc | apply Kd.R_drewN | apply Kd.R_drew)); exact HO198.out)⟩; have n2_ : Aside0 (w17.heap[gb191]? = some (.cells #[.slice Ao14 t193.length co14, .slice Ao16 t196.length co16] 27 (0, 0))) := ⟨by rw [← hq_]; exact (by (with_reducible repeat (first | refine blk_drewN ?_ _ | refine blk_drew ?_ | refine blk_alloc ?_ _)); exact BK191.out)⟩; have n3_ : Aside0 (w17.heap[gb192]? = some (.cells #[.slice none 0 0, .slice none 0 0] 27 (0, 0))) := ⟨by rw [← hq_]; exact (by (with_reducible repeat (first | refine blk_drewN ?_ _ | refine blk_drew ?_ | refine blk_alloc ?_ _)); exact BK192.out)⟩; have n4_ : Aside0 (Below w.heap.size w w17) := ⟨by rw [← hq_]; exact (by repeat (first | (with_reducible first | exact HB.out | apply below_alloc | apply pw_below_drewN | apply below_drew1 | refine below_set ?_ GE191.out | refine below_set ?_ GE192.out) | exact HB.out))⟩; clear HO195 HO198 BK191 BK192 HB hq_; have HO195 := n0_; have HO198 := n1_; have BK191 := n2_; have BK192 := n3_; have HB := n4_; clear n0_ n1_ n2_ n3_ n4_; (try (have hfz12_0 := blk_frozen BK191.out 0)); (try (have hfz12_1 := blk_frozen BK191.out 1)); (try (have hfz15_0 := blk_frozen BK191.out 0)); (try (have hfz15_1 := blk_frozen BK191.out 1)); (try (have hcz18_0 : w17.cell? ⟨gb191, 0, none⟩ = some (.slice Ao14 t193.length co14) := (blk_cell BK191.out 0).trans rfl)); (try (have hcz18_1 : w17.cell? ⟨gb191, 1, none⟩ = some (.slice Ao16 t196.length co16) := (blk_cell BK191.out 1).trans rfl)); (try (have hfz18_0 := blk_frozen BK191.out 0)); (try (have hfz18_1 := blk_frozen BK191.out 1))))) | ((with_reducible refine gate_callee (f := 53) rfl ?_); refine goesL_ (some 21) rfl rfl Try.func53 (by kernel_rfl) rfl #[.agg #[.slice Ao14 t193.length co14, .slice Ao16 t196.length co16], .slice A1 l1.length c1] rfl (by (try simp only [List.map_toArray, List.map_cons, List.map_nil]); first | done | rfl | (simp only [List.length_drop, List.length_take]; rfl)) ?_; (with_reducible refine (spec_l14Apply.calls k _ _ t193 _ _ t196 _ _ l1 t201 t204 _ ?side1 ?side2 ?side3 ?side4 ?side5 ?side6 A8.out).mono ?_); (case side1 => repeat (first | exact (Kd.R_reads' HO195.out).2.2 | (with_reducible refine Kd.C_alloc ?_ _) | (with_reducible refine Kd.C_drewN ?_ _) | (with_reducible refine Kd.C_drew ?_))); (case side2 => exact (Kd.R_reads' HO195.out).2.1); (case side3 => repeat (first | exact (Kd.R_reads' HO198.out).2.2 | (with_reducible refine Kd.C_alloc ?_ _) | (with_reducible refine Kd.C_drewN ?_ _) | (with_reducible refine Kd.C_drew ?_))); (case side4 => exact (Kd.R_reads' HO198.out).2.1); (case side5 => repeat (first | exact (Kd.C_below HR1.out HB.out) | (with_reducible refine Kd.C_alloc ?_ _) | (with_reducible refine Kd.C_drewN ?_ _) | (with_reducible refine Kd.C_drew ?_))); (case side6 => exact HC1.out); rintro e w19 ⟨v202, v205, rfl, ho0, ho1, hb⟩; refine ⟨_, rfl, ?_⟩; have n0_ := Aside0.mk (Kd.R_elder' (by (with_reducible repeat (first | apply Kd.R_alloc | apply Kd.R_drewN | apply Kd.R_drew)); exact HO195.out) (Kd.R_base ho0) hb); have n1_ := Aside0.mk (Kd.R_elder' (by (with_reducible repeat (first | apply Kd.R_alloc | apply Kd.R_drewN | apply Kd.R_drew)); exact HO198.out) (Kd.R_base ho1) hb); have n2_ := Aside0.mk (Kd.R_lower (Kd.R_new' ho0 (Kd.R_lt (by (with_reducible repeat (first | apply Kd.R_alloc | apply Kd.R_drewN | apply Kd.R_drew)); exact HO195.out))) (below_size (by repeat (first | (with_reducible first | exact HB.out | apply below_alloc | apply pw_below_drewN | apply below_drew1 | refine below_set ?_ GE191.out | refine below_set ?_ GE192.out) | exact HB.out)))); have n3_ := Aside0.mk (Kd.R_lower (Kd.R_new' ho1 (Kd.R_lt (by (with_reducible repeat (first | apply Kd.R_alloc | apply Kd.R_drewN | apply Kd.R_drew)); exact HO198.out))) (below_size (by repeat (first | (with_reducible first | exact HB.out | apply below_alloc | apply pw_below_drewN | apply below_drew1 | refine below_set ?_ GE191.out | refine below_set ?_ GE192.out) | exact HB.out)))); have n4_ := Aside0.mk (blk_below (g := gb191) (o := .cells #[.slice Ao14 t193.length co14, .slice Ao16 t196.length co16] 27 (0, 0)) (by (with_reducible repeat (first | refine blk_drewN ?_ _ | refine blk_drew ?_ | refine blk_alloc ?_ _)); exact BK191.out) hb); have n5_ := Aside0.mk (blk_below (g := gb192) (o := .cells #[.slice none 0 0, .slice none 0 0] 27 (0, 0)) (by (with_reducible repeat (first | refine blk_drewN ?_ _ | refine blk_drew ?_ | refine blk_alloc ?_ _)); exact BK192.out) hb); have n6_ := Aside0.mk (below_step (by repeat (first | (with_reducible first | exact HB.out | apply below_alloc | apply pw_below_drewN | apply below_drew1 | refine below_set ?_ GE191.out | refine below_set ?_ GE192.out) | exact HB.out)) hb); clear HO195; clear HO198; clear BK191; clear BK192; clear HB; have HO195 := n0_; have HO198 := n1_; have HO203 := n2_; have HO206 := n3_; have BK191 := n4_; have BK192 := n5_; have HB := n6_; clear n0_ n1_ n2_ n3_ n4_ n5_ n6_; (try clear hb); (try clear hb2); (try clear hk); (try clear hi); (try clear ho0); (try clear ho1); obtain ⟨Ao20, co20, eo20⟩ := Kd.R_slice HO203.out; subst eo20; have hcz21_0 : w19.cell? ⟨gb192, 0, none⟩ = some (.slice none 0 0) := (blk_cell BK192.out 0).trans rfl; have hcz21_1 : w19.cell? ⟨gb192, 1, none⟩ = some (.slice none 0 0) := (blk_cell BK192.out 1).trans rfl; have hfz21_0 := blk_frozen BK192.out 0; have hfz21_1 := blk_frozen BK192.out 1; obtain ⟨Ao22, co22, eo22⟩ := Kd.R_slice HO206.out; subst eo22))
      refine bodyPost_ret (results_cell_row rfl _ _ gb192 27 #[.slice Ao20 t201.length co20, .slice Ao22 t204.length co22] (0, 0) _ rfl (by (with_reducible repeat (first | refine blk_drewN ?_ _ | refine blk_drew ?_ | refine blk_alloc ?_ _)); refine blk_put (cs := #[.slice Ao20 t201.length co20, .slice none 0 0]) ?_ 1 _ rfl; (with_reducible repeat (first | refine blk_drewN ?_ _ | refine blk_drew ?_ | refine blk_alloc ?_ _)); refine blk_put (cs := #[.slice none 0 0, .slice none 0 0]) ?_ 0 _ rfl; (with_reducible repeat (first | refine blk_drewN ?_ _ | refine blk_drew ?_ | refine blk_alloc ?_ _)); exact BK192.out) Try.underlying27 rfl (by kernel_rfl)) rfl ?_
      exact ⟨_, _, by first | rfl | (simp [errW_none, errW_some] <;> rfl) | (simp [*, errW_none, errW_some] <;> rfl), by (with_reducible repeat (first | apply Kd.R_alloc | apply Kd.R_drewN | apply Kd.R_drew)); exact Kd.R_mono (Kd.R_far (p := ⟨gb192, 1, none⟩) (Kd.R_far (p := ⟨gb192, 0, none⟩) (Kd.R_types HO203.out BK192.out (by decide)) (fun _ hk => by first | exact hk.2 | exact trivial) (.slice Ao20 t201.length co20)) (fun _ hk => by first | exact hk.2 | exact trivial) (.slice Ao22 t204.length co22)) (fun _ hk => trivial), by (with_reducible repeat (first | apply Kd.R_alloc | apply Kd.R_drewN | apply Kd.R_drew)); exact Kd.R_mono (Kd.R_far (p := ⟨gb192, 1, none⟩) (Kd.R_far (p := ⟨gb192, 0, none⟩) (Kd.R_types HO206.out BK192.out (by decide)) (fun _ hk => by first | exact hk.2 | exact trivial) (.slice Ao20 t201.length co20)) (fun _ hk => by first | exact hk.2 | exact trivial) (.slice Ao22 t204.length co22)) (fun _ hk => trivial), by repeat (first | (with_reducible first | exact HB.out | apply below_alloc | apply pw_below_drewN | apply below_drew1 | refine below_set ?_ GE191.out | refine below_set ?_ GE192.out) | exact HB.out)⟩
    · replace c7 := Bool.eq_false_iff.mpr c7
      subst c7
      have H1 : (some (([] : List Bool), ([] : List Int))) = some (r1, r2) := by rw [if_neg (show ¬ (false = true) by decide)] at H; exact H
      clear H
      have H := H1
      clear H1
      simp only [Option.some.injEq, Prod.mk.injEq] at H
      obtain ⟨rfl, rfl⟩ := H
      go_enter Try.func23, Try.ntmps23
      go_wp2_with (first | ((with_reducible refine gate_dst (N := 2) rfl ?_); (try (refine gate_guard (by rfl) ?_; dsimp only)); refine box_event ?hg (N := 2) ?hd (cs := #[.slice A0_0 l0_0.length c0_0, .slice A0_1 l0_1.length c0_1]) (t := 27) ?hr ?_; (case hd => rfl); (case hg => rfl); (case hr => first | (go_simp; done) | (go_simp; rfl)); intro gb191 hg w23 hbox hb; have n0_ := Aside0.mk (below_step (by repeat (first | (with_reducible first | exact HB.out | apply below_alloc | apply pw_below_drewN | apply below_drew1) | exact HB.out)) hb); have n1_ := Aside0.mk (hbox); have n2_ := Aside0.mk ((by rw [hg]; exact (below_size (by repeat (first | (with_reducible first | exact HB.out | apply below_alloc | apply pw_below_drewN | apply below_drew1) | exact HB.out))) : w.heap.size ≤ gb191)); have n3_ := Aside0.mk ((by rw [hg]; exact (below_size (by repeat (first | (with_reducible first | exact HB.out | apply below_alloc | apply pw_below_drewN | apply below_drew1) | exact HB.out))) : w.heap.size ≤ gb191)); clear HB; have HB := n0_; have BK191 := n1_; have GW191 := n2_; have GE191 := n3_; clear n0_ n1_ n2_ n3_; clear hb hbox hg) | ((with_reducible refine gate_dst (N := 4) rfl ?_); (try (refine gate_guard (by rfl) ?_; dsimp only)); refine box_event ?hg (N := 4) ?hd (cs := #[.slice none 0 0, .slice none 0 0]) (t := 27) ?hr ?_; (case hd => rfl); (case hg => rfl); (case hr => first | (go_simp; done) | (go_simp; rfl)); intro gb192 hg w24 hbox hb; have n0_ := Aside0.mk (blk_below (g := gb191) (o := .cells #[.slice A0_0 l0_0.length c0_0, .slice A0_1 l0_1.length c0_1] 27 (0, 0)) (by (with_reducible repeat (first | refine blk_drewN ?_ _ | refine blk_drew ?_ | refine blk_alloc ?_ _)); exact BK191.out) hb); have n1_ := Aside0.mk (below_step (by repeat (first | (with_reducible first | exact HB.out | apply below_alloc | apply pw_below_drewN | apply below_drew1 | refine below_set ?_ GE191.out) | exact HB.out)) hb); have n2_ := Aside0.mk (hbox); have n3_ := Aside0.mk ((by rw [hg]; exact (below_size (by repeat (first | (with_reducible first | exact HB.out | apply below_alloc | apply pw_below_drewN | apply below_drew1 | refine below_set ?_ GE191.out) | exact HB.out))) : w.heap.size ≤ gb192)); have n4_ := Aside0.mk ((by rw [hg]; exact (below_size (by repeat (first | (with_reducible first | exact HB.out | apply below_alloc | apply pw_below_drewN | apply below_drew1 | refine below_set ?_ GE191.out) | exact HB.out))) : w.heap.size ≤ gb192)); have n5_ := Aside0.mk ((by rw [hg]; exact Nat.ne_of_lt (blk_lt (g := gb191) (o := .cells #[.slice A0_0 l0_0.length c0_0, .slice A0_1 l0_1.length c0_1] 27 (0, 0)) (by (with_reducible repeat (first | refine blk_drewN ?_ _ | refine blk_drew ?_ | refine blk_alloc ?_ _)); exact BK191.out)) : gb191 ≠ gb192)); have n6_ := Aside0.mk ((by rw [hg]; exact Nat.ne_of_gt (blk_lt (g := gb191) (o := .cells #[.slice A0_0 l0_0.length c0_0, .slice A0_1 l0_1.length c0_1] 27 (0, 0)) (by (with_reducible repeat (first | refine blk_drewN ?_ _ | refine blk_drew ?_ | refine blk_alloc ?_ _)); exact BK191.out)) : gb192 ≠ gb191)); clear BK191; clear HB; have BK191 := n0_; have HB := n1_; have BK192 := n2_; have GW192 := n3_; have GE192 := n4_; have NB191_192 := n5_; have NB192_191 := n6_; clear n0_ n1_ n2_ n3_ n4_ n5_ n6_; clear hb hbox hg; have hnb25 := NB191_192.out; have hnc25 := NB192_191.out; have hcz26_0 : w24.cell? ⟨gb191, 0, none⟩ = some (.slice A0_0 l0_0.length c0_0) := (blk_cell BK191.out 0).trans rfl; have hcz26_1 : w24.cell? ⟨gb191, 1, none⟩ = some (.slice A0_1 l0_1.length c0_1) := (blk_cell BK191.out 1).trans rfl; have hfz26_0 := blk_frozen BK191.out 0; have hfz26_1 := blk_frozen BK191.out 1) | ((with_reducible refine gate_callee (f := 48) rfl ?_); refine goesL_ (some 6) rfl rfl Try.func48 (by kernel_rfl) rfl #[.agg #[.slice A0_0 l0_0.length c0_0, .slice A0_1 l0_1.length c0_1]] rfl (by (try simp only [List.map_toArray, List.map_cons, List.map_nil]); first | done | rfl | (simp only [List.length_drop, List.length_take]; rfl)) ?_; (with_reducible refine (spec_l1OwnImage.calls _ _ l0_0 _ _ l0_1 t193 t196 _ ?side1 ?side2 ?side3 ?side4 A3.out).mono ?_); (case side1 => repeat (first | exact (Kd.C_below HR0_0.out HB.out) | (with_reducible refine Kd.C_alloc ?_ _) | (with_reducible refine Kd.C_drewN ?_ _) | (with_reducible refine Kd.C_drew ?_))); (case side2 => exact HC0_0.out); (case side3 => repeat (first | exact (Kd.C_below HR0_1.out HB.out) | (with_reducible refine Kd.C_alloc ?_ _) | (with_reducible refine Kd.C_drewN ?_ _) | (with_reducible refine Kd.C_drew ?_))); (case side4 => exact HC0_1.out); rintro e w27 ⟨v194, v197, rfl, ho0, ho1, hb⟩; refine ⟨_, rfl, ?_⟩; have n0_ := Aside0.mk (Kd.R_lower ho0 (below_size (by repeat (first | (with_reducible first | exact HB.out | apply below_alloc | apply pw_below_drewN | apply below_drew1 | refine below_set ?_ GE191.out | refine below_set ?_ GE192.out) | exact HB.out)))); have n1_ := Aside0.mk (Kd.R_lower ho1 (below_size (by repeat (first | (with_reducible first | exact HB.out | apply below_alloc | apply pw_below_drewN | apply below_drew1 | refine below_set ?_ GE191.out | refine below_set ?_ GE192.out) | exact HB.out)))); have n2_ := Aside0.mk (blk_below (g := gb191) (o := .cells #[.slice A0_0 l0_0.length c0_0, .slice A0_1 l0_1.length c0_1] 27 (0, 0)) (by (with_reducible repeat (first | refine blk_drewN ?_ _ | refine blk_drew ?_ | refine blk_alloc ?_ _)); exact BK191.out) hb); have n3_ := Aside0.mk (blk_below (g := gb192) (o := .cells #[.slice none 0 0, .slice none 0 0] 27 (0, 0)) (by (with_reducible repeat (first | refine blk_drewN ?_ _ | refine blk_drew ?_ | refine blk_alloc ?_ _)); exact BK192.out) hb); have n4_ := Aside0.mk (below_step (by repeat (first | (with_reducible first | exact HB.out | apply below_alloc | apply pw_below_drewN | apply below_drew1 | refine below_set ?_ GE191.out | refine below_set ?_ GE192.out) | exact HB.out)) hb); clear BK191; clear BK192; clear HB; have HO195 := n0_; have HO198 := n1_; have BK191 := n2_; have BK192 := n3_; have HB := n4_; clear n0_ n1_ n2_ n3_ n4_; (try clear hb); (try clear hb2); (try clear hk); (try clear hi); (try clear ho0); (try clear ho1); obtain ⟨Ao28, co28, eo28⟩ := Kd.R_slice HO195.out; subst eo28; have hcz29_0 : w27.cell? ⟨gb191, 0, none⟩ = some (.slice A0_0 l0_0.length c0_0) := (blk_cell BK191.out 0).trans rfl; have hcz29_1 : w27.cell? ⟨gb191, 1, none⟩ = some (.slice A0_1 l0_1.length c0_1) := (blk_cell BK191.out 1).trans rfl; have hfz29_0 := blk_frozen BK191.out 0; have hfz29_1 := blk_frozen BK191.out 1; obtain ⟨Ao30, co30, eo30⟩ := Kd.R_slice HO198.out; subst eo30) | ((with_reducible refine gate_callee (f := 35) rfl ?_); refine goesL_ (some 8) rfl rfl Try.func35 (by kernel_rfl) rfl #[.agg #[.slice Ao28 t193.length co28, .slice Ao30 t196.length co30]] rfl (by (try simp only [List.map_toArray, List.map_cons, List.map_nil]); first | done | rfl | (simp only [List.length_drop, List.length_take]; rfl)) ?_; (with_reducible refine (spec_ImageValid.calls k _ _ t193 _ _ t196 true _ ?side1 ?side2 ?side3 ?side4 A4.out).mono ?_); (case side1 => refine (Kd.R_reads' (e := 4) (base := w.heap.size) (ok := fun k_ => True) (n := t193.length) (c := co28) ?_).2.2; exact (by (with_reducible repeat (first | apply Kd.R_alloc | apply Kd.R_drewN | apply Kd.R_drew)); exact (Kd.R_mono (Kd.R_far (p := ⟨gb191, 1, none⟩) (Kd.R_far (p := ⟨gb191, 0, none⟩) (Kd.R_types HO195.out BK191.out (by decide)) (fun _ hk => by first | exact hk.2 | exact trivial) (.slice Ao28 t193.length co28)) (fun _ hk => by first | exact hk.2 | exact trivial) (.slice Ao30 t196.length co30)) (fun _ h_ => h_.1)))); (case side2 => exact (Kd.R_reads' HO195.out).2.1); (case side3 => refine (Kd.R_reads' (e := 3) (base := w.heap.size) (ok := fun k_ => True) (n := t196.length) (c := co30) ?_).2.2; exact (by (with_reducible repeat (first | apply Kd.R_alloc | apply Kd.R_drewN | apply Kd.R_drew)); exact (Kd.R_mono (Kd.R_far (p := ⟨gb191, 1, none⟩) (Kd.R_far (p := ⟨gb191, 0, none⟩) (Kd.R_types HO198.out BK191.out (by decide)) (fun _ hk => by first | exact hk.2 | exact trivial) (.slice Ao28 t193.length co28)) (fun _ hk => by first | exact hk.2 | exact trivial) (.slice Ao30 t196.length co30)) (fun _ h_ => h_.1)))); (case side4 => exact (Kd.R_reads' HO198.out).2.1); rintro e w31 ⟨rfl, hb⟩; refine ⟨_, rfl, ?_⟩; have n0_ := Aside0.mk (Kd.R_below (by (with_reducible repeat (first | apply Kd.R_alloc | apply Kd.R_drewN | apply Kd.R_drew)); exact (Kd.R_mono (Kd.R_far (p := ⟨gb191, 1, none⟩) (Kd.R_far (p := ⟨gb191, 0, none⟩) (Kd.R_types HO195.out BK191.out (by decide)) (fun _ hk => by first | exact hk.2 | exact trivial) (.slice Ao28 t193.length co28)) (fun _ hk => by first | exact hk.2 | exact trivial) (.slice Ao30 t196.length co30)) (fun _ h_ => h_.1))) hb); have n1_ := Aside0.mk (Kd.R_below (by (with_reducible repeat (first | apply Kd.R_alloc | apply Kd.R_drewN | apply Kd.R_drew)); exact (Kd.R_mono (Kd.R_far (p := ⟨gb191, 1, none⟩) (Kd.R_far (p := ⟨gb191, 0, none⟩) (Kd.R_types HO198.out BK191.out (by decide)) (fun _ hk => by first | exact hk.2 | exact trivial) (.slice Ao28 t193.length co28)) (fun _ hk => by first | exact hk.2 | exact trivial) (.slice Ao30 t196.length co30)) (fun _ h_ => h_.1))) hb); have n2_ := Aside0.mk (blk_below (g := gb191) (o := .cells #[.slice Ao28 t193.length co28, .slice Ao30 t196.length co30] 27 (0, 0)) (by (with_reducible repeat (first | refine blk_drewN ?_ _ | refine blk_drew ?_ | refine blk_alloc ?_ _)); refine blk_put (cs := #[.slice Ao28 t193.length co28, .slice A0_1 l0_1.length c0_1]) ?_ 1 _ rfl; (with_reducible repeat (first | refine blk_drewN ?_ _ | refine blk_drew ?_ | refine blk_alloc ?_ _)); refine blk_put (cs := #[.slice A0_0 l0_0.length c0_0, .slice A0_1 l0_1.length c0_1]) ?_ 0 _ rfl; (with_reducible repeat (first | refine blk_drewN ?_ _ | refine blk_drew ?_ | refine blk_alloc ?_ _)); exact BK191.out) hb); have n3_ := Aside0.mk (blk_below (g := gb192) (o := .cells #[.slice none 0 0, .slice none 0 0] 27 (0, 0)) (by (with_reducible repeat (first | refine blk_drewN ?_ _ | refine blk_drew ?_ | refine blk_alloc ?_ _)); refine blk_far ?_ NB192_191.out _; (with_reducible repeat (first | refine blk_drewN ?_ _ | refine blk_drew ?_ | refine blk_alloc ?_ _)); refine blk_far ?_ NB192_191.out _; (with_reducible repeat (first | refine blk_drewN ?_ _ | refine blk_drew ?_ | refine blk_alloc ?_ _)); exact BK192.out) hb); have n4_ := Aside0.mk (below_step (by repeat (first | (with_reducible first | exact HB.out | apply below_alloc | apply pw_below_drewN | apply below_drew1 | refine below_set ?_ GE191.out | refine below_set ?_ GE192.out) | exact HB.out)) hb); clear HO195; clear HO198; clear BK191; clear BK192; clear HB; have HO195 := n0_; have HO198 := n1_; have BK191 := n2_; have BK192 := n3_; have HB := n4_; clear n0_ n1_ n2_ n3_ n4_; (try clear hb); (try clear hb2); (try clear hk); (try clear hi); have hcz32_0 : w31.cell? ⟨gb191, 0, none⟩ = some (.slice Ao28 t193.length co28) := (blk_cell BK191.out 0).trans rfl; have hcz32_1 : w31.cell? ⟨gb191, 1, none⟩ = some (.slice Ao30 t196.length co30) := (blk_cell BK191.out 1).trans rfl; have hfz32_0 := blk_frozen BK191.out 0; have hfz32_1 := blk_frozen BK191.out 1) | (go_at_call 52; (with_reducible refine (spec_ForcesValid.calls k _ _ l1 (t193.length : Int) false _ ?side1 ?side2 A6.out).mono ?_); (case side1 => repeat (first | exact (Kd.C_below HR1.out HB.out) | (with_reducible refine Kd.C_alloc ?_ _) | (with_reducible refine Kd.C_drewN ?_ _) | (with_reducible refine Kd.C_drew ?_))); (case side2 => exact HC1.out); rintro e w' ⟨rfl, ⟨nd, rfl⟩⟩; (try (rw [drewN_self w31]; generalize hq_ : World.drewN w31 _ = w31; have n0_ : Aside0 (Kd.R Kd.bool 4 w31 w.heap.size (fun _ => True) (.slice Ao28 t193.length co28) t193) := ⟨by rw [← hq_]; exact (by (with_reducible repeat (first | apply Kd.R_alloc | apply Kd.R_drewN | apply Kd.R_drew)); exact HO195.out)⟩; have n1_ : Aside0 (Kd.R (Kd.int .i64) 3 w31 w.heap.size (fun _ => True) (.slice Ao30 t196.length co30) t196) := ⟨by rw [← hq_]; exact (by (with_reducible repeat (first | apply Kd.R_alloc | apply Kd.R_drewN | apply Kd.R_drew)); exact HO198.out)⟩; have n2_ : Aside0 (w31.heap[gb191]? = some (.cells #[.slice Ao28 t193.length co28, .slice Ao30 t196.length co30] 27 (0, 0))) := ⟨by rw [← hq_]; exact (by (with_reducible repeat (first | refine blk_drewN ?_ _ | refine blk_drew ?_ | refine blk_alloc ?_ _)); exact BK191.out)⟩; have n3_ : Aside0 (w31.heap[gb192]? = some (.cells #[.slice none 0 0, .slice none 0 0] 27 (0, 0))) := ⟨by rw [← hq_]; exact (by (with_reducible repeat (first | refine blk_drewN ?_ _ | refine blk_drew ?_ | refine blk_alloc ?_ _)); exact BK192.out)⟩; have n4_ : Aside0 (Below w.heap.size w w31) := ⟨by rw [← hq_]; exact (by repeat (first | (with_reducible first | exact HB.out | apply below_alloc | apply pw_below_drewN | apply below_drew1 | refine below_set ?_ GE191.out | refine below_set ?_ GE192.out) | exact HB.out))⟩; clear HO195 HO198 BK191 BK192 HB hq_; have HO195 := n0_; have HO198 := n1_; have BK191 := n2_; have BK192 := n3_; have HB := n4_; clear n0_ n1_ n2_ n3_ n4_; (try (have hfz26_0 := blk_frozen BK191.out 0)); (try (have hfz26_1 := blk_frozen BK191.out 1)); (try (have hfz29_0 := blk_frozen BK191.out 0)); (try (have hfz29_1 := blk_frozen BK191.out 1)); (try (have hcz32_0 : w31.cell? ⟨gb191, 0, none⟩ = some (.slice Ao28 t193.length co28) := (blk_cell BK191.out 0).trans rfl)); (try (have hcz32_1 : w31.cell? ⟨gb191, 1, none⟩ = some (.slice Ao30 t196.length co30) := (blk_cell BK191.out 1).trans rfl)); (try (have hfz32_0 := blk_frozen BK191.out 0)); (try (have hfz32_1 := blk_frozen BK191.out 1)))); have hcz33_0 : w31.cell? ⟨gb192, 0, none⟩ = some (.slice none 0 0) := (blk_cell BK192.out 0).trans rfl; have hcz33_1 : w31.cell? ⟨gb192, 1, none⟩ = some (.slice none 0 0) := (blk_cell BK192.out 1).trans rfl; have hfz33_0 := blk_frozen BK192.out 0; have hfz33_1 := blk_frozen BK192.out 1))
      refine bodyPost_ret (results_cell_row rfl _ _ gb192 27 #[.slice none 0 0, .slice none 0 0] (0, 0) _ rfl (by (with_reducible repeat (first | refine blk_drewN ?_ _ | refine blk_drew ?_ | refine blk_alloc ?_ _)); refine blk_put (cs := #[.slice none 0 0, .slice none 0 0]) ?_ 1 _ rfl; (with_reducible repeat (first | refine blk_drewN ?_ _ | refine blk_drew ?_ | refine blk_alloc ?_ _)); refine blk_put (cs := #[.slice none 0 0, .slice none 0 0]) ?_ 0 _ rfl; (with_reducible repeat (first | refine blk_drewN ?_ _ | refine blk_drew ?_ | refine blk_alloc ?_ _)); exact BK192.out) Try.underlying27 rfl (by kernel_rfl)) rfl ?_
      exact ⟨_, _, by first | rfl | (simp [errW_none, errW_some] <;> rfl) | (simp [*, errW_none, errW_some] <;> rfl), by first | exact Kd.R_nil _ _ _ _ _ | exact Kd.N_nil _ _ _ _ _ | exact Kd.V_nil _ _ _ _ _ | exact Kd.W_nil _ _ _ _ _ | exact Kd.S_nil _ _ _ _ _, by first | exact Kd.R_nil _ _ _ _ _ | exact Kd.N_nil _ _ _ _ _ | exact Kd.V_nil _ _ _ _ _ | exact Kd.W_nil _ _ _ _ _ | exact Kd.S_nil _ _ _ _ _, by repeat (first | (with_reducible first | exact HB.out | apply below_alloc | apply pw_below_drewN | apply below_drew1 | refine below_set ?_ GE191.out | refine below_set ?_ GE192.out) | exact HB.out)⟩
  · replace c5 := Bool.eq_false_iff.mpr c5
    subst c5
    have H1 : (some (([] : List Bool), ([] : List Int))) = some (r1, r2) := by rw [if_neg (show ¬ (false = true) by decide)] at H; exact H
    clear H
    have H := H1
    clear H1
    simp only [Option.some.injEq, Prod.mk.injEq] at H
    obtain ⟨rfl, rfl⟩ := H
    go_enter Try.func23, Try.ntmps23
    go_wp2_with (first | ((with_reducible refine gate_dst (N := 2) rfl ?_); (try (refine gate_guard (by rfl) ?_; dsimp only)); refine box_event ?hg (N := 2) ?hd (cs := #[.slice A0_0 l0_0.length c0_0, .slice A0_1 l0_1.length c0_1]) (t := 27) ?hr ?_; (case hd => rfl); (case hg => rfl); (case hr => first | (go_simp; done) | (go_simp; rfl)); intro gb191 hg w34 hbox hb; have n0_ := Aside0.mk (below_step (by repeat (first | (with_reducible first | exact HB.out | apply below_alloc | apply pw_below_drewN | apply below_drew1) | exact HB.out)) hb); have n1_ := Aside0.mk (hbox); have n2_ := Aside0.mk ((by rw [hg]; exact (below_size (by repeat (first | (with_reducible first | exact HB.out | apply below_alloc | apply pw_below_drewN | apply below_drew1) | exact HB.out))) : w.heap.size ≤ gb191)); have n3_ := Aside0.mk ((by rw [hg]; exact (below_size (by repeat (first | (with_reducible first | exact HB.out | apply below_alloc | apply pw_below_drewN | apply below_drew1) | exact HB.out))) : w.heap.size ≤ gb191)); clear HB; have HB := n0_; have BK191 := n1_; have GW191 := n2_; have GE191 := n3_; clear n0_ n1_ n2_ n3_; clear hb hbox hg) | ((with_reducible refine gate_dst (N := 4) rfl ?_); (try (refine gate_guard (by rfl) ?_; dsimp only)); refine box_event ?hg (N := 4) ?hd (cs := #[.slice none 0 0, .slice none 0 0]) (t := 27) ?hr ?_; (case hd => rfl); (case hg => rfl); (case hr => first | (go_simp; done) | (go_simp; rfl)); intro gb192 hg w35 hbox hb; have n0_ := Aside0.mk (blk_below (g := gb191) (o := .cells #[.slice A0_0 l0_0.length c0_0, .slice A0_1 l0_1.length c0_1] 27 (0, 0)) (by (with_reducible repeat (first | refine blk_drewN ?_ _ | refine blk_drew ?_ | refine blk_alloc ?_ _)); exact BK191.out) hb); have n1_ := Aside0.mk (below_step (by repeat (first | (with_reducible first | exact HB.out | apply below_alloc | apply pw_below_drewN | apply below_drew1 | refine below_set ?_ GE191.out) | exact HB.out)) hb); have n2_ := Aside0.mk (hbox); have n3_ := Aside0.mk ((by rw [hg]; exact (below_size (by repeat (first | (with_reducible first | exact HB.out | apply below_alloc | apply pw_below_drewN | apply below_drew1 | refine below_set ?_ GE191.out) | exact HB.out))) : w.heap.size ≤ gb192)); have n4_ := Aside0.mk ((by rw [hg]; exact (below_size (by repeat (first | (with_reducible first | exact HB.out | apply below_alloc | apply pw_below_drewN | apply below_drew1 | refine below_set ?_ GE191.out) | exact HB.out))) : w.heap.size ≤ gb192)); have n5_ := Aside0.mk ((by rw [hg]; exact Nat.ne_of_lt (blk_lt (g := gb191) (o := .cells #[.slice A0_0 l0_0.length c0_0, .slice A0_1 l0_1.length c0_1] 27 (0, 0)) (by (with_reducible repeat (first | refine blk_drewN ?_ _ | refine blk_drew ?_ | refine blk_alloc ?_ _)); exact BK191.out)) : gb191 ≠ gb192)); have n6_ := Aside0.mk ((by rw [hg]; exact Nat.ne_of_gt (blk_lt (g := gb191) (o := .cells #[.slice A0_0 l0_0.length c0_0, .slice A0_1 l0_1.length c0_1] 27 (0, 0)) (by (with_reducible repeat (first | refine blk_drewN ?_ _ | refine blk_drew ?_ | refine blk_alloc ?_ _)); exact BK191.out)) : gb192 ≠ gb191)); clear BK191; clear HB; have BK191 := n0_; have HB := n1_; have BK192 := n2_; have GW192 := n3_; have GE192 := n4_; have NB191_192 := n5_; have NB192_191 := n6_; clear n0_ n1_ n2_ n3_ n4_ n5_ n6_; clear hb hbox hg; have hnb36 := NB191_192.out; have hnc36 := NB192_191.out; have hcz37_0 : w35.cell? ⟨gb191, 0, none⟩ = some (.slice A0_0 l0_0.length c0_0) := (blk_cell BK191.out 0).trans rfl; have hcz37_1 : w35.cell? ⟨gb191, 1, none⟩ = some (.slice A0_1 l0_1.length c0_1) := (blk_cell BK191.out 1).trans rfl; have hfz37_0 := blk_frozen BK191.out 0; have hfz37_1 := blk_frozen BK191.out 1) | ((with_reducible refine gate_callee (f := 48) rfl ?_); refine goesL_ (some 6) rfl rfl Try.func48 (by kernel_rfl) rfl #[.agg #[.slice A0_0 l0_0.length c0_0, .slice A0_1 l0_1.length c0_1]] rfl (by (try simp only [List.map_toArray, List.map_cons, List.map_nil]); first | done | rfl | (simp only [List.length_drop, List.length_take]; rfl)) ?_; (with_reducible refine (spec_l1OwnImage.calls _ _ l0_0 _ _ l0_1 t193 t196 _ ?side1 ?side2 ?side3 ?side4 A3.out).mono ?_); (case side1 => repeat (first | exact (Kd.C_below HR0_0.out HB.out) | (with_reducible refine Kd.C_alloc ?_ _) | (with_reducible refine Kd.C_drewN ?_ _) | (with_reducible refine Kd.C_drew ?_))); (case side2 => exact HC0_0.out); (case side3 => repeat (first | exact (Kd.C_below HR0_1.out HB.out) | (with_reducible refine Kd.C_alloc ?_ _) | (with_reducible refine Kd.C_drewN ?_ _) | (with_reducible refine Kd.C_drew ?_))); (case side4 => exact HC0_1.out); rintro e w38 ⟨v194, v197, rfl, ho0, ho1, hb⟩; refine ⟨_, rfl, ?_⟩; have n0_ := Aside0.mk (Kd.R_lower ho0 (below_size (by repeat (first | (with_reducible first | exact HB.out | apply below_alloc | apply pw_below_drewN | apply below_drew1 | refine below_set ?_ GE191.out | refine below_set ?_ GE192.out) | exact HB.out)))); have n1_ := Aside0.mk (Kd.R_lower ho1 (below_size (by repeat (first | (with_reducible first | exact HB.out | apply below_alloc | apply pw_below_drewN | apply below_drew1 | refine below_set ?_ GE191.out | refine below_set ?_ GE192.out) | exact HB.out)))); have n2_ := Aside0.mk (blk_below (g := gb191) (o := .cells #[.slice A0_0 l0_0.length c0_0, .slice A0_1 l0_1.length c0_1] 27 (0, 0)) (by (with_reducible repeat (first | refine blk_drewN ?_ _ | refine blk_drew ?_ | refine blk_alloc ?_ _)); exact BK191.out) hb); have n3_ := Aside0.mk (blk_below (g := gb192) (o := .cells #[.slice none 0 0, .slice none 0 0] 27 (0, 0)) (by (with_reducible repeat (first | refine blk_drewN ?_ _ | refine blk_drew ?_ | refine blk_alloc ?_ _)); exact BK192.out) hb); have n4_ := Aside0.mk (below_step (by repeat (first | (with_reducible first | exact HB.out | apply below_alloc | apply pw_below_drewN | apply below_drew1 | refine below_set ?_ GE191.out | refine below_set ?_ GE192.out) | exact HB.out)) hb); clear BK191; clear BK192; clear HB; have HO195 := n0_; have HO198 := n1_; have BK191 := n2_; have BK192 := n3_; have HB := n4_; clear n0_ n1_ n2_ n3_ n4_; (try clear hb); (try clear hb2); (try clear hk); (try clear hi); (try clear ho0); (try clear ho1); obtain ⟨Ao39, co39, eo39⟩ := Kd.R_slice HO195.out; subst eo39; have hcz40_0 : w38.cell? ⟨gb191, 0, none⟩ = some (.slice A0_0 l0_0.length c0_0) := (blk_cell BK191.out 0).trans rfl; have hcz40_1 : w38.cell? ⟨gb191, 1, none⟩ = some (.slice A0_1 l0_1.length c0_1) := (blk_cell BK191.out 1).trans rfl; have hfz40_0 := blk_frozen BK191.out 0; have hfz40_1 := blk_frozen BK191.out 1; obtain ⟨Ao41, co41, eo41⟩ := Kd.R_slice HO198.out; subst eo41) | ((with_reducible refine gate_callee (f := 35) rfl ?_); refine goesL_ (some 8) rfl rfl Try.func35 (by kernel_rfl) rfl #[.agg #[.slice Ao39 t193.length co39, .slice Ao41 t196.length co41]] rfl (by (try simp only [List.map_toArray, List.map_cons, List.map_nil]); first | done | rfl | (simp only [List.length_drop, List.length_take]; rfl)) ?_; (with_reducible refine (spec_ImageValid.calls k _ _ t193 _ _ t196 false _ ?side1 ?side2 ?side3 ?side4 A4.out).mono ?_); (case side1 => refine (Kd.R_reads' (e := 4) (base := w.heap.size) (ok := fun k_ => True) (n := t193.length) (c := co39) ?_).2.2; exact (by (with_reducible repeat (first | apply Kd.R_alloc | apply Kd.R_drewN | apply Kd.R_drew)); exact (Kd.R_mono (Kd.R_far (p := ⟨gb191, 1, none⟩) (Kd.R_far (p := ⟨gb191, 0, none⟩) (Kd.R_types HO195.out BK191.out (by decide)) (fun _ hk => by first | exact hk.2 | exact trivial) (.slice Ao39 t193.length co39)) (fun _ hk => by first | exact hk.2 | exact trivial) (.slice Ao41 t196.length co41)) (fun _ h_ => h_.1)))); (case side2 => exact (Kd.R_reads' HO195.out).2.1); (case side3 => refine (Kd.R_reads' (e := 3) (base := w.heap.size) (ok := fun k_ => True) (n := t196.length) (c := co41) ?_).2.2; exact (by (with_reducible repeat (first | apply Kd.R_alloc | apply Kd.R_drewN | apply Kd.R_drew)); exact (Kd.R_mono (Kd.R_far (p := ⟨gb191, 1, none⟩) (Kd.R_far (p := ⟨gb191, 0, none⟩) (Kd.R_types HO198.out BK191.out (by decide)) (fun _ hk => by first | exact hk.2 | exact trivial) (.slice Ao39 t193.length co39)) (fun _ hk => by first | exact hk.2 | exact trivial) (.slice Ao41 t196.length co41)) (fun _ h_ => h_.1)))); (case side4 => exact (Kd.R_reads' HO198.out).2.1); rintro e w42 ⟨rfl, hb⟩; refine ⟨_, rfl, ?_⟩; have n0_ := Aside0.mk (Kd.R_below (by (with_reducible repeat (first | apply Kd.R_alloc | apply Kd.R_drewN | apply Kd.R_drew)); exact (Kd.R_mono (Kd.R_far (p := ⟨gb191, 1, none⟩) (Kd.R_far (p := ⟨gb191, 0, none⟩) (Kd.R_types HO195.out BK191.out (by decide)) (fun _ hk => by first | exact hk.2 | exact trivial) (.slice Ao39 t193.length co39)) (fun _ hk => by first | exact hk.2 | exact trivial) (.slice Ao41 t196.length co41)) (fun _ h_ => h_.1))) hb); have n1_ := Aside0.mk (Kd.R_below (by (with_reducible repeat (first | apply Kd.R_alloc | apply Kd.R_drewN | apply Kd.R_drew)); exact (Kd.R_mono (Kd.R_far (p := ⟨gb191, 1, none⟩) (Kd.R_far (p := ⟨gb191, 0, none⟩) (Kd.R_types HO198.out BK191.out (by decide)) (fun _ hk => by first | exact hk.2 | exact trivial) (.slice Ao39 t193.length co39)) (fun _ hk => by first | exact hk.2 | exact trivial) (.slice Ao41 t196.length co41)) (fun _ h_ => h_.1))) hb); have n2_ := Aside0.mk (blk_below (g := gb191) (o := .cells #[.slice Ao39 t193.length co39, .slice Ao41 t196.length co41] 27 (0, 0)) (by (with_reducible repeat (first | refine blk_drewN ?_ _ | refine blk_drew ?_ | refine blk_alloc ?_ _)); refine blk_put (cs := #[.slice Ao39 t193.length co39, .slice A0_1 l0_1.length c0_1]) ?_ 1 _ rfl; (with_reducible repeat (first | refine blk_drewN ?_ _ | refine blk_drew ?_ | refine blk_alloc ?_ _)); refine blk_put (cs := #[.slice A0_0 l0_0.length c0_0, .slice A0_1 l0_1.length c0_1]) ?_ 0 _ rfl; (with_reducible repeat (first | refine blk_drewN ?_ _ | refine blk_drew ?_ | refine blk_alloc ?_ _)); exact BK191.out) hb); have n3_ := Aside0.mk (blk_below (g := gb192) (o := .cells #[.slice none 0 0, .slice none 0 0] 27 (0, 0)) (by (with_reducible repeat (first | refine blk_drewN ?_ _ | refine blk_drew ?_ | refine blk_alloc ?_ _)); refine blk_far ?_ NB192_191.out _; (with_reducible repeat (first | refine blk_drewN ?_ _ | refine blk_drew ?_ | refine blk_alloc ?_ _)); refine blk_far ?_ NB192_191.out _; (with_reducible repeat (first | refine blk_drewN ?_ _ | refine blk_drew ?_ | refine blk_alloc ?_ _)); exact BK192.out) hb); have n4_ := Aside0.mk (below_step (by repeat (first | (with_reducible first | exact HB.out | apply below_alloc | apply pw_below_drewN | apply below_drew1 | refine below_set ?_ GE191.out | refine below_set ?_ GE192.out) | exact HB.out)) hb); clear HO195; clear HO198; clear BK191; clear BK192; clear HB; have HO195 := n0_; have HO198 := n1_; have BK191 := n2_; have BK192 := n3_; have HB := n4_; clear n0_ n1_ n2_ n3_ n4_; (try clear hb); (try clear hb2); (try clear hk); (try clear hi); have hcz43_0 : w42.cell? ⟨gb192, 0, none⟩ = some (.slice none 0 0) := (blk_cell BK192.out 0).trans rfl; have hcz43_1 : w42.cell? ⟨gb192, 1, none⟩ = some (.slice none 0 0) := (blk_cell BK192.out 1).trans rfl; have hfz43_0 := blk_frozen BK192.out 0; have hfz43_1 := blk_frozen BK192.out 1))
    refine bodyPost_ret (results_cell_row rfl _ _ gb192 27 #[.slice none 0 0, .slice none 0 0] (0, 0) _ rfl (by (with_reducible repeat (first | refine blk_drewN ?_ _ | refine blk_drew ?_ | refine blk_alloc ?_ _)); refine blk_put (cs := #[.slice none 0 0, .slice none 0 0]) ?_ 1 _ rfl; (with_reducible repeat (first | refine blk_drewN ?_ _ | refine blk_drew ?_ | refine blk_alloc ?_ _)); refine blk_put (cs := #[.slice none 0 0, .slice none 0 0]) ?_ 0 _ rfl; (with_reducible repeat (first | refine blk_drewN ?_ _ | refine blk_drew ?_ | refine blk_alloc ?_ _)); exact BK192.out) Try.underlying27 rfl (by kernel_rfl)) rfl ?_
    exact ⟨_, _, by first | rfl | (simp [errW_none, errW_some] <;> rfl) | (simp [*, errW_none, errW_some] <;> rfl), by first | exact Kd.R_nil _ _ _ _ _ | exact Kd.N_nil _ _ _ _ _ | exact Kd.V_nil _ _ _ _ _ | exact Kd.W_nil _ _ _ _ _ | exact Kd.S_nil _ _ _ _ _, by first | exact Kd.R_nil _ _ _ _ _ | exact Kd.N_nil _ _ _ _ _ | exact Kd.V_nil _ _ _ _ _ | exact Kd.W_nil _ _ _ _ _ | exact Kd.S_nil _ _ _ _ _, by repeat (first | (with_reducible first | exact HB.out | apply below_alloc | apply pw_below_drewN | apply below_drew1 | refine below_set ?_ GE191.out | refine below_set ?_ GE192.out) | exact HB.out)⟩

/-! ### laws_toForce: function 54 -/
def laws_toForce.f (a0_0 : Int) (a0_1 : Bool) : Option (Int × Bool) := some (a0_0, a0_1)
set_option maxHeartbeats 8000000 in
set_option maxRecDepth 100000 in
theorem laws_toForce.calls (a0_0 : Int) (a0_1 : Bool) (r1 : Int) (r2 : Bool) (w : World) (h : laws_toForce.f a0_0 a0_1 = some (r1, r2)) :
    Calls Try.prog 54 #[.agg #[.int .i64 a0_0, .bool a0_1]] w fun e w' => e = .returned (.agg #[.int .i64 r1, .bool r2]) ∧ Below w.heap.size w w' := by
  have hu69 := Try.underlying69
  have hu67 := Try.underlying67
  have HB := Aside0.mk (Below.refl w.heap.size w)
  have H : (some (a0_0, a0_1)) = some (r1, r2) := h
  clear h
  simp only [Option.some.injEq, Prod.mk.injEq] at H
  obtain ⟨rfl, rfl⟩ := H
  go_enter Try.func54, Try.ntmps54
  go_wp2_with (first | ((with_reducible refine gate_dst (N := 1) rfl ?_); refine box_event ?hg (N := 1) ?hd (cs := #[.int .i64 a0_0, .bool a0_1]) (t := 69) ?hr ?_; (case hd => rfl); (case hg => rfl); (case hr => first | (go_simp; done) | (go_simp; rfl)); intro gb207 hg w2 hbox hb; have n0_ := Aside0.mk (below_step (by repeat (first | (with_reducible first | exact HB.out | apply below_alloc | apply pw_below_drewN | apply below_drew1) | exact HB.out)) hb); have n1_ := Aside0.mk (hbox); have n2_ := Aside0.mk ((by rw [hg]; exact (below_size (by repeat (first | (with_reducible first | exact HB.out | apply below_alloc | apply pw_below_drewN | apply below_drew1) | exact HB.out))) : w.heap.size ≤ gb207)); have n3_ := Aside0.mk ((by rw [hg]; exact (below_size (by repeat (first | (with_reducible first | exact HB.out | apply below_alloc | apply pw_below_drewN | apply below_drew1) | exact HB.out))) : w.heap.size ≤ gb207)); clear HB; have HB := n0_; have BK207 := n1_; have GW207 := n2_; have GE207 := n3_; clear n0_ n1_ n2_ n3_; clear hb hbox hg) | ((with_reducible refine gate_dst (N := 2) rfl ?_); refine box_event ?hg (N := 2) ?hd (cs := #[.int .i64 0, .bool false]) (t := 67) ?hr ?_; (case hd => rfl); (case hg => rfl); (case hr => first | (go_simp; done) | (go_simp; rfl)); intro gb208 hg w3 hbox hb; have n0_ := Aside0.mk (blk_below (g := gb207) (o := .cells #[.int .i64 a0_0, .bool a0_1] 69 (0, 0)) (by (with_reducible repeat (first | refine blk_drewN ?_ _ | refine blk_drew ?_ | refine blk_alloc ?_ _)); exact BK207.out) hb); have n1_ := Aside0.mk (below_step (by repeat (first | (with_reducible first | exact HB.out | apply below_alloc | apply pw_below_drewN | apply below_drew1 | refine below_set ?_ GE207.out) | exact HB.out)) hb); have n2_ := Aside0.mk (hbox); have n3_ := Aside0.mk ((by rw [hg]; exact (below_size (by repeat (first | (with_reducible first | exact HB.out | apply below_alloc | apply pw_below_drewN | apply below_drew1 | refine below_set ?_ GE207.out) | exact HB.out))) : w.heap.size ≤ gb208)); have n4_ := Aside0.mk ((by rw [hg]; exact (below_size (by repeat (first | (with_reducible first | exact HB.out | apply below_alloc | apply pw_below_drewN | apply below_drew1 | refine below_set ?_ GE207.out) | exact HB.out))) : w.heap.size ≤ gb208)); have n5_ := Aside0.mk ((by rw [hg]; exact Nat.ne_of_lt (blk_lt (g := gb207) (o := .cells #[.int .i64 a0_0, .bool a0_1] 69 (0, 0)) (by (with_reducible repeat (first | refine blk_drewN ?_ _ | refine blk_drew ?_ | refine blk_alloc ?_ _)); exact BK207.out)) : gb207 ≠ gb208)); have n6_ := Aside0.mk ((by rw [hg]; exact Nat.ne_of_gt (blk_lt (g := gb207) (o := .cells #[.int .i64 a0_0, .bool a0_1] 69 (0, 0)) (by (with_reducible repeat (first | refine blk_drewN ?_ _ | refine blk_drew ?_ | refine blk_alloc ?_ _)); exact BK207.out)) : gb208 ≠ gb207)); clear BK207; clear HB; have BK207 := n0_; have HB := n1_; have BK208 := n2_; have GW208 := n3_; have GE208 := n4_; have NB207_208 := n5_; have NB208_207 := n6_; clear n0_ n1_ n2_ n3_ n4_ n5_ n6_; clear hb hbox hg) | ((with_reducible refine gate_dst (N := 3) rfl ?_); refine box_event ?hg (N := 3) ?hd (cs := #[.int .i64 0, .bool false]) (t := 67) ?hr ?_; (case hd => rfl); (case hg => rfl); (case hr => first | (go_simp; done) | (go_simp; rfl)); intro gb209 hg w4 hbox hb; have n0_ := Aside0.mk (blk_below (g := gb207) (o := .cells #[.int .i64 a0_0, .bool a0_1] 69 (0, 0)) (by (with_reducible repeat (first | refine blk_drewN ?_ _ | refine blk_drew ?_ | refine blk_alloc ?_ _)); exact BK207.out) hb); have n1_ := Aside0.mk (blk_below (g := gb208) (o := .cells #[.int .i64 0, .bool false] 67 (0, 0)) (by (with_reducible repeat (first | refine blk_drewN ?_ _ | refine blk_drew ?_ | refine blk_alloc ?_ _)); exact BK208.out) hb); have n2_ := Aside0.mk (below_step (by repeat (first | (with_reducible first | exact HB.out | apply below_alloc | apply pw_below_drewN | apply below_drew1 | refine below_set ?_ GE207.out | refine below_set ?_ GE208.out) | exact HB.out)) hb); have n3_ := Aside0.mk (hbox); have n4_ := Aside0.mk ((by rw [hg]; exact (below_size (by repeat (first | (with_reducible first | exact HB.out | apply below_alloc | apply pw_below_drewN | apply below_drew1 | refine below_set ?_ GE207.out | refine below_set ?_ GE208.out) | exact HB.out))) : w.heap.size ≤ gb209)); have n5_ := Aside0.mk ((by rw [hg]; exact (below_size (by repeat (first | (with_reducible first | exact HB.out | apply below_alloc | apply pw_below_drewN | apply below_drew1 | refine below_set ?_ GE207.out | refine below_set ?_ GE208.out) | exact HB.out))) : w.heap.size ≤ gb209)); have n6_ := Aside0.mk ((by rw [hg]; exact Nat.ne_of_lt (blk_lt (g := gb207) (o := .cells #[.int .i64 a0_0, .bool a0_1] 69 (0, 0)) (by (with_reducible repeat (first | refine blk_drewN ?_ _ | refine blk_drew ?_ | refine blk_alloc ?_ _)); exact BK207.out)) : gb207 ≠ gb209)); have n7_ := Aside0.mk ((by rw [hg]; exact Nat.ne_of_gt (blk_lt (g := gb207) (o := .cells #[.int .i64 a0_0, .bool a0_1] 69 (0, 0)) (by (with_reducible repeat (first | refine blk_drewN ?_ _ | refine blk_drew ?_ | refine blk_alloc ?_ _)); exact BK207.out)) : gb209 ≠ gb207)); have n8_ := Aside0.mk ((by rw [hg]; exact Nat.ne_of_lt (blk_lt (g := gb208) (o := .cells #[.int .i64 0, .bool false] 67 (0, 0)) (by (with_reducible repeat (first | refine blk_drewN ?_ _ | refine blk_drew ?_ | refine blk_alloc ?_ _)); exact BK208.out)) : gb208 ≠ gb209)); have n9_ := Aside0.mk ((by rw [hg]; exact Nat.ne_of_gt (blk_lt (g := gb208) (o := .cells #[.int .i64 0, .bool false] 67 (0, 0)) (by (with_reducible repeat (first | refine blk_drewN ?_ _ | refine blk_drew ?_ | refine blk_alloc ?_ _)); exact BK208.out)) : gb209 ≠ gb208)); clear BK207; clear BK208; clear HB; have BK207 := n0_; have BK208 := n1_; have HB := n2_; have BK209 := n3_; have GW209 := n4_; have GE209 := n5_; have NB207_209 := n6_; have NB209_207 := n7_; have NB208_209 := n8_; have NB209_208 := n9_; clear n0_ n1_ n2_ n3_ n4_ n5_ n6_ n7_ n8_ n9_; clear hb hbox hg; have hnb5 := NB207_208.out; have hnc5 := NB208_207.out; have hnb6 := NB207_209.out; have hnc6 := NB209_207.out; have hcz7_0 : w4.cell? ⟨gb207, 0, none⟩ = some (.int .i64 a0_0) := (blk_cell BK207.out 0).trans rfl; have hcz7_1 : w4.cell? ⟨gb207, 1, none⟩ = some (.bool a0_1) := (blk_cell BK207.out 1).trans rfl; have hfz7_0 := blk_frozen BK207.out 0; have hfz7_1 := blk_frozen BK207.out 1; have hnb8 := NB209_208.out; have hnc8 := NB208_209.out; have hcz9_0 : w4.cell? ⟨gb209, 0, none⟩ = some (.int .i64 0) := (blk_cell BK209.out 0).trans rfl; have hcz9_1 : w4.cell? ⟨gb209, 1, none⟩ = some (.bool false) := (blk_cell BK209.out 1).trans rfl; have hfz9_0 := blk_frozen BK209.out 0; have hfz9_1 := blk_frozen BK209.out 1; have hcz10_0 : w4.cell? ⟨gb208, 0, none⟩ = some (.int .i64 0) := (blk_cell BK208.out 0).trans rfl; have hcz10_1 : w4.cell? ⟨gb208, 1, none⟩ = some (.bool false) := (blk_cell BK208.out 1).trans rfl; have hfz10_0 := blk_frozen BK208.out 0; have hfz10_1 := blk_frozen BK208.out 1))
  refine bodyPost_ret (results_cell_row rfl _ _ gb208 67 #[.int .i64 a0_0, .bool a0_1] (0, 0) _ rfl (by (with_reducible repeat (first | refine blk_drewN ?_ _ | refine blk_drew ?_ | refine blk_alloc ?_ _)); refine blk_put (cs := #[.int .i64 a0_0, .bool false]) ?_ 1 _ rfl; (with_reducible repeat (first | refine blk_drewN ?_ _ | refine blk_drew ?_ | refine blk_alloc ?_ _)); refine blk_put (cs := #[.int .i64 0, .bool false]) ?_ 0 _ rfl; (with_reducible repeat (first | refine blk_drewN ?_ _ | refine blk_drew ?_ | refine blk_alloc ?_ _)); refine blk_far ?_ NB208_209.out _; (with_reducible repeat (first | refine blk_drewN ?_ _ | refine blk_drew ?_ | refine blk_alloc ?_ _)); refine blk_far ?_ NB208_209.out _; (with_reducible repeat (first | refine blk_drewN ?_ _ | refine blk_drew ?_ | refine blk_alloc ?_ _)); exact BK208.out) Try.underlying67 rfl (by kernel_rfl)) rfl ?_
  exact ⟨by first | rfl | (simp [errW_none, errW_some] <;> rfl) | (simp [*, errW_none, errW_some] <;> rfl), by repeat (first | (with_reducible first | exact HB.out | apply below_alloc | apply pw_below_drewN | apply below_drew1 | refine below_set ?_ GE207.out | refine below_set ?_ GE208.out | refine below_set ?_ GE209.out) | exact HB.out)⟩

/-! ### laws_toForceS: function 24 -/
def laws_toForceS.l0 : Nat → List (S69) → List (S67) → Int → Option ((List (S67)))
  | 0, _, _, _ => none
  | k + 1, x0, x3, x4 => if x4 < (x0.length : Int) then (if 0 ≤ x4 then ((laws_toForce.f ((rd_T69 x0 x4).f0) ((rd_T69 x0 x4).f1)).bind fun bt214 => (if x4 < (x3.length : Int) then (laws_toForceS.l0 k x0 (x3.set (x4 : Int).toNat (⟨bt214.1, bt214.2⟩ : S67)) (wrap64 (x4 + 1))) else (none))) else (none)) else (some x3)
def laws_toForceS.f (k : Nat) (l0 : List (S69)) : Option ((List (S67))) := if 0 ≤ (l0.length : Int) then (if ((l0.length : Int) : Int).toNat ≤ 17592186044416 then (laws_toForceS.l0 k l0 (List.replicate ((l0.length : Int) : Int).toNat z67) 0) else (none)) else (none)
theorem laws_toForceS.mono_l : ∀ k, (∀ y0 y1 y2, LeO (laws_toForceS.l0 k y0 y1 y2) (laws_toForceS.l0 (k + 1) y0 y1 y2))
  | 0 => fun _ _ _ r h => by simp [laws_toForceS.l0] at h
  | k + 1 => by
    have ih0 := laws_toForceS.mono_l k
    · intro y0 y1 y2
      unfold laws_toForceS.l0
      repeat' first
      | (with_reducible exact ih0 _ _ _)
      | (with_reducible exact LeO.refl _)
      | (with_reducible exact LeO.none _)
      | (with_reducible refine LeO.ite ?_ ?_)
      | (with_reducible refine LeO.bind ?_ (fun _ => ?_))
      | exact ih0 _ _ _
      | exact LeO.none _
      | refine LeO.ite ?_ ?_
      | refine LeO.bind ?_ (fun _ => ?_)
theorem laws_toForceS.mono : ∀ a0 k, LeO (laws_toForceS.f k a0) (laws_toForceS.f (k + 1) a0) := by
  intro a0 k
  have ih0 := laws_toForceS.mono_l k
  unfold laws_toForceS.f
  repeat' first
      | (with_reducible exact ih0 _ _ _)
      | (with_reducible exact LeO.refl _)
      | (with_reducible exact LeO.none _)
      | (with_reducible refine LeO.ite ?_ ?_)
      | (with_reducible refine LeO.bind ?_ (fun _ => ?_))
      | exact ih0 _ _ _
      | exact LeO.none _
      | refine LeO.ite ?_ ?_
      | refine LeO.bind ?_ (fun _ => ?_)
set_option maxHeartbeats 8000000 in
set_option maxRecDepth 100000 in
theorem laws_toForceS.calls (k : Nat) (A0 : Option Addr) (c0 : Nat) (l0 : List (S69)) (r : List (S67)) (w : World) (hr0 : Kd.C k69 w A0 l0.length l0) (hc0 : l0.length ≤ c0) (h : laws_toForceS.f k l0 = some r) :
    Calls Try.prog 24 #[.slice A0 l0.length c0] w fun e w' => ∃ v0_ : Value, e = .returned (v0_) ∧ Kd.R k67 67 w' w.heap.size (fun _ => True) v0_ r ∧ Below w.heap.size w w' := by
  have hu69 := Try.underlying69
  have hu67 := Try.underlying67
  have HR0 := Aside0.mk hr0
  have HC0 := Aside0.mk hc0
  clear hr0 hc0
  have HB := Aside0.mk (Below.refl w.heap.size w)
  have H : (if 0 ≤ (l0.length : Int) then (if ((l0.length : Int) : Int).toNat ≤ 17592186044416 then (laws_toForceS.l0 k l0 (List.replicate ((l0.length : Int) : Int).toNat z67) 0) else (none)) else (none)) = some r := h
  clear h
  by_cases c2 : 0 ≤ (l0.length : Int)
  · rw [if_pos c2] at H
    have c2b0 := eq_true c2
    have c2b1 : decide (0 ≤ (l0.length : Int)) = true := decide_eq_true c2
    clear c2
    by_cases c3 : ((l0.length : Int) : Int).toNat ≤ 17592186044416
    · rw [if_pos c3] at H
      have c3b0 := eq_true c3
      have c3b1 : decide (((l0.length : Int) : Int).toNat ≤ 17592186044416) = true := decide_eq_true c3
      clear c3
      obtain ⟨y210, hy210⟩ : ∃ y_ : List (S67), y_ = (List.replicate ((l0.length : Int) : Int).toNat z67) := ⟨_, rfl⟩
      replace H : (laws_toForceS.l0 k l0 y210 0) = some r := by first | (rw [hy210]; with_reducible exact H) | (have H2_ := (Option.bind_some _ _).symm.trans H; rw [hy210]; with_reducible exact H2_) | (have H2_ := (Option.bind_some _ _).symm.trans H; with_reducible exact H2_) | with_reducible exact H | (rw [hy210]; exact H) | exact H
      have Ny210 := Aside0.mk hy210
      clear hy210
      have H' := Aside0.mk H
      clear H
      go_enter Try.func24, Try.ntmps24
      go_wp2_with (first | ((with_reducible refine gate_dst (N := 7) rfl ?_); refine Kd.R_make k67 _ 67 rfl (N := 7) rfl 43 _ _ rfl (l0.length : Int) rfl rfl Try.underlying43 (.agg #[(.int .i64 0), (.bool false)]) 16 info67 rfl (by decide) (by omega) z67 (ok := fun _ => True) (okp := fun _ => True) (k67_mkM _ _ _ z67 ) (fun _ hk => hk) trivial (of_decide_eq_true (by first | (with_reducible assumption) | assumption)) (Nat.le_trans (Nat.mul_le_mul_right _ (of_decide_eq_true (by first | (with_reducible assumption) | assumption) : (l0.length : Int).toNat ≤ 17592186044416)) (by omega)) (Below.refl _ _) (Nat.le_refl _) ?_; intro v211 w4 ho5 hb hg_ hnew_; clear hg_ hnew_; (first | rw [← Ny210.out] at ho5 | (simp only [Int.reduceToNat] at ho5; rw [← Ny210.out] at ho5)); have n0_ := Aside0.mk (Kd.R_lower ho5 (below_size (by repeat (first | (with_reducible first | exact HB.out | apply below_alloc | apply pw_below_drewN | apply below_drew1) | exact HB.out)))); have n1_ := Aside0.mk (below_step (by repeat (first | (with_reducible first | exact HB.out | apply below_alloc | apply pw_below_drewN | apply below_drew1) | exact HB.out)) hb); clear HB; have HO212 := n0_; have HB := n1_; clear n0_ n1_; clear hb ho5))
      go_loopg [4] k (fun kq v4 w' => ∃ (x3_1 : List (S67)) (x4_1 : Int), v4 = .int .i64 x4_1 ∧ Aside0 (laws_toForceS.l0 kq l0 x3_1 x4_1 = some r) ∧ Aside0 (kq ≤ k) ∧ Aside0 (Kd.R k67 67 w' w.heap.size (fun _ => True) v211 x3_1) ∧ Aside0 (Below w.heap.size w w'))
      case atStart => exact ⟨(y210), (0), (by first | rfl | (simp; done) | (simp [*]; done)), H', ⟨Nat.le_refl _⟩, ⟨by (with_reducible repeat (first | apply Kd.R_alloc | apply Kd.R_drewN | apply Kd.R_drew)); exact HO212.out⟩, ⟨by repeat (first | (with_reducible first | exact HB.out | apply below_alloc | apply pw_below_drewN | apply below_drew1) | exact HB.out)⟩⟩
      case round =>
        clear H'
        try clear c2
        try clear c2b0
        try clear c2b1
        try clear p2
        try clear c3
        try clear c3b0
        try clear c3b1
        obtain ⟨x3_1, x4_1, rfl, HA, HK1, HO_3, HB⟩ := hrel
        cases gk with
        | zero => exact absurd HA.out (by simp [laws_toForceS.l0])
        | succ k1 =>
          have H := HA.out
          clear HA
          simp only [laws_toForceS.l0] at H
          by_cases c6 : x4_1 < (l0.length : Int)
          · rw [if_pos c6] at H
            have c6b0 : decide (x4_1 < (l0.length : Int)) = true := decide_eq_true c6
            clear c6
            by_cases c7 : 0 ≤ x4_1
            · rw [if_pos c7] at H
              have c7b0 : decide (0 ≤ x4_1) = true := decide_eq_true c7
              clear c7
              replace H := Option.bind_eq_some_iff.mp H
              obtain ⟨⟨t214, t215⟩, A80, H⟩ := H
              replace H : (if x4_1 < (x3_1.length : Int) then (laws_toForceS.l0 k1 l0 (x3_1.set (x4_1 : Int).toNat (⟨t214, t215⟩ : S67)) (wrap64 (x4_1 + 1))) else (none)) = some r := H
              have A8 := Aside0.mk A80
              clear A80
              by_cases c9 : x4_1 < (x3_1.length : Int)
              · rw [if_pos c9] at H
                have c9b0 : decide (x4_1 < (x3_1.length : Int)) = true := decide_eq_true c9
                clear c9
                obtain ⟨y216, hy216⟩ : ∃ y_ : List (S67), y_ = (x3_1.set (x4_1 : Int).toNat (⟨t214, t215⟩ : S67)) := ⟨_, rfl⟩
                replace H : (laws_toForceS.l0 k1 l0 y216 (wrap64 (x4_1 + 1))) = some r := by first | (rw [hy216]; with_reducible exact H) | (have H2_ := (Option.bind_some _ _).symm.trans H; rw [hy216]; with_reducible exact H2_) | (have H2_ := (Option.bind_some _ _).symm.trans H; with_reducible exact H2_) | with_reducible exact H | (rw [hy216]; exact H) | exact H
                have Ny216 := Aside0.mk hy216
                clear hy216
                have H' := Aside0.mk H
                clear H
                have p213 : 0 ≤ (x4_1 : Int) := of_decide_eq_true (by first | (with_reducible assumption) | assumption)
                have q213 : x4_1 < (l0.length : Int) := of_decide_eq_true (by first | (with_reducible assumption) | assumption)
                obtain ⟨ad213, e213, hx213_0, hx213_1⟩ := at_T69 HR0.out x4_1 p213 q213
                cases e213
                replace hx213_0 := (HB.out.cell (World.block_lt_of_cell? w _ hx213_0)).trans hx213_0
                replace hx213_1 := (HB.out.cell (World.block_lt_of_cell? w _ hx213_1)).trans hx213_1
                replace p213 := eq_true p213
                replace q213 := eq_true q213
                go_wp2_with (first | ((with_reducible refine gate_callee (f := 54) rfl ?_); refine goesL_ (some 20) rfl rfl Try.func54 (by kernel_rfl) rfl #[.agg #[.int .i64 ((rd_T69 l0 x4_1).f0), .bool ((rd_T69 l0 x4_1).f1)]] rfl (by (try simp only [List.map_toArray, List.map_cons, List.map_nil]); first | done | rfl | (simp only [List.length_drop, List.length_take]; rfl)) ?_; (with_reducible refine (laws_toForce.calls ((rd_T69 l0 x4_1).f0) ((rd_T69 l0 x4_1).f1) t214 t215 _ A8.out).mono ?_); rintro e w11 ⟨rfl, hb⟩; refine ⟨_, rfl, ?_⟩; have n0_ := Aside0.mk (Kd.R_below (by (with_reducible repeat (first | apply Kd.R_alloc | apply Kd.R_drewN | apply Kd.R_drew)); exact HO_3.out) hb); have n1_ := Aside0.mk (below_step (by repeat (first | (with_reducible first | exact HB.out | apply below_alloc | apply pw_below_drewN | apply below_drew1) | exact HB.out)) hb); clear HO_3; clear HB; have HO_3 := n0_; have HB := n1_; clear n0_ n1_; (try clear hb); (try clear hb2); (try clear hk); (try clear hi); have p10 : 0 ≤ (x4_1 : Int) := of_decide_eq_true (by first | (with_reducible assumption) | assumption); have q10 : (x4_1 : Int) < ((x3_1.length : Int) : Int) := of_decide_eq_true (by first | (with_reducible assumption) | assumption); obtain ⟨go10, co10, eo10, gb10, gl10, cl10, HG10⟩ := Kd.R_form HO_3.out (by omega); (first | cases eo10 | (injection eo10 with ea_ en_ ec_; (first | subst ea_ | (injection ea_ with ea_; subst ea_)); subst ec_; clear en_)); have GB10 := Aside0.mk gb10; have GG10 := Aside0.mk HG10; clear gb10 gl10 HG10; obtain ⟨ce10, hcl10, hM10, hcc10, hfr10⟩ := Kd.R_elem HO_3.out z67 (x4_1 : Int) p10 q10; obtain rfl := k67_openM hM10; have hx10_0 : w11.cell? ⟨go10, (x4_1 : Int).toNat * 2, none⟩ = some (.int .i64 ((rd_T67 x3_1 x4_1).f0)) := hcc10 0 _ rfl; have hx10_1 : w11.cell? ⟨go10, (x4_1 : Int).toNat * 2 + 1, none⟩ = some (.bool ((rd_T67 x3_1 x4_1).f1)) := hcc10 1 _ rfl; have hf10_0 : w11.frozen? ⟨go10, (x4_1 : Int).toNat * 2, none⟩ = false := hfr10 0; have hf10_1 : w11.frozen? ⟨go10, (x4_1 : Int).toNat * 2 + 1, none⟩ = false := hfr10 1; clear hcl10 hcc10 hfr10 hM10; replace p10 := eq_true p10; replace q10 := eq_true q10; have HX12 := Aside0.mk (show Kd.R k67 67 w11 w.heap.size (fun _ => True) (.slice (some ⟨go10, 0, none⟩) x3_1.length co10) x3_1 from (by (with_reducible repeat (first | apply Kd.R_alloc | apply Kd.R_drewN | apply Kd.R_drew)); exact HO_3.out)); obtain ⟨ce12, hcl12, hM12, hcc12, hfr12⟩ := Kd.R_elem HX12.out z67 (x4_1 : Int) (of_decide_eq_true (by first | (with_reducible assumption) | assumption)) (by have h_ : (x4_1 : Int) < ((x3_1.length : Int) : Int) := of_decide_eq_true (by first | (with_reducible assumption) | assumption); first | exact h_ | (have e_ := (Kd.R_reads' HO_3.out).1; omega) | simpa using h_); obtain rfl := k67_openM hM12; have HP12 := Kd.R_seg HX12.out (x4_1 : Int) (of_decide_eq_true (by first | (with_reducible assumption) | assumption)) (by have h_ : (x4_1 : Int) < ((x3_1.length : Int) : Int) := of_decide_eq_true (by first | (with_reducible assumption) | assumption); first | exact h_ | (have e_ := (Kd.R_reads' HO_3.out).1; omega) | simpa using h_) (seg := [.int .i64 t214, .bool t215]) (j := 0) hcl12 hcc12 (show 2 ≤ 2 from by decide) (x' := (⟨t214, t215⟩ : S67)) (k67_mkM _ _ _ (⟨t214, t215⟩ : S67) ) (fun _ hk => hk); have hx12_0 := hcc12 0 _ rfl; (try simp only [show (k67).sz = 2 from rfl, Nat.mul_one, Nat.add_zero] at hx12_0); have hf12_0 := hfr12 0; (try simp only [show (k67).sz = 2 from rfl, Nat.mul_one, Nat.add_zero] at hf12_0); have hx12_1 := hcc12 1 _ rfl; (try simp only [show (k67).sz = 2 from rfl, Nat.mul_one, Nat.add_zero] at hx12_1); have hf12_1 := hfr12 1; (try simp only [show (k67).sz = 2 from rfl, Nat.mul_one, Nat.add_zero] at hf12_1); clear hcl12 hcc12 hfr12 hM12) | ((with_reducible refine gate_store (t := 67) (p := 21) rfl ?_); refine store_event (t := 67) (p := 21) (v := ?vo_w13) (w1 := ((w11.setCell ⟨go10, (x4_1 : Int).toNat * 2, none⟩ (.int .i64 t214)).setCell ⟨go10, (x4_1 : Int).toNat * 2 + 1, none⟩ (.bool t215))) ?hg ?ho ?hn ?hr ?_; (case ho => rfl); (case hg => rfl); (case hn => rfl); (case hr => first | (go_simp; done) | (go_simp; rfl)); intro w13 hw; have hg : w11.grownBy w13 (some go10) := (by rw [hw]; exact HP12.2); have hp_ : Kd.R k67 67 w13 w.heap.size (fun _ => True) (.slice (some ⟨go10, 0, none⟩) x3_1.length co10) y216 := (by rw [hw, Ny216.out]; exact HP12.1); clear HP12; have n0_ := Aside0.mk (hp_); have n1_ := Aside0.mk ((by rw [hw]; exact below_set (below_set (HB.out) GB10.out) GB10.out : Below w.heap.size w w13)); clear HO_3; clear HB; have HO_3 := n0_; have HB := n1_; clear n0_ n1_; clear hg hw hp_))
                go_roundg k1
                case measure => have := HK1.out; omega
                case rel => exact ⟨(y216), (wrap64 (x4_1 + 1)), (by first | rfl | (simp; done) | (simp [*]; done)), H', ⟨by have := HK1.out; omega⟩, ⟨by (with_reducible repeat (first | apply Kd.R_alloc | apply Kd.R_drewN | apply Kd.R_drew)); exact HO_3.out⟩, ⟨by repeat (first | (with_reducible first | exact HB.out | apply below_alloc | apply pw_below_drewN | apply below_drew1) | exact HB.out)⟩⟩
              · rw [if_neg c9] at H
                exact absurd H (by simp)
            · rw [if_neg c7] at H
              exact absurd H (by simp)
          · rw [if_neg c6] at H
            have c6b0 : decide (x4_1 < (l0.length : Int)) = false := decide_eq_false c6
            clear c6
            obtain rfl := Option.some.inj H
            go_wp2
            go_ret
            exact ⟨_, by first | rfl | (simp [errW_none, errW_some] <;> rfl) | (simp [*, errW_none, errW_some] <;> rfl), by (with_reducible repeat (first | apply Kd.R_alloc | apply Kd.R_drewN | apply Kd.R_drew)); exact HO_3.out, by repeat (first | (with_reducible first | exact HB.out | apply below_alloc | apply pw_below_drewN | apply below_drew1) | exact HB.out)⟩
    · rw [if_neg c3] at H
      exact absurd H (by simp)
  · rw [if_neg c2] at H
    exact absurd H (by simp)

-- NOT PRINTED: function 71 (slices_IndexFunc_int_int)

-- NOT PRINTED: function 65 (slices_ContainsFunc_int_int)

/-! ### impl_ImageValid: function 39 (own) -/
/-! #### small words -/
def IdxPost {α : Type} (p : α → Bool) (l : List α) (e : Ending) : Prop := ∃ r : Int, e = .returned (.int .i64 r) ∧ (0 ≤ r ↔ l.any p = true)
theorem x_drawn_drew {w : World} {q q' : Nat} : (w.drewN q).drewN q' = w.drewN (q + q') := World.drewN_drewN ..
theorem C_int_cell {k : IntKind} {w : World} {A : Option Addr} {n : Nat} {l : List Int} (h : Kd.C (Kd.int k) w A n l) (i : Nat) (hi : i < n) : ∃ ad, A = some ad ∧ w.cell? (ad.add i) = some (.int k (l.getD i 0)) := by
  obtain ⟨ad, c, e, hl, hK, hc⟩ := Kd.C_get h (0 : Int) (i : Int) (by omega) (by omega)
  have hK' : c = [.int k (l.getD (i : Int).toNat 0)] := hK
  subst hK'
  have := hc 0 _ rfl
  rw [show (i : Int).toNat * (Kd.int k).sz + 0 = i from by show (i : Int).toNat * 1 + 0 = i; omega] at this
  exact ⟨ad, e, this⟩
theorem x_none {α : Type} (p : α → Bool) (l : List α) (d : α) (h : ∀ j, j < l.length → p (l.getD j d) = false) : l.any p = false := by
  rw [List.any_eq_false]
  intro x hx
  obtain ⟨j, hj, rfl⟩ := List.getElem_of_mem hx
  have := h j hj
  rw [List.getD_eq_getElem?_getD, List.getElem?_eq_getElem hj] at this
  simpa using this
theorem x_some {α : Type} (p : α → Bool) (l : List α) (d : α) (j : Nat) (hj : j < l.length) (h : p (l.getD j d) = true) : l.any p = true := by
  rw [List.any_eq_true]
  refine ⟨_, List.getElem_mem hj, ?_⟩
  rw [List.getD_eq_getElem?_getD, List.getElem?_eq_getElem hj] at h
  simpa using h

theorem in_0 (x a b : Int) (w : World) : Calls Try.prog 41 #[.int .i64 x, .int .i64 a, .int .i64 b] w fun e w' => e = .returned (.bool (decide (a ≤ x ∧ x ≤ b))) ∧ Drawn0 w w' := by
  by_cases c : a ≤ x
  · have c1 : decide (a ≤ x) = true := decide_eq_true c
    go_enter Try.func41, Try.ntmps41
    go_wp2
    go_ret
    exact ⟨by simp [c], Drawn0.refl _⟩
  · have c1 : decide (a ≤ x) = false := decide_eq_false c
    go_enter Try.func41, Try.ntmps41
    go_wp2
    go_ret
    exact ⟨by simp [c], Drawn0.refl _⟩
theorem in_1 (x a b : Int) (r : Bool) (w : World) (h : decide (a ≤ x ∧ x ≤ b) = r) : Calls Try.prog 41 #[.int .i64 x, .int .i64 a, .int .i64 b] w fun e w' => e = .returned (.bool r) ∧ Drawn0 w w' := h ▸ in_0 x a b w

theorem isWord_0 (x : Int) (w : World) : Calls Try.prog 67 #[.int .i64 x] w fun e w' => e = .returned (.bool (decide (-32768 ≤ x ∧ x ≤ 32767))) ∧ Drawn0 w w' := by
  have C1 := fun w => in_0 x (-32768) 32767 w
  generalize decide (-32768 ≤ x ∧ x ≤ 32767) = b at C1 ⊢
  go_enter Try.func67, Try.ntmps67
  go_wp2_with fail
  refine (C1 _).mono ?_
  rintro e w' ⟨rfl, ⟨nd, rfl⟩⟩
  go_wp2
  go_ret
  exact ⟨rfl, ⟨⟨nd, rfl⟩⟩⟩

set_option maxHeartbeats 2000000 in
theorem IndexFunc_int (p : Int → Bool) (g : Nat) (lb : Array Value) (eg : ∀ args w, (callFunc g args).run Try.prog w = .ok (.enter g args) w) (A : Option Addr) (c : Nat) (l : List Int) (w : World)
    (hp : ∀ (x : Int) (q : Nat), Calls Try.prog g (#[.int .i64 x] ++ lb) (w.drewN q) fun e w' => e = .returned (.bool (p x)) ∧ ∃ q', w' = (w.drewN q).drewN q')
    (hr : Kd.C (Kd.int .i64) w A l.length l) (hc : l.length ≤ c) :
    Calls Try.prog 71 #[.slice A l.length c, .func (.func g) #[] lb] w fun e w' => IdxPost p l e ∧ Drawn0 w w' := by
  have HR := Aside0.mk hr
  have hmax := hr.2.1
  clear hr
  go_enter Try.func71, Try.ntmps71
  go_wp2
  go_loopg [5, 8] l.length (fun gg _ s8 wr => ∃ kk q : Nat, kk ≤ l.length ∧ l.length - kk ≤ gg ∧ s8 = .int .i64 kk ∧ wr = w.drewN q ∧ Aside (∀ j, j < kk → p (l.getD j 0) = false))
  case atStart => exact ⟨0, 0, Nat.zero_le _, by omega, rfl, rfl, fun j hj => absurd hj (Nat.not_lt_zero _)⟩
  case round =>
    obtain ⟨kk, q, hkk, hg, rfl, rfl, HA⟩ := hrel
    by_cases hlt : kk < l.length
    · have hltz : (kk : Int) < (l.length : Int) := by omega
      obtain ⟨ad, rfl, hcell⟩ := C_int_cell HR.out kk hlt
      generalize hy : l.getD kk 0 = y at hcell
      have B : Aside (l.getD kk 0 = y) := hy
      clear hy HR
      have hcall := hp y
      clear hp
      cases hq : p y with
      | true =>
        rw [hq] at hcall
        have Q := Aside0.mk hq
        clear hq
        go_wp2_with fail
        refine (hcall _).mono ?_
        rintro e w' ⟨rfl, q', rfl⟩
        go_wp2
        go_ret
        exact ⟨⟨kk, rfl, by simp [x_some p l 0 kk hlt (by rw [B.out]; exact Q.out)]⟩, ⟨⟨q + q', by first | rfl | rw [x_drawn_drew]⟩⟩⟩
      | false =>
        rw [hq] at hcall
        have Q := Aside0.mk hq
        clear hq
        go_wp2_with fail
        refine (hcall _).mono ?_
        rintro e w' ⟨rfl, q', rfl⟩
        go_wp2
        go_roundg (l.length - (kk + 1))
        case measure => omega
        case rel =>
          refine ⟨kk + 1, q + q', by omega, by omega, by go_num, by first | rfl | rw [x_drawn_drew], (show Aside _ from fun j hj => ?_)⟩
          by_cases e : j = kk
          · subst e
            rw [B.out]; exact Q.out
          · exact HA.out j (by omega)
    · have hltz : ¬ (kk : Int) < (l.length : Int) := by omega
      have : kk = l.length := by omega
      subst this
      go_wp2
      go_ret
      exact ⟨⟨-1, rfl, by simp [x_none p l 0 HA.out]⟩, ⟨⟨q, rfl⟩⟩⟩

/-- slices.ContainsFunc at []int. -/
theorem ContainsFunc_int (p : Int → Bool) (g : Nat) (lb : Array Value) (eg : ∀ args w, (callFunc g args).run Try.prog w = .ok (.enter g args) w) (A : Option Addr) (c : Nat) (l : List Int) (w : World)
    (hp : ∀ (x : Int) (q : Nat), Calls Try.prog g (#[.int .i64 x] ++ lb) (w.drewN q) fun e w' => e = .returned (.bool (p x)) ∧ ∃ q', w' = (w.drewN q).drewN q')
    (hr : Kd.C (Kd.int .i64) w A l.length l) (hc : l.length ≤ c) :
    Calls Try.prog 65 #[.slice A l.length c, .func (.func g) #[] lb] w fun e w' => e = .returned (.bool (l.any p)) ∧ Drawn0 w w' := by
  have H := IndexFunc_int p g lb eg A c l w hp hr hc
  clear hp hr hc eg
  go_enter Try.func65, Try.ntmps65
  go_wp2_with fail
  refine H.mono ?_
  rintro e w' ⟨⟨r, rfl, hq⟩, ⟨nd, rfl⟩⟩
  have Q := Aside0.mk hq
  clear hq
  go_wp2
  go_ret
  refine ⟨?_, ⟨⟨nd, rfl⟩⟩⟩
  have e : l.any p = decide (0 ≤ r) := by
    rw [Bool.eq_iff_iff, decide_eq_true_eq]
    exact Q.out.symm
  rw [e]
  rfl

theorem iv_lit (x : Int) (w : World) : Calls Try.prog 66 (#[.int .i64 x] ++ #[]) w fun e w' => e = .returned (.bool (!decide (-32768 ≤ x ∧ x ≤ 32767))) ∧ ∃ q', w' = w.drewN q' := by
  have C1 := fun w => isWord_0 x w
  generalize decide (-32768 ≤ x ∧ x ≤ 32767) = b at C1 ⊢
  go_enter Try.func66, Try.ntmps66
  go_wp2_with fail
  refine (C1 _).mono ?_
  rintro e w' ⟨rfl, ⟨nd, rfl⟩⟩
  go_wp2
  go_ret
  exact ⟨by first | rfl | (simp; done), nd, rfl⟩
def iv_bad (l : List Int) : Bool := l.any fun x => !decide (-32768 ≤ x ∧ x ≤ 32767)
def impl_ImageValid.f (l0_0 : List Bool) (l0_1 : List Int) : Option Bool := some (decide ((l0_0.length : Int) ≤ 16) && (decide ((l0_1.length : Int) ≤ 8) && !(iv_bad l0_1)))
set_option maxHeartbeats 2000000 in
theorem impl_ImageValid.calls (A0_0 : Option Addr) (c0_0 : Nat) (l0_0 : List Bool) (A0_1 : Option Addr) (c0_1 : Nat) (l0_1 : List Int) (r : Bool) (w : World) (hr0_0 : Kd.C Kd.bool w A0_0 l0_0.length l0_0) (hc0_0 : l0_0.length ≤ c0_0) (hr0_1 : Kd.C (Kd.int .i64) w A0_1 l0_1.length l0_1) (hc0_1 : l0_1.length ≤ c0_1) (h : impl_ImageValid.f l0_0 l0_1 = some r) :
    Calls Try.prog 39 #[.agg #[.slice A0_0 l0_0.length c0_0, .slice A0_1 l0_1.length c0_1]] w fun e w' => e = .returned (.bool r) ∧ Below w.heap.size w w' := by
  have H := fun w1 hb => ContainsFunc_int (fun x => !decide (-32768 ≤ x ∧ x ≤ 32767)) 66 #[] (Go.Proofs.enters_of Try.func66 (by kernel_rfl) rfl) A0_1 c0_1 l0_1 w1 (fun x q => iv_lit x _) (Kd.C_below hr0_1 hb) hc0_1
  have D := Aside0.mk (show (decide ((l0_0.length : Int) ≤ 16) && (decide ((l0_1.length : Int) ≤ 8) && !(l0_1.any fun x => !decide (-32768 ≤ x ∧ x ≤ 32767)))) = r from Option.some.inj h)
  have M0 := hr0_0.2.1
  have M1 := hr0_1.2.1
  clear hr0_0 hc0_0 hr0_1 hc0_1 h
  generalize (l0_1.any fun x => !decide (-32768 ≤ x ∧ x ≤ 32767)) = b at H D
  generalize l0_0.length = n0 at *
  generalize l0_1.length = n1 at *
  cases c : decide ((n0 : Int) ≤ 16) with
  | false =>
    have D2 := Aside0.mk (show false = r by rw [← D.out, c]; rfl)
    clear D H
    go_enter Try.func39, Try.ntmps39
    go_wp2
    go_ret
    exact ⟨by rw [← D2.out]; rfl, by repeat (first | exact Below.refl _ _ | apply below_alloc | apply pw_below_drewN)⟩
  | true =>
    cases c2 : decide ((n1 : Int) ≤ 8) with
    | false =>
      have D2 := Aside0.mk (show false = r by rw [← D.out, c, c2]; rfl)
      clear D H
      go_enter Try.func39, Try.ntmps39
      go_wp2
      go_ret
      exact ⟨by rw [← D2.out]; rfl, by repeat (first | exact Below.refl _ _ | apply below_alloc | apply pw_below_drewN)⟩
    | true =>
      have D2 := Aside0.mk (show (!b) = r by rw [← D.out, c, c2]; rfl)
      clear D
      go_enter Try.func39, Try.ntmps39
      go_wp2_with fail
      refine (H _ ?hb).mono ?_
      case hb => repeat (first | exact Below.refl _ _ | apply below_alloc | apply pw_below_drewN)
      rintro e w' ⟨rfl, ⟨nd, rfl⟩⟩
      go_wp2
      go_ret
      exact ⟨by rw [← D2.out]; rfl, by repeat (first | exact Below.refl _ _ | apply below_alloc | apply pw_below_drewN)⟩


-- NOT PRINTED: function 69 (slices_Clip_int_int)

-- NOT PRINTED: function 70 (slices_Clone_int_int)

/-! ### impl_clone_int: function 50 (own) -/
/-- What is read can be made, and be told as new: an element that leads nowhere. -/
def Flat {α : Type} (d : Kd α) : Prop := ∀ (w : World) (base : Nat) (ok : Nat → Prop) (x : α) (cs : List Value), d.K w x cs → d.M w base ok x cs
theorem C_nil_of_none {α : Type} {d : Kd α} {w : World} {l : List α} (h : Kd.C d w none l.length l) : l = [] := by
  rcases l with _ | ⟨a, l⟩
  · rfl
  · obtain ⟨ad, e, _⟩ := h.2.2 (by simp)
    cases e
theorem R_empty {α : Type} (d : Kd α) (e : Nat) (w : World) : d.R e (w.alloc (.cells #[] e)) w.heap.size (fun _ => True) (.slice (some ⟨w.heap.size, 0, none⟩) 0 0) [] :=
  ⟨fun _ _ => trivial, [], World.ownsRow_made w #[] 0 (Nat.le_refl _) (Nat.zero_le _) (by simp), Reps.none _ _⟩

theorem clip_run {P : Program} (t e : TypeId) {i : TypeInfo} (ht : P.underlying t = some (.slice e)) (hi : P.info? e = some i) (A : Option Addr) (n c : Nat) (hn : n ≤ c) (W : World) :
    (Instr.slice t (.slice A n c) none (some (.int .i64 (n : Int))) (some (.int .i64 (n : Int)))).run P W = .ok (.slice A n n) W := by
  have hel : P.elem t = e := by simp [Program.elem, ht]
  have hu : P.underlying t = some (.slice (P.elem t)) := by rw [hel]; exact ht
  rw [run_slice_hm W t A n c hu .i64 .i64 (n : Int) (n : Int) (by omega) (by omega) (by omega), hel]
  have e0 : A.map (fun x => x.add (0 * i.size)) = A := by
    rw [Nat.zero_mul]
    cases A <;> rfl
  simp [sizeOf, typeInfo, hi, sliced, Result.andThen, Addr.add]


set_option maxHeartbeats 2000000 in
theorem slices_Clone_int.calls (A0 : Option Addr) (c0 : Nat) (l0 : List Int) (w : World) (hr0 : Kd.C (Kd.int .i64) w A0 l0.length l0) (hc0 : l0.length ≤ c0) (hb : l0.length * 8 ≤ 140737488355328) :
    Calls Try.prog 70 #[.slice A0 l0.length c0] w fun e w' => ∃ v0_ : Value, e = .returned v0_ ∧ Kd.R (Kd.int .i64) 3 w' w.heap.size (fun _ => True) v0_ l0 ∧ Below w.heap.size w w' := by
  have HR := Aside0.mk hr0
  have HB := Aside0.mk hb
  clear hr0 hb
  have q : ∀ (w : World) (a : Option Addr) (n c n' c' : Nat), (binOp .eql 23 (.slice a n c) (.slice none n' c')).run Try.prog w = .ok (.bool a.isNone) w := fun w a n c n' c' => Go.Lib.run_eql_slice_nil w _ _ a n c n' c' Try.underlying23
  cases A0 with
  | none =>
    obtain rfl := C_nil_of_none HR.out
    go_enter Try.func70, Try.ntmps70
    go_wp2
    go_ret
    exact ⟨_, rfl, Kd.R_nil _ _ _ _ _, Below.refl _ _⟩
  | some ad =>
    have flat : Flat (Kd.int .i64) := fun _ _ _ _ _ h => h
    have FL := Aside0.mk flat
    clear flat
    go_enter Try.func70, Try.ntmps70
    go_wp2_with (at_builtin; go_loud (refine Kd.R_append_rows (Kd.int .i64) (w0 := w) w.heap.size rfl _ _ 23 3 (.int .i64 0) 8 rfl Try.underlying23 (by kernel_rfl) rfl (by decide) (by decide) (.slice (some ⟨w.heap.size, 0, none⟩) 0 0) [] l0 (some ad) l0.length c0 (fun _ => True) (fun _ => False) rfl rfl (R_empty _ _ _) (Kd.C_alloc HR.out _) (fun x cs h => FL.out _ _ _ _ _ h) (fun _ h => h.elim) (fun _ _ => trivial) (below_alloc (Below.refl _ _) _) ?r6 ?r7 ?_))
    case r6 => simp
    case r7 => simpa using HB.out
    intro v1 w1 h1 h2 _ _
    have H1 := Aside0.mk h1
    have H2 := Aside0.mk h2
    clear h1 h2
    go_wp2
    go_ret
    exact ⟨_, rfl, H1.out, H2.out⟩
/-- slices.Clip. -/
theorem slices_Clip_int.calls (base : Nat) (v : Value) (l0 : List Int) (w : World) (ok : Nat → Prop) (hr : Kd.R (Kd.int .i64) 3 w base ok v l0) :
    Calls Try.prog 69 #[v] w fun e w' => ∃ v0_ : Value, e = .returned v0_ ∧ Kd.W (Kd.int .i64) 3 w base ok v0_ l0 ∧ w' = w := by
  obtain ⟨A, c, rfl, hl, _⟩ := Kd.R_reads hr
  have HR := Aside0.mk hr
  clear hr
  have hsl : ∀ W : World, (Instr.slice 23 (.slice A l0.length c) none (some (.int .i64 (l0.length : Int))) (some (.int .i64 (l0.length : Int)))).run Try.prog W = .ok (.slice A l0.length l0.length) W := by
    intro W
    obtain ⟨i0, hi, _⟩ := Option.map_eq_some_iff.1 (show (Try.prog.info? 3).map (fun i => (i.zero, i.size, i.bytes)) = some (some (.int .i64 0), 1, 8) by kernel_rfl)
    exact clip_run 23 3 Try.underlying23 hi A _ c hl W
  go_enter Try.func69, Try.ntmps69
  go_wp2
  go_ret
  exact ⟨_, rfl, Kd.W_mk (Nat.le_refl _) HR.out, rfl⟩
def impl_clone_int.f (l0 : List Int) : Option (List Int) := if l0.length * 8 ≤ 140737488355328 then some l0 else none
theorem impl_clone_int.calls (A0 : Option Addr) (c0 : Nat) (l0 : List Int) (r : List Int) (w : World) (hr0 : Kd.C (Kd.int .i64) w A0 l0.length l0) (hc0 : l0.length ≤ c0) (h : impl_clone_int.f l0 = some r) :
    Calls Try.prog 50 #[.slice A0 l0.length c0] w fun e w' => ∃ v0_ : Value, e = .returned v0_ ∧ Kd.W (Kd.int .i64) 3 w' w.heap.size (fun _ => True) v0_ r ∧ Below w.heap.size w w' := by
  unfold impl_clone_int.f at h
  split at h
  · rename_i hb
    obtain rfl := Option.some.inj h
    have H := slices_Clone_int.calls A0 c0 l0 w hr0 hc0 hb
    clear hr0 hc0 hb h
    go_enter Try.func50, Try.ntmps50
    go_wp2_with fail
    refine H.mono ?_
    rintro e w1 ⟨v1, rfl, hv, hB⟩
    have H2 := slices_Clip_int.calls w.heap.size v1 l0 w1 (fun _ => True) hv
    have HB := Aside0.mk hB
    clear hv hB
    go_wp2_with fail
    refine H2.mono ?_
    rintro e w2 ⟨v2, rfl, hv, rfl⟩
    have HV := Aside0.mk hv
    clear hv
    go_wp2
    go_ret
    exact ⟨_, rfl, HV.out, HB.out⟩
  · cases h


-- NOT PRINTED: function 72 (slices_Clip_bool_bool)

-- NOT PRINTED: function 73 (slices_Clone_bool_bool)

/-! ### impl_clone_bool: function 68 (own) -/
set_option maxHeartbeats 2000000 in
theorem slices_Clone_bool.calls (A0 : Option Addr) (c0 : Nat) (l0 : List Bool) (w : World) (hr0 : Kd.C Kd.bool w A0 l0.length l0) (hc0 : l0.length ≤ c0) (hb : l0.length * 1 ≤ 140737488355328) :
    Calls Try.prog 73 #[.slice A0 l0.length c0] w fun e w' => ∃ v0_ : Value, e = .returned v0_ ∧ Kd.R Kd.bool 4 w' w.heap.size (fun _ => True) v0_ l0 ∧ Below w.heap.size w w' := by
  have HR := Aside0.mk hr0
  have HB := Aside0.mk hb
  clear hr0 hb
  have q : ∀ (w : World) (a : Option Addr) (n c n' c' : Nat), (binOp .eql 22 (.slice a n c) (.slice none n' c')).run Try.prog w = .ok (.bool a.isNone) w := fun w a n c n' c' => Go.Lib.run_eql_slice_nil w _ _ a n c n' c' Try.underlying22
  cases A0 with
  | none =>
    obtain rfl := C_nil_of_none HR.out
    go_enter Try.func73, Try.ntmps73
    go_wp2
    go_ret
    exact ⟨_, rfl, Kd.R_nil _ _ _ _ _, Below.refl _ _⟩
  | some ad =>
    have flat : Flat Kd.bool := fun _ _ _ _ _ h => h
    have FL := Aside0.mk flat
    clear flat
    go_enter Try.func73, Try.ntmps73
    go_wp2_with (at_builtin; go_loud (refine Kd.R_append_rows Kd.bool (w0 := w) w.heap.size rfl _ _ 22 4 (.bool false) 1 rfl Try.underlying22 (by kernel_rfl) rfl (by decide) (by decide) (.slice (some ⟨w.heap.size, 0, none⟩) 0 0) [] l0 (some ad) l0.length c0 (fun _ => True) (fun _ => False) rfl rfl (R_empty _ _ _) (Kd.C_alloc HR.out _) (fun x cs h => FL.out _ _ _ _ _ h) (fun _ h => h.elim) (fun _ _ => trivial) (below_alloc (Below.refl _ _) _) ?r6 ?r7 ?_))
    case r6 => simp
    case r7 => simpa using HB.out
    intro v1 w1 h1 h2 _ _
    have H1 := Aside0.mk h1
    have H2 := Aside0.mk h2
    clear h1 h2
    go_wp2
    go_ret
    exact ⟨_, rfl, H1.out, H2.out⟩
/-- slices.Clip. -/
theorem slices_Clip_bool.calls (base : Nat) (v : Value) (l0 : List Bool) (w : World) (ok : Nat → Prop) (hr : Kd.R Kd.bool 4 w base ok v l0) :
    Calls Try.prog 72 #[v] w fun e w' => ∃ v0_ : Value, e = .returned v0_ ∧ Kd.W Kd.bool 4 w base ok v0_ l0 ∧ w' = w := by
  obtain ⟨A, c, rfl, hl, _⟩ := Kd.R_reads hr
  have HR := Aside0.mk hr
  clear hr
  have hsl : ∀ W : World, (Instr.slice 22 (.slice A l0.length c) none (some (.int .i64 (l0.length : Int))) (some (.int .i64 (l0.length : Int)))).run Try.prog W = .ok (.slice A l0.length l0.length) W := by
    intro W
    obtain ⟨i0, hi, _⟩ := Option.map_eq_some_iff.1 (show (Try.prog.info? 4).map (fun i => (i.zero, i.size, i.bytes)) = some (some (.bool false), 1, 1) by kernel_rfl)
    exact clip_run 22 4 Try.underlying22 hi A _ c hl W
  go_enter Try.func72, Try.ntmps72
  go_wp2
  go_ret
  exact ⟨_, rfl, Kd.W_mk (Nat.le_refl _) HR.out, rfl⟩
def impl_clone_bool.f (l0 : List Bool) : Option (List Bool) := if l0.length * 1 ≤ 140737488355328 then some l0 else none
theorem impl_clone_bool.calls (A0 : Option Addr) (c0 : Nat) (l0 : List Bool) (r : List Bool) (w : World) (hr0 : Kd.C Kd.bool w A0 l0.length l0) (hc0 : l0.length ≤ c0) (h : impl_clone_bool.f l0 = some r) :
    Calls Try.prog 68 #[.slice A0 l0.length c0] w fun e w' => ∃ v0_ : Value, e = .returned v0_ ∧ Kd.W Kd.bool 4 w' w.heap.size (fun _ => True) v0_ r ∧ Below w.heap.size w w' := by
  unfold impl_clone_bool.f at h
  split at h
  · rename_i hb
    obtain rfl := Option.some.inj h
    have H := slices_Clone_bool.calls A0 c0 l0 w hr0 hc0 hb
    clear hr0 hc0 hb h
    go_enter Try.func68, Try.ntmps68
    go_wp2_with fail
    refine H.mono ?_
    rintro e w1 ⟨v1, rfl, hv, hB⟩
    have H2 := slices_Clip_bool.calls w.heap.size v1 l0 w1 (fun _ => True) hv
    have HB := Aside0.mk hB
    clear hv hB
    go_wp2_with fail
    refine H2.mono ?_
    rintro e w2 ⟨v2, rfl, hv, rfl⟩
    have HV := Aside0.mk hv
    clear hv
    go_wp2
    go_ret
    exact ⟨_, rfl, HV.out, HB.out⟩
  · cases h


/-! ### impl_Image_copyOf: function 40 -/
def impl_Image_copyOf.f (l0_0 : List Bool) (l0_1 : List Int) : Option (List Bool × List Int) := (impl_clone_bool.f l0_0).bind fun t219 => ((impl_clone_int.f l0_1).bind fun t222 => (some (t219, t222)))
def impl_Image_copyOf.T1 : Bool × List (List Nat × List Nat) := (true, [([], []), ([0], [0]), ([1], [1]), ([], []), ([3], [3]), ([4, 2], [4]), ([2, 5], [2, 5]), ([6, 5, 0, 1, 2, 3, 4, 5, 6], [6])])
def impl_Image_copyOf.B1 : List Nat := [0, 1, 3, 0, 8, 31, 63, 127]
theorem impl_Image_copyOf.tab1 : rtab .any (opsOf Try.f40 1) = impl_Image_copyOf.T1 := by kernel_rfl
theorem impl_Image_copyOf.bits1 : waitsOk impl_Image_copyOf.T1.2 impl_Image_copyOf.B1 = true := by kernel_rfl
set_option maxHeartbeats 8000000 in
set_option maxRecDepth 100000 in
theorem impl_Image_copyOf.calls (A0_0 : Option Addr) (c0_0 : Nat) (l0_0 : List Bool) (A0_1 : Option Addr) (c0_1 : Nat) (l0_1 : List Int) (r1 : List Bool) (r2 : List Int) (w : World) (hr0_0 : Kd.C Kd.bool w A0_0 l0_0.length l0_0) (hc0_0 : l0_0.length ≤ c0_0) (hr0_1 : Kd.C (Kd.int .i64) w A0_1 l0_1.length l0_1) (hc0_1 : l0_1.length ≤ c0_1) (h : impl_Image_copyOf.f l0_0 l0_1 = some (r1, r2)) :
    Calls Try.prog 40 #[.agg #[.slice A0_0 l0_0.length c0_0, .slice A0_1 l0_1.length c0_1]] w fun e w' => ∃ v0_ v1_ : Value, e = .returned (.agg #[v0_, v1_]) ∧ Kd.W Kd.bool 4 w' w.heap.size (fun _ => True) v0_ r1 ∧ Kd.W (Kd.int .i64) 3 w' w.heap.size (fun _ => True) v1_ r2 ∧ Below w.heap.size w w' := by
  have hu27 := Try.underlying27
  have HR0_0 := Aside0.mk hr0_0
  have HC0_0 := Aside0.mk hc0_0
  clear hr0_0 hc0_0
  have HR0_1 := Aside0.mk hr0_1
  have HC0_1 := Aside0.mk hc0_1
  clear hr0_1 hc0_1
  have HB := Aside0.mk (Below.refl w.heap.size w)
  have H : ((impl_clone_bool.f l0_0).bind fun t219 => ((impl_clone_int.f l0_1).bind fun t222 => (some (t219, t222)))) = some (r1, r2) := h
  clear h
  replace H := Option.bind_eq_some_iff.mp H
  obtain ⟨t219, A20, H⟩ := H
  replace H : ((impl_clone_int.f l0_1).bind fun t222 => (some (t219, t222))) = some (r1, r2) := H
  have A2 := Aside0.mk A20
  clear A20
  replace H := Option.bind_eq_some_iff.mp H
  obtain ⟨t222, A30, H⟩ := H
  replace H : (some (t219, t222)) = some (r1, r2) := H
  have A3 := Aside0.mk A30
  clear A30
  simp only [Option.some.injEq, Prod.mk.injEq] at H
  obtain ⟨rfl, rfl⟩ := H
  go_enter Try.func40, Try.ntmps40
  try go_wp2_with (first | ((with_reducible refine gate_dst (N := 1) rfl ?_); refine box_event ?hg (N := 1) ?hd (cs := #[.slice A0_0 l0_0.length c0_0, .slice A0_1 l0_1.length c0_1]) (t := 27) ?hr ?_; (case hd => rfl); (case hg => rfl); (case hr => first | (go_simp; done) | (go_simp; rfl)); intro gb217 hg w4 hbox hb; have n0_ := Aside0.mk (below_step (by repeat (first | (with_reducible first | exact HB.out | apply below_alloc | apply pw_below_drewN | apply below_drew1) | exact HB.out)) hb); have n1_ := Aside0.mk (hbox); have n2_ := Aside0.mk ((by rw [hg]; exact (below_size (by repeat (first | (with_reducible first | exact HB.out | apply below_alloc | apply pw_below_drewN | apply below_drew1) | exact HB.out))) : w.heap.size ≤ gb217)); have n3_ := Aside0.mk ((by rw [hg]; exact (below_size (by repeat (first | (with_reducible first | exact HB.out | apply below_alloc | apply pw_below_drewN | apply below_drew1) | exact HB.out))) : w.heap.size ≤ gb217)); clear HB; have HB := n0_; have BK217 := n1_; have GW217 := n2_; have GE217 := n3_; clear n0_ n1_ n2_ n3_; clear hb hbox hg) | ((with_reducible refine gate_dst (N := 2) rfl ?_); refine box_event ?hg (N := 2) ?hd (cs := #[.slice none 0 0, .slice none 0 0]) (t := 27) ?hr ?_; (case hd => rfl); (case hg => rfl); (case hr => first | (go_simp; done) | (go_simp; rfl)); intro gb218 hg w5 hbox hb; have n0_ := Aside0.mk (blk_below (g := gb217) (o := .cells #[.slice A0_0 l0_0.length c0_0, .slice A0_1 l0_1.length c0_1] 27 (0, 0)) (by (with_reducible repeat (first | refine blk_drewN ?_ _ | refine blk_drew ?_ | refine blk_alloc ?_ _)); exact BK217.out) hb); have n1_ := Aside0.mk (below_step (by repeat (first | (with_reducible first | exact HB.out | apply below_alloc | apply pw_below_drewN | apply below_drew1 | refine below_set ?_ GE217.out) | exact HB.out)) hb); have n2_ := Aside0.mk (hbox); have n3_ := Aside0.mk ((by rw [hg]; exact (below_size (by repeat (first | (with_reducible first | exact HB.out | apply below_alloc | apply pw_below_drewN | apply below_drew1 | refine below_set ?_ GE217.out) | exact HB.out))) : w.heap.size ≤ gb218)); have n4_ := Aside0.mk ((by rw [hg]; exact (below_size (by repeat (first | (with_reducible first | exact HB.out | apply below_alloc | apply pw_below_drewN | apply below_drew1 | refine below_set ?_ GE217.out) | exact HB.out))) : w.heap.size ≤ gb218)); have n5_ := Aside0.mk ((by rw [hg]; exact Nat.ne_of_lt (blk_lt (g := gb217) (o := .cells #[.slice A0_0 l0_0.length c0_0, .slice A0_1 l0_1.length c0_1] 27 (0, 0)) (by (with_reducible repeat (first | refine blk_drewN ?_ _ | refine blk_drew ?_ | refine blk_alloc ?_ _)); exact BK217.out)) : gb217 ≠ gb218)); have n6_ := Aside0.mk ((by rw [hg]; exact Nat.ne_of_gt (blk_lt (g := gb217) (o := .cells #[.slice A0_0 l0_0.length c0_0, .slice A0_1 l0_1.length c0_1] 27 (0, 0)) (by (with_reducible repeat (first | refine blk_drewN ?_ _ | refine blk_drew ?_ | refine blk_alloc ?_ _)); exact BK217.out)) : gb218 ≠ gb217)); clear BK217; clear HB; have BK217 := n0_; have HB := n1_; have BK218 := n2_; have GW218 := n3_; have GE218 := n4_; have NB217_218 := n5_; have NB218_217 := n6_; clear n0_ n1_ n2_ n3_ n4_ n5_ n6_; clear hb hbox hg))
  have n0_ := Aside0.mk (blk_drew BK217.out)
  have n1_ := Aside0.mk (blk_drew BK218.out)
  have n2_ := Aside0.mk (below_drew1 HB.out)
  clear BK217
  clear BK218
  clear HB
  have BK217 := n0_
  have BK218 := n1_
  have HB := n2_
  clear n0_ n1_ n2_
  refine start_ (n := 8) (S := fun w' => w'.cell? ⟨gb217, 0, none⟩ = some (.slice A0_0 l0_0.length c0_0) ∧ w'.cell? ⟨gb217, 1, none⟩ = some (.slice A0_1 l0_1.length c0_1)) (ds := []) #[false, false, false, false, false, false, false, false] (by kernel_rfl) rfl rfl ⟨(blk_cell BK217.out 0).trans rfl, (blk_cell BK217.out 1).trans rfl⟩ (fun hHeld => ?_); refine with_tabW impl_Image_copyOf.tab1 impl_Image_copyOf.bits1 (fun HT_ HW_ => ?_)
  generalize w5.drew = w6 at BK217 BK218 HB hHeld ⊢
  refine pure_ (i := 0) (N := some 3) (v := ?_) (a' := ?_) #[true, false, false, false, false, false, false, false] rfl rfl (any_of HT_.out (by kernel_rfl)) (fun _ _ _ h => h) (Or.inl ⟨by rfl, ?_⟩) ?_ ?_
  rotate_left
  · intro w'
    go_simp
    with_reducible rfl
  rotate_left
  · simp only [Act.put, List.setIfInBounds_toArray, List.set_cons_zero, List.set_cons_succ, i64_w, i32_w]
    rfl
  refine pure_ (i := 3) (N := some 6) (v := ?_) (a' := ?_) #[true, false, false, true, false, false, false, false] rfl rfl (any_of HT_.out (by kernel_rfl)) (fun _ _ _ h => h) (Or.inl ⟨by rfl, ?_⟩) ?_ ?_
  rotate_left
  · intro w'
    go_simp
    with_reducible rfl
  rotate_left
  · simp only [Act.put, List.setIfInBounds_toArray, List.set_cons_zero, List.set_cons_succ, i64_w, i32_w]
    rfl
  refine take_ (i := 1) (N := some 4) (v := ?_) (a' := ?_) #[true, true, false, true, false, false, false, false] rfl rfl (take_ofW HT_.out HW_.out (by kernel_rfl)) (fun _ _ _ h => h) (Or.inl ⟨by rfl, ?_⟩) hHeld ?_ ?_
  rotate_left
  · rintro w' ⟨s0, s1⟩
    go_simp
    with_reducible rfl
  rotate_left
  · simp only [Act.put, List.setIfInBounds_toArray, List.set_cons_zero, List.set_cons_succ, i64_w, i32_w]
    rfl
  refine take_ (i := 4) (N := some 7) (v := ?_) (a' := ?_) #[true, true, false, true, true, false, false, false] rfl rfl (take_ofW HT_.out HW_.out (by kernel_rfl)) (fun _ _ _ h => h) (Or.inl ⟨by rfl, ?_⟩) hHeld ?_ ?_
  rotate_left
  · rintro w' ⟨s0, s1⟩
    go_simp
    with_reducible rfl
  rotate_left
  · simp only [Act.put, List.setIfInBounds_toArray, List.set_cons_zero, List.set_cons_succ, i64_w, i32_w]
    rfl
  refine one_ (i := 2) (N := some 5) #[true, true, true, true, true, false, false, false] rfl rfl (one_of HT_.out (by kernel_rfl)) (by decide) (fun K hK => ?_)
  refine goes_ Try.func68 (by kernel_rfl) rfl #[.slice A0_0 l0_0.length c0_0] (by rfl) rfl rfl (by (try simp only [List.map_toArray, List.map_cons, List.map_nil]); first | done | rfl | (simp only [List.length_drop, List.length_take]; rfl)) ?_
  with_reducible refine (impl_clone_bool.calls _ _ l0_0 t219 _ ?side1 ?side2 A2.out).mono ?_
  (case side1 => repeat (first | exact (Kd.C_below HR0_0.out HB.out) | (with_reducible refine Kd.C_alloc ?_ _) | (with_reducible refine Kd.C_drewN ?_ _) | (with_reducible refine Kd.C_drew ?_)))
  (case side2 => exact HC0_0.out)
  rintro e w7 ⟨v220, rfl, ho0, hb⟩
  refine ⟨_, rfl, ?_⟩
  have n0_ := Aside0.mk (Kd.W_lower ho0 (below_size (by repeat (first | (with_reducible first | exact HB.out | apply below_alloc | apply pw_below_drewN | apply below_drew1 | refine below_set ?_ GE217.out | refine below_set ?_ GE218.out) | exact HB.out))))
  have n1_ := Aside0.mk (blk_below (g := gb217) (o := .cells #[.slice A0_0 l0_0.length c0_0, .slice A0_1 l0_1.length c0_1] 27 (0, 0)) (by (with_reducible repeat (first | refine blk_drewN ?_ _ | refine blk_drew ?_ | refine blk_alloc ?_ _)); exact BK217.out) hb)
  have n2_ := Aside0.mk (blk_below (g := gb218) (o := .cells #[.slice none 0 0, .slice none 0 0] 27 (0, 0)) (by (with_reducible repeat (first | refine blk_drewN ?_ _ | refine blk_drew ?_ | refine blk_alloc ?_ _)); exact BK218.out) hb)
  have n3_ := Aside0.mk (below_step (by repeat (first | (with_reducible first | exact HB.out | apply below_alloc | apply pw_below_drewN | apply below_drew1 | refine below_set ?_ GE217.out | refine below_set ?_ GE218.out) | exact HB.out)) hb)
  clear BK217
  clear BK218
  clear HB
  have HO221 := n0_
  have BK217 := n1_
  have BK218 := n2_
  have HB := n3_
  clear n0_ n1_ n2_ n3_
  (try clear hb)
  (try clear hb2)
  (try clear hk)
  (try clear hi)
  (try clear ho0)
  refine hK.out _ _ ⟨(blk_cell BK217.out 0).trans rfl, (blk_cell BK217.out 1).trans rfl⟩ (fun hHeld => ?_)
  clear hK K
  refine norm_ (a' := ?_) ?_ ?_
  rotate_left
  · show Act.put _ (some 5) _ = _
    simp only [Act.put, List.setIfInBounds_toArray, List.set_cons_zero, List.set_cons_succ, i64_w, i32_w]
    rfl
  refine one_ (i := 5) (N := some 8) #[true, true, true, true, true, true, false, false] rfl rfl (one_of HT_.out (by kernel_rfl)) (by decide) (fun K hK => ?_)
  refine goes_ Try.func50 (by kernel_rfl) rfl #[.slice A0_1 l0_1.length c0_1] (by rfl) rfl rfl (by (try simp only [List.map_toArray, List.map_cons, List.map_nil]); first | done | rfl | (simp only [List.length_drop, List.length_take]; rfl)) ?_
  with_reducible refine (impl_clone_int.calls _ _ l0_1 t222 _ ?side1 ?side2 A3.out).mono ?_
  (case side1 => repeat (first | exact (Kd.C_below HR0_1.out HB.out) | (with_reducible refine Kd.C_alloc ?_ _) | (with_reducible refine Kd.C_drewN ?_ _) | (with_reducible refine Kd.C_drew ?_)))
  (case side2 => exact HC0_1.out)
  rintro e w8 ⟨v223, rfl, ho0, hb⟩
  refine ⟨_, rfl, ?_⟩
  have n0_ := Aside0.mk (Kd.W_below (by (with_reducible repeat (first | apply Kd.W_alloc | apply Kd.W_drewN | apply Kd.W_drew)); exact HO221.out) hb)
  have n1_ := Aside0.mk (Kd.W_lower ho0 (below_size (by repeat (first | (with_reducible first | exact HB.out | apply below_alloc | apply pw_below_drewN | apply below_drew1 | refine below_set ?_ GE217.out | refine below_set ?_ GE218.out) | exact HB.out))))
  have n2_ := Aside0.mk (blk_below (g := gb217) (o := .cells #[.slice A0_0 l0_0.length c0_0, .slice A0_1 l0_1.length c0_1] 27 (0, 0)) (by (with_reducible repeat (first | refine blk_drewN ?_ _ | refine blk_drew ?_ | refine blk_alloc ?_ _)); exact BK217.out) hb)
  have n3_ := Aside0.mk (blk_below (g := gb218) (o := .cells #[.slice none 0 0, .slice none 0 0] 27 (0, 0)) (by (with_reducible repeat (first | refine blk_drewN ?_ _ | refine blk_drew ?_ | refine blk_alloc ?_ _)); exact BK218.out) hb)
  have n4_ := Aside0.mk (below_step (by repeat (first | (with_reducible first | exact HB.out | apply below_alloc | apply pw_below_drewN | apply below_drew1 | refine below_set ?_ GE217.out | refine below_set ?_ GE218.out) | exact HB.out)) hb)
  clear HO221
  clear BK217
  clear BK218
  clear HB
  have HO221 := n0_
  have HO224 := n1_
  have BK217 := n2_
  have BK218 := n3_
  have HB := n4_
  clear n0_ n1_ n2_ n3_ n4_
  (try clear hb)
  (try clear hb2)
  (try clear hk)
  (try clear hi)
  (try clear ho0)
  obtain ⟨Ao9, co9, eo9, _⟩ := Kd.W_slice HO224.out
  (first | subst eo9 | (injection eo9 with f1_ f2_ f3_; have f4_ := f1_.symm; have f5_ := f3_.symm; clear f1_ f2_ f3_; subst f4_; subst f5_))
  obtain ⟨Ao10, co10, eo10, _⟩ := Kd.W_slice HO221.out
  (first | subst eo10 | (injection eo10 with f1_ f2_ f3_; have f4_ := f1_.symm; have f5_ := f3_.symm; clear f1_ f2_ f3_; subst f4_; subst f5_))
  refine hK.out _ _ ⟨(blk_cell BK217.out 0).trans rfl, (blk_cell BK217.out 1).trans rfl⟩ (fun hHeld => ?_)
  clear hK K
  refine norm_ (a' := ?_) ?_ ?_
  rotate_left
  · show Act.put _ (some 8) _ = _
    simp only [Act.put, List.setIfInBounds_toArray, List.set_cons_zero, List.set_cons_succ, i64_w, i32_w]
    rfl
  refine pure_ (i := 6) (N := some 9) (v := ?_) (a' := ?_) #[true, true, true, true, true, true, true, false] rfl rfl (any_of HT_.out (by kernel_rfl)) (fun _ _ _ h => h) (Or.inl ⟨by rfl, ?_⟩) ?_ ?_
  rotate_left
  · intro w'
    go_simp
    with_reducible rfl
  rotate_left
  · simp only [Act.put, List.setIfInBounds_toArray, List.set_cons_zero, List.set_cons_succ, i64_w, i32_w]
    rfl
  refine one_ (i := 7) (N := none) #[true, true, true, true, true, true, true, true] rfl rfl (one_of HT_.out (by kernel_rfl)) (by decide) (fun K hK => ?_)
  have hs11 : w8.cell? ⟨gb218, 0, none⟩ = some (.slice none 0 0) := (blk_cell BK218.out 0).trans rfl
  have hfs11 := blk_frozen BK218.out 0
  have hns11_0 := NB217_218.out
  have hms11_0 := NB218_217.out
  have hs12 : w8.cell? ⟨gb218, 1, none⟩ = some (.slice none 0 0) := (blk_cell BK218.out 1).trans rfl
  have hfs12 := blk_frozen BK218.out 1
  have hns12_0 := NB217_218.out
  have hms12_0 := NB218_217.out
  refine skip_ (w1 := ?_) (by rfl) rfl ?_ ?_
  rotate_left
  · go_simp
    rfl
  refine hK.out _ _ ⟨((cell_far (p := ⟨gb218, _, none⟩) NB217_218.out _).trans (((cell_far (p := ⟨gb218, _, none⟩) NB217_218.out _).trans (hHeld.1)))), ((cell_far (p := ⟨gb218, _, none⟩) NB217_218.out _).trans (((cell_far (p := ⟨gb218, _, none⟩) NB217_218.out _).trans (hHeld.2))))⟩ (fun hHeld => ?_)
  clear hK K
  refine done_ (done_of HT_.out (by kernel_rfl)) ?_
  try go_wp2
  refine bodyPost_ret (results_cell_row rfl _ _ gb218 27 #[.slice Ao10 t219.length co10, .slice Ao9 t222.length co9] (0, 0) _ rfl (by (with_reducible repeat (first | refine blk_drewN ?_ _ | refine blk_drew ?_ | refine blk_alloc ?_ _)); refine blk_put (cs := #[.slice Ao10 t219.length co10, .slice none 0 0]) ?_ 1 _ rfl; (with_reducible repeat (first | refine blk_drewN ?_ _ | refine blk_drew ?_ | refine blk_alloc ?_ _)); refine blk_put (cs := #[.slice none 0 0, .slice none 0 0]) ?_ 0 _ rfl; (with_reducible repeat (first | refine blk_drewN ?_ _ | refine blk_drew ?_ | refine blk_alloc ?_ _)); exact BK218.out) Try.underlying27 rfl (by kernel_rfl)) rfl ?_
  exact ⟨_, _, by first | rfl | (simp [errW_none, errW_some] <;> rfl) | (simp [*, errW_none, errW_some] <;> rfl), by (with_reducible repeat (first | apply Kd.W_alloc | apply Kd.W_drewN | apply Kd.W_drew)); exact Kd.W_mono (Kd.W_far (p := ⟨gb218, 1, none⟩) (Kd.W_far (p := ⟨gb218, 0, none⟩) (Kd.W_types HO221.out BK218.out (by decide)) (fun _ hk => by first | exact hk.2 | exact trivial) (.slice Ao10 t219.length co10)) (fun _ hk => by first | exact hk.2 | exact trivial) (.slice Ao9 t222.length co9)) (fun _ hk => trivial), by (with_reducible repeat (first | apply Kd.W_alloc | apply Kd.W_drewN | apply Kd.W_drew)); exact Kd.W_mono (Kd.W_far (p := ⟨gb218, 1, none⟩) (Kd.W_far (p := ⟨gb218, 0, none⟩) (Kd.W_types HO224.out BK218.out (by decide)) (fun _ hk => by first | exact hk.2 | exact trivial) (.slice Ao10 t219.length co10)) (fun _ hk => by first | exact hk.2 | exact trivial) (.slice Ao9 t222.length co9)) (fun _ hk => trivial), by repeat (first | (with_reducible first | exact HB.out | apply below_alloc | apply pw_below_drewN | apply below_drew1 | refine below_set ?_ GE217.out | refine below_set ?_ GE218.out) | exact HB.out)⟩

/-! ### impl_ForcesValid: function 55 (own) -/
def tv_D : List Int → DataW Unit
  | [] => .map []
  | p :: ps => (tv_D ps).put (.int .i64 p) (.lit (.bool true))
theorem tv_D_map : ∀ ps, Go.Maps.IsMap (tv_D ps)
  | [] => Go.Maps.isMap_empty
  | p :: ps => (tv_D_map ps).put _ _
theorem tv_D_at (p : Int) : ∀ ps : List Int, (tv_D ps).atKey (.int .i64 p) (.lit (.bool false)) = .lit (.bool (ps.contains p))
  | [] => rfl
  | q :: ps => by
    by_cases e : p = q
    · subst e
      rw [tv_D, Go.Maps.atKey_put_same (tv_D_map ps) (k := .int .i64 p) (by simp [WideAt.IsKeyLit])]
      simp
    · rw [tv_D, Go.Maps.atKey_put_other (by simpa using e), tv_D_at p ps]
      simp [e]
section
variable {P : Program} {k : TypeId} {R : Value → Option (DataW Unit × List MemPlace)} {w w' : World} {b n : Nat} {D : DataW Unit}
theorem om_move (h : w.ownsMap P k R b n D) (e : w'.heap[b]? = w.heap[b]?) : w'.ownsMap P k R b n D := by
  obtain ⟨es, clock, hb, F, hs, hD⟩ := h
  exact ⟨es, clock, e.trans hb, F, hs, hD⟩
theorem om_below (h : w.ownsMap P k R b n D) (hb : Below w.heap.size w w') : w'.ownsMap P k R b n D := om_move h (hb.block b h.lt)
theorem om_set (h : w.ownsMap P k R b n D) {a : Addr} {v : Value} (hne : b ≠ a.block) : (w.setCell a v).ownsMap P k R b n D := om_move h (heap_setCell_other w a b v hne)
theorem om_drewN (h : w.ownsMap P k R b n D) (m : Nat) : (w.drewN m).ownsMap P k R b n D := h
theorem om_look {t e : TypeId} (h : w.ownsMap P k (plainElem P e) b n D) (K : Go.Maps.Keyed P k) (ht : P.underlying t = some (.map k e)) (he : P.underlying e = some .bool) (hz : (zeroValue e).run P w = .ok (.bool false) w)
    {key : Value} {kl : Lit} (hkey : keyOf P k key = some kl) (c : Bool) (hat : D.atKey kl (.lit (.bool false)) = .lit (.bool c)) : (Instr.lookup t (.map (some b)) key false).run P w = .ok (.bool c) w := by
  obtain ⟨v, ps, hrun, hv⟩ := h.lookup K ht hz (plainElem_bool he false) hkey
  rw [hat] at hv
  have : v = .bool c := by
    unfold plainElem at hv
    rw [he] at hv
    cases v <;> simp at hv
    rw [hv.1]
  rw [this] at hrun
  exact hrun
/-- The look-up at an operation, at elements of type bool. -/
theorem wpList_look {ops : Array Oper} {rest : List Oper} {o : Oper} {a : Act} {Q : Exit → Act → World → Prop}
    (hg : o.guard = none) (m x : Operand) (t : TypeId) (hop : o.op = Op.lookup t m x false) (mv key : Value) (hm : a.eval m = mv) (hx : a.eval x = key) (v : Value) (hrun : (Instr.lookup t mv key false).run P w = .ok v w)
    (hK : wpList P ops Q rest (a.put o.dst v) w) : wpList P ops Q (o :: rest) a w := by
  refine wpList_plain hg fun K' hK' => ?_
  unfold Oper.wp
  simp [execOp, hop, hm, hx, hrun, Result.andThen]
  exact hK' _ _ hK
end
theorem tv_zero (w : World) : (zeroValue 4).run Try.prog w = .ok (.bool false) w := by kernel_rfl

abbrev FVS := S67
def fv_seen (l : List FVS) (k : Nat) : List Int := ((l.take k).map fun t => t.f0).reverse
def fv_ok (b : Int) (l : List FVS) (k : Nat) : Bool := !decide ((l.getD k z67).f0 < 0) && (!decide ((l.getD k z67).f0 ≥ b) && !((fv_seen l k).contains (l.getD k z67).f0))
def impl_ForcesValid.f (l0 : List FVS) (a1 : Int) : Option Bool := if a1 ≤ 9223372036854775807 then some ((List.range l0.length).all (fv_ok a1 l0) && decide (l0.length ≤ 8)) else none
theorem fv_seen_succ (l : List FVS) (k : Nat) (h : k < l.length) : fv_seen l (k + 1) = (l.getD k z67).f0 :: fv_seen l k := by
  unfold fv_seen
  rw [List.take_add_one, List.getD_eq_getElem?_getD, List.getElem?_eq_getElem h, List.map_append, List.reverse_append]
  rfl
theorem fv_okE (b : Int) (l : List FVS) (k : Nat) (T : FVS) (h : l.getD k z67 = T) : fv_ok b l k = (!decide (T.f0 < 0) && (!decide (T.f0 ≥ b) && !((fv_seen l k).contains T.f0))) := by
  unfold fv_ok
  rw [h]
theorem fv_all (b : Int) (l : List FVS) (h : ∀ j, j < l.length → fv_ok b l j = true) : (List.range l.length).all (fv_ok b l) = true := by
  rw [List.all_eq_true]
  intro j hj
  exact h j (by simpa using hj)
theorem fv_not (b : Int) (l : List FVS) (k : Nat) (hk : k < l.length) (h : fv_ok b l k = false) : (List.range l.length).all (fv_ok b l) = false := by
  rw [List.all_eq_false]
  exact ⟨k, by simpa using hk, by simp [h]⟩
theorem fv_rd (l : List FVS) (k : Nat) : rd_T67 l (k : Int) = l.getD k z67 := by
  simp only [rd_T67, Int.toNat_natCast]
set_option maxRecDepth 100000 in
set_option maxHeartbeats 4000000 in
theorem impl_ForcesValid.calls (A0 : Option Addr) (c0 : Nat) (l0 : List FVS) (a1 : Int) (r : Bool) (w : World) (hr0 : Kd.C k67 w A0 l0.length l0) (hc0 : l0.length ≤ c0) (h : impl_ForcesValid.f l0 a1 = some r) :
    Calls Try.prog 55 #[.slice A0 l0.length c0, .int .i64 a1] w fun e w' => e = .returned (.bool r) ∧ Below w.heap.size w w' := by
  unfold impl_ForcesValid.f at h
  split at h
  case isFalse => cases h
  case isTrue hbd =>
  have HBD := Aside0.mk hbd
  clear hbd
  have HF := Aside0.mk (Option.some.inj h)
  clear h
  have HR := Aside0.mk hr0
  have hmax := hr0.2.1
  clear hr0
  have law3 := Aside0.mk (Go.Maps.int_keyed (P := Try.prog) Try.underlying3)
  have hmm := @run_makeMap Try.prog
  go_enter Try.func55, Try.ntmps55
  go_wp2
  go_loopg [11] l0.length (fun gg s9 wr => ∃ kk : Nat, kk ≤ l0.length ∧ l0.length - kk ≤ gg ∧ s9 = .int .i64 kk ∧ Aside (wr.ownsMap Try.prog 3 (plainElem (H := Unit) Try.prog 4) w.heap.size kk (tv_D (fv_seen l0 kk))) ∧ Aside0 (Below w.heap.size w wr) ∧ Aside (∀ j, j < kk → fv_ok a1 l0 j = true))
  case atStart => exact ⟨0, Nat.zero_le _, by omega, rfl, World.ownsMap_made _ _ _ _, ⟨below_alloc (Below.refl _ _) _⟩, fun j hj => absurd hj (Nat.not_lt_zero _)⟩
  case round =>
    clear hmm
    obtain ⟨kk, hkk, hg, rfl, HM, HB, HA⟩ := hrel
    by_cases hlt : kk < l0.length
    · have hltz : (kk : Int) < (l0.length : Int) := by omega
      obtain ⟨ad, e, hx0, hx1⟩ := at_T67 HR.out kk (by omega) hltz
      cases e
      replace hx0 := (HB.out.cell (World.block_lt_of_cell? w _ hx0)).trans hx0
      replace hx1 := (HB.out.cell (World.block_lt_of_cell? w _ hx1)).trans hx1
      have HX := Aside0.mk (fv_rd l0 kk)
      have HL := Aside0.mk hlt
      obtain ⟨x, hx⟩ : ∃ x : Int, (kk : Int) = x := ⟨_, rfl⟩
      have hx0i : 0 ≤ x := by omega
      have HXX := Aside0.mk hx
      rw [hx] at hx0 hx1 hltz ⊢
      clear hx
      generalize hT : rd_T67 l0 x = T at hx0 hx1
      have HT := Aside0.mk hT
      clear hT
      have hltb : decide (x < (l0.length : Int)) = true := decide_eq_true hltz
      have hx0b : decide (0 ≤ x) = true := decide_eq_true hx0i
      clear hlt
      cases c1 : decide (T.f0 < 0) with
      | true =>
        have C1 := Aside0.mk c1
        go_wp2_with (first | ((with_reducible refine gate_dst (N := 7) rfl ?_); refine box_event ?hg (N := 7) ?hd (cs := #[.int .i64 0, .bool false]) (t := 67) ?hr ?_; (case hd => rfl); (case hg => rfl); (case hr => first | (go_simp; done) | (go_simp; rfl)); intro gb hg w23 hbox hb; have n0_ := Aside0.mk (below_step HB.out hb); have n1_ := Aside0.mk (hbox); have n2_ := Aside0.mk ((by rw [hg]; exact (below_size HB.out) : w.heap.size ≤ gb)); have n4_ := Aside0.mk ((by rw [hg]; exact Nat.ne_of_lt HM.lt : w.heap.size ≠ gb)); have n5_ := Aside0.mk (om_below HM hb); clear HB HM; have HB := n0_; have BK := n1_; have GE := n2_; have NE := n4_; have HM := n5_; clear n0_ n1_ n2_ n4_ n5_; clear hb hbox hg; have hcz0 : w23.cell? ⟨gb, 0, none⟩ = some (.int .i64 0) := (blk_cell BK.out 0).trans rfl; have hcz1 : w23.cell? ⟨gb, 1, none⟩ = some (.bool false) := (blk_cell BK.out 1).trans rfl; have hfz0 := blk_frozen BK.out 0; have hfz1 := blk_frozen BK.out 1))
        go_ret
        refine ⟨?_, (by repeat (first | exact HB.out | apply pw_below_drewN | refine below_set ?_ GE.out))⟩
        have hT : l0.getD kk z67 = T := HX.out.symm.trans ((congrArg (rd_T67 l0) HXX.out).trans HT.out)
        rw [← HF.out, fv_not a1 l0 kk HL.out (by rw [fv_okE a1 l0 kk T hT, C1.out]; simp)]
        rfl
      | false =>
        have C1 := Aside0.mk c1
        cases c2 : decide (T.f0 ≥ a1) with
        | true =>
          have C2 := Aside0.mk c2
          go_wp2_with (first | ((with_reducible refine gate_dst (N := 7) rfl ?_); refine box_event ?hg (N := 7) ?hd (cs := #[.int .i64 0, .bool false]) (t := 67) ?hr ?_; (case hd => rfl); (case hg => rfl); (case hr => first | (go_simp; done) | (go_simp; rfl)); intro gb hg w23 hbox hb; have n0_ := Aside0.mk (below_step HB.out hb); have n1_ := Aside0.mk (hbox); have n2_ := Aside0.mk ((by rw [hg]; exact (below_size HB.out) : w.heap.size ≤ gb)); have n4_ := Aside0.mk ((by rw [hg]; exact Nat.ne_of_lt HM.lt : w.heap.size ≠ gb)); have n5_ := Aside0.mk (om_below HM hb); clear HB HM; have HB := n0_; have BK := n1_; have GE := n2_; have NE := n4_; have HM := n5_; clear n0_ n1_ n2_ n4_ n5_; clear hb hbox hg; have hcz0 : w23.cell? ⟨gb, 0, none⟩ = some (.int .i64 0) := (blk_cell BK.out 0).trans rfl; have hcz1 : w23.cell? ⟨gb, 1, none⟩ = some (.bool false) := (blk_cell BK.out 1).trans rfl; have hfz0 := blk_frozen BK.out 0; have hfz1 := blk_frozen BK.out 1))
          go_ret
          refine ⟨?_, (by repeat (first | exact HB.out | apply pw_below_drewN | refine below_set ?_ GE.out))⟩
          have hT : l0.getD kk z67 = T := HX.out.symm.trans ((congrArg (rd_T67 l0) HXX.out).trans HT.out)
          rw [← HF.out, fv_not a1 l0 kk HL.out (by rw [fv_okE a1 l0 kk T hT, C1.out, C2.out]; simp)]
          rfl
        | false =>
          have C2 := Aside0.mk c2
          have WK := Aside0.mk (Go.Maps.keyOf_int_mk (P := Try.prog) (q := .i64) (a := T.f0) Try.underlying3 (by have h1 := of_decide_eq_false c1; have h2 := of_decide_eq_false c2; have h3 := HBD.out; simp [Lit.wf, IntKind.min, IntKind.max, IntKind.signed, IntKind.bits]; omega))
          have LM := Aside0.mk (show kk < maxLen from by have := HL.out; unfold maxLen; omega)
          have c4a := tv_D_at T.f0 (fv_seen l0 kk)
          cases c4 : (fv_seen l0 kk).contains T.f0 with
          | true =>
            rw [c4] at c4a
            have C4 := Aside0.mk c4a
            have C5 := Aside0.mk c4
            clear c4 c4a
            go_wp2_with (first | ((with_reducible refine gate_dst (N := 7) rfl ?_); refine box_event ?hg (N := 7) ?hd (cs := #[.int .i64 0, .bool false]) (t := 67) ?hr ?_; (case hd => rfl); (case hg => rfl); (case hr => first | (go_simp; done) | (go_simp; rfl)); intro gb hg w23 hbox hb; have n0_ := Aside0.mk (below_step HB.out hb); have n1_ := Aside0.mk (hbox); have n2_ := Aside0.mk ((by rw [hg]; exact (below_size HB.out) : w.heap.size ≤ gb)); have n4_ := Aside0.mk ((by rw [hg]; exact Nat.ne_of_lt HM.lt : w.heap.size ≠ gb)); have n5_ := Aside0.mk (om_below HM hb); clear HB HM; have HB := n0_; have BK := n1_; have GE := n2_; have NE := n4_; have HM := n5_; clear n0_ n1_ n2_ n4_ n5_; clear hb hbox hg; have hcz0 : w23.cell? ⟨gb, 0, none⟩ = some (.int .i64 0) := (blk_cell BK.out 0).trans rfl; have hcz1 : w23.cell? ⟨gb, 1, none⟩ = some (.bool false) := (blk_cell BK.out 1).trans rfl; have hfz0 := blk_frozen BK.out 0; have hfz1 := blk_frozen BK.out 1) | (at_lookup; refine gate_guard (by rfl) ?_; dsimp only; refine wpList_look rfl _ _ 82 rfl (.map (some w.heap.size)) (.int .i64 T.f0) rfl rfl (.bool true) (by refine om_look (D := tv_D (fv_seen l0 kk)) (n := kk) ?_ law3.out Try.underlying82 Try.underlying4 (tv_zero _) WK.out _ C4.out; (repeat (first | exact HM.out | apply om_drewN | refine om_set ?_ NE.out))) ?_))
            go_ret
            refine ⟨?_, (by repeat (first | exact HB.out | apply pw_below_drewN | refine below_set ?_ GE.out))⟩
            have hT : l0.getD kk z67 = T := HX.out.symm.trans ((congrArg (rd_T67 l0) HXX.out).trans HT.out)
            rw [← HF.out, fv_not a1 l0 kk HL.out (by rw [fv_okE a1 l0 kk T hT, C1.out, C2.out, C5.out]; simp)]
            rfl
          | false =>
            rw [c4] at c4a
            have C4 := Aside0.mk c4a
            have C5 := Aside0.mk c4
            clear c4 c4a
            go_wp2_with (first | ((with_reducible refine gate_dst (N := 7) rfl ?_); refine box_event ?hg (N := 7) ?hd (cs := #[.int .i64 0, .bool false]) (t := 67) ?hr ?_; (case hd => rfl); (case hg => rfl); (case hr => first | (go_simp; done) | (go_simp; rfl)); intro gb hg w23 hbox hb; have n0_ := Aside0.mk (below_step HB.out hb); have n1_ := Aside0.mk (hbox); have n2_ := Aside0.mk ((by rw [hg]; exact (below_size HB.out) : w.heap.size ≤ gb)); have n4_ := Aside0.mk ((by rw [hg]; exact Nat.ne_of_lt HM.lt : w.heap.size ≠ gb)); have n5_ := Aside0.mk (om_below HM hb); clear HB HM; have HB := n0_; have BK := n1_; have GE := n2_; have NE := n4_; have HM := n5_; clear n0_ n1_ n2_ n4_ n5_; clear hb hbox hg; have hcz0 : w23.cell? ⟨gb, 0, none⟩ = some (.int .i64 0) := (blk_cell BK.out 0).trans rfl; have hcz1 : w23.cell? ⟨gb, 1, none⟩ = some (.bool false) := (blk_cell BK.out 1).trans rfl; have hfz0 := blk_frozen BK.out 0; have hfz1 := blk_frozen BK.out 1) | (at_lookup; refine gate_guard (by rfl) ?_; dsimp only; refine wpList_look rfl _ _ 82 rfl (.map (some w.heap.size)) (.int .i64 T.f0) rfl rfl (.bool false) (by refine om_look (D := tv_D (fv_seen l0 kk)) (n := kk) ?_ law3.out Try.underlying82 Try.underlying4 (tv_zero _) WK.out _ C4.out; (repeat (first | exact HM.out | apply om_drewN | refine om_set ?_ NE.out))) ?_) | (at_mapUpdate; refine wpList_mapUpdate_own _ rfl _ _ _ 82 rfl 3 4 law3.out Try.underlying82 (plainElem (H := Unit) Try.prog 4) w.heap.size kk (tv_D (fv_seen l0 kk)) rfl (by repeat (first | (with_reducible exact HM.out) | (with_reducible apply om_drewN) | (with_reducible refine om_set ?_ NE.out))) LM.out (.int .i64 T.f0) (.bool true) (.int .i64 T.f0) rfl rfl WK.out (.lit (.bool true)) [] (plainElem_bool Try.underlying4 true) ?_; intro w1 hown1 hgrow1))
            have hT : l0.getD kk z67 = T := HX.out.symm.trans ((congrArg (rd_T67 l0) HXX.out).trans HT.out)
            have HN := Aside0.mk hown1
            have HB1 := Aside0.mk (pw_below_grown (by repeat (first | exact HB.out | apply pw_below_drewN | refine below_set ?_ GE.out)) _ (below_size (by repeat (first | exact HB.out | apply pw_below_drewN | refine below_set ?_ GE.out))) hgrow1 (fun k hk => by cases hk; exact Nat.le_refl _))
            clear hown1 hgrow1
            go_roundg (l0.length - (kk + 1))
            case measure => have := HL.out; omega
            case rel =>
              have hL := HL.out
              have hX := HXX.out
              refine ⟨kk + 1, by omega, by omega, by subst hX; go_num, ?_, HB1, fun j hj => ?_⟩
              · rw [fv_seen_succ l0 kk hL, hT]
                exact HN.out
              · by_cases e : j = kk
                · subst e
                  rw [fv_okE a1 l0 j T hT, C1.out, C2.out, C5.out]
                  rfl
                · exact HA j (by omega)
    · have hltz : ¬ (kk : Int) < (l0.length : Int) := by omega
      have : kk = l0.length := by omega
      subst this
      go_wp2
      go_ret
      refine ⟨?_, HB.out⟩
      rw [← HF.out, fv_all a1 l0 HA]
      have e : decide ((l0.length : Int) ≤ 8) = decide (l0.length ≤ 8) := by
        rw [decide_eq_decide]
        omega
      first
        | rfl
        | (simp [e]; done)
        | (simp; omega)


/-! ### impl_force: function 56 -/
def impl_force.l0 : Nat → List (S67) → Int → Int → List Bool → List Int → Option (List Bool)
  | 0, _, _, _, _, _ => none
  | k + 1, x6, x7, x8, x226000, x226001 => if x8 < x7 then (if 0 ≤ x8 then (if x8 < (x6.length : Int) then (if 0 ≤ ((rd_T67 x6 x8).f0) then (if ((rd_T67 x6 x8).f0) < (x226000.length : Int) then (impl_force.l0 k x6 x7 (wrap64 (x8 + 1)) (x226000.set (((rd_T67 x6 x8).f0) : Int).toNat ((rd_T67 x6 x8).f1)) x226001) else (none)) else (none)) else (none)) else (none)) else (some x226000)
def impl_force.f (k : Nat) (l0_0 : List Bool) (l0_1 : List Int) (l1 : List (S67)) : Option (List Bool) := impl_force.l0 k l1 (l1.length : Int) 0 l0_0 l0_1
theorem impl_force.mono_l : ∀ k, (∀ y0 y1 y2 y3 y4, LeO (impl_force.l0 k y0 y1 y2 y3 y4) (impl_force.l0 (k + 1) y0 y1 y2 y3 y4))
  | 0 => fun _ _ _ _ _ r h => by simp [impl_force.l0] at h
  | k + 1 => by
    have ih0 := impl_force.mono_l k
    · intro y0 y1 y2 y3 y4
      unfold impl_force.l0
      repeat' first
      | (with_reducible exact ih0 _ _ _ _ _)
      | (with_reducible exact LeO.refl _)
      | (with_reducible exact LeO.none _)
      | (with_reducible refine LeO.ite ?_ ?_)
      | (with_reducible refine LeO.bind ?_ (fun _ => ?_))
      | exact ih0 _ _ _ _ _
      | exact LeO.none _
      | refine LeO.ite ?_ ?_
      | refine LeO.bind ?_ (fun _ => ?_)
theorem impl_force.mono : ∀ a0 a1 a2 k, LeO (impl_force.f k a0 a1 a2) (impl_force.f (k + 1) a0 a1 a2) := by
  intro a0 a1 a2 k
  have ih0 := impl_force.mono_l k
  unfold impl_force.f
  repeat' first
      | (with_reducible exact ih0 _ _ _ _ _)
      | (with_reducible exact LeO.refl _)
      | (with_reducible exact LeO.none _)
      | (with_reducible refine LeO.ite ?_ ?_)
      | (with_reducible refine LeO.bind ?_ (fun _ => ?_))
      | exact ih0 _ _ _ _ _
      | exact LeO.none _
      | refine LeO.ite ?_ ?_
      | refine LeO.bind ?_ (fun _ => ?_)
set_option maxHeartbeats 8000000 in
set_option maxRecDepth 100000 in
theorem impl_force.calls (k : Nat) (P0_0_ : Nat → Prop) (u9000_ : Value) (l0_0 : List Bool) (A0_1 : Option Addr) (c0_1 : Nat) (l0_1 : List Int) (A1 : Option Addr) (c1 : Nat) (l1 : List (S67)) (r : List Bool) (w0 w : World) (hB : Below w0.heap.size w0 w) (ho0_0 : Kd.R Kd.bool 4 w w0.heap.size P0_0_ u9000_ l0_0) (hr0_1 : ∀ W_, Kept w W_ (fun k_ => P0_0_ k_) → Kd.C (Kd.int .i64) W_ A0_1 l0_1.length l0_1) (hc0_1 : l0_1.length ≤ c0_1) (hr1 : ∀ W_, Kept w W_ (fun k_ => P0_0_ k_) → Kd.C k67 W_ A1 l1.length l1) (hc1 : l1.length ≤ c1) (h : impl_force.f k l0_0 l0_1 l1 = some r) :
    Calls Try.prog 56 #[.agg #[u9000_, .slice A0_1 l0_1.length c0_1], .slice A1 l1.length c1] w fun e w' => e = .returned (.tuple #[]) ∧ Kd.R Kd.bool 4 w' w0.heap.size (fun k_ => (P0_0_ k_ ∨ w.heap.size ≤ k_)) u9000_ r ∧ Below w0.heap.size w0 w' ∧ Kept w w' (fun k_ => P0_0_ k_) := by
  have hu27 := Try.underlying27
  have hu67 := Try.underlying67
  have HO0_0 := Aside0.mk (show Kd.R Kd.bool 4 w w0.heap.size (fun k_ => (P0_0_ k_ ∨ w.heap.size ≤ k_)) u9000_ l0_0 from Kd.R_mono ho0_0 (fun k_ hk => (.inl hk)))
  have HR0_1 := Aside0.mk hr0_1
  have HC0_1 := Aside0.mk hc0_1
  clear hr0_1 hc0_1
  have HR1 := Aside0.mk hr1
  have HC1 := Aside0.mk hc1
  clear hr1 hc1
  have HK := Aside0.mk (Kept.refl w (fun k_ => P0_0_ k_))
  have HW0 := Aside0.mk hB.size
  have HB := Aside0.mk hB
  clear hB
  have H : (impl_force.l0 k l1 (l1.length : Int) 0 l0_0 l0_1) = some r := h
  clear h
  have H' := Aside0.mk H
  clear H
  obtain ⟨Ao3, co3, eo3⟩ := Kd.R_slice HO0_0.out
  subst eo3
  go_enter Try.func56, Try.ntmps56
  go_wp2_with (first | ((with_reducible refine gate_dst (N := 2) rfl ?_); refine box_event ?hg (N := 2) ?hd (cs := #[.slice Ao3 l0_0.length co3, .slice A0_1 l0_1.length c0_1]) (t := 27) ?hr ?_; (case hd => rfl); (case hg => rfl); (case hr => first | (go_simp; done) | (go_simp; rfl)); intro gb225 hg w4 hbox hb; have n0_ := Aside0.mk (Kd.R_below (by (with_reducible repeat (first | apply Kd.R_alloc | apply Kd.R_drewN | apply Kd.R_drew)); exact HO0_0.out) hb); have n1_ := Aside0.mk (Kept.below (S := (fun k_ => P0_0_ k_)) (by repeat (first | (with_reducible first | exact HK.out | apply Kept.alloc | apply Kept.drewN | apply Kept.drew) | exact HK.out)) hb); have n2_ := Aside0.mk (below_step (by repeat (first | (with_reducible first | exact HB.out | apply below_alloc | apply pw_below_drewN | apply below_drew1) | exact HB.out)) hb); have n3_ := Aside0.mk (hbox); have n4_ := Aside0.mk ((by rw [hg]; exact (by first | exact HK.out.1 | exact (show Kept w _ (fun k_ => P0_0_ k_) from by repeat (first | (with_reducible first | exact HK.out | apply Kept.alloc | apply Kept.drewN | apply Kept.drew) | exact HK.out)).1) : w.heap.size ≤ gb225)); have n5_ := Aside0.mk ((by rw [hg]; exact (below_size (by repeat (first | (with_reducible first | exact HB.out | apply below_alloc | apply pw_below_drewN | apply below_drew1) | exact HB.out))) : w0.heap.size ≤ gb225)); clear HO0_0; clear HK; clear HB; have HO0_0 := n0_; have HK := n1_; have HB := n2_; have BK225 := n3_; have GW225 := n4_; have GE225 := n5_; clear n0_ n1_ n2_ n3_ n4_ n5_; clear hb hbox hg))
  go_loopg [8] k (fun kq v8 w' => ∃ (x8_1 : Int) (x226000_1 : List Bool), v8 = .int .i64 x8_1 ∧ Aside0 (impl_force.l0 kq l1 (l1.length : Int) x8_1 x226000_1 l0_1 = some r) ∧ Aside0 (kq ≤ k) ∧ Aside0 (Kd.R Kd.bool 4 w' w0.heap.size (fun k_ => (P0_0_ k_ ∨ w.heap.size ≤ k_)) (.slice Ao3 l0_0.length co3) x226000_1) ∧ Aside0 (w'.heap[gb225]? = some (.cells #[(.slice Ao3 l0_0.length co3), (.slice A0_1 l0_1.length c0_1)] 27 (0, 0))) ∧ Aside0 (Kept w w' (fun k_ => P0_0_ k_)) ∧ Aside0 (Below w0.heap.size w0 w'))
  case atStart => exact ⟨(0), (l0_0), (by first | rfl | (simp; done) | (simp [*]; done)), H', ⟨Nat.le_refl _⟩, ⟨by (with_reducible repeat (first | apply Kd.R_alloc | apply Kd.R_drewN | apply Kd.R_drew)); exact HO0_0.out⟩, ⟨by (with_reducible repeat (first | refine blk_drewN ?_ _ | refine blk_drew ?_ | refine blk_alloc ?_ _)); exact BK225.out⟩, ⟨by repeat (first | (with_reducible first | exact HK.out | apply Kept.alloc | apply Kept.drewN | apply Kept.drew | refine Kept.setCell ?_ (.inr GW225.out) _) | exact HK.out)⟩, ⟨by repeat (first | (with_reducible first | exact HB.out | apply below_alloc | apply pw_below_drewN | apply below_drew1 | refine below_set ?_ GE225.out) | exact HB.out)⟩⟩
  case round =>
    clear H'
    try clear c1
    try clear p2
    obtain ⟨x8_1, x226000_1, rfl, HA, HK1, HO_226000, BK225, HK, HB⟩ := hrel
    have hl226000_1 := (Kd.R_reads' HO_226000.out).1
    rw [hl226000_1] at HO_226000
    (try simp only [hl226000_1])
    (try simp only [hl226000_1] at BK225)
    cases gk with
    | zero => exact absurd HA.out (by simp [impl_force.l0])
    | succ k1 =>
      have H := HA.out
      clear HA
      simp only [impl_force.l0] at H
      by_cases c5 : x8_1 < (l1.length : Int)
      · rw [if_pos c5] at H
        have c5b0 : decide (x8_1 < (l1.length : Int)) = true := decide_eq_true c5
        (try (have c5b0_hl226000_1 := c5b0; simp only [hl226000_1] at c5b0_hl226000_1))
        clear c5
        by_cases c6 : 0 ≤ x8_1
        · rw [if_pos c6] at H
          have c6b0 : decide (0 ≤ x8_1) = true := decide_eq_true c6
          clear c6
          by_cases c7 : x8_1 < (l1.length : Int)
          · rw [if_pos c7] at H
            have c7b0 : decide (x8_1 < (l1.length : Int)) = true := decide_eq_true c7
            (try (have c7b0_hl226000_1 := c7b0; simp only [hl226000_1] at c7b0_hl226000_1))
            clear c7
            by_cases c8 : 0 ≤ ((rd_T67 l1 x8_1).f0)
            · rw [if_pos c8] at H
              have c8b0 : decide (0 ≤ ((rd_T67 l1 x8_1).f0)) = true := decide_eq_true c8
              clear c8
              by_cases c9 : ((rd_T67 l1 x8_1).f0) < (x226000_1.length : Int)
              · rw [if_pos c9] at H
                have c9b0 : decide (((rd_T67 l1 x8_1).f0) < (x226000_1.length : Int)) = true := decide_eq_true c9
                (try (have c9b0_hl226000_1 := c9b0; simp only [hl226000_1] at c9b0_hl226000_1))
                clear c9
                obtain ⟨y228, hy228⟩ : ∃ y_ : List Bool, y_ = (x226000_1.set (((rd_T67 l1 x8_1).f0) : Int).toNat ((rd_T67 l1 x8_1).f1)) := ⟨_, rfl⟩
                replace H : (impl_force.l0 k1 l1 (l1.length : Int) (wrap64 (x8_1 + 1)) y228 l0_1) = some r := by first | (rw [hy228]; with_reducible exact H) | (have H2_ := (Option.bind_some _ _).symm.trans H; rw [hy228]; with_reducible exact H2_) | (have H2_ := (Option.bind_some _ _).symm.trans H; with_reducible exact H2_) | with_reducible exact H | (rw [hy228]; exact H) | exact H
                have Ny228 := Aside0.mk hy228
                clear hy228
                have H' := Aside0.mk H
                clear H
                have p226 : 0 ≤ (x8_1 : Int) := of_decide_eq_true (by first | (with_reducible assumption) | assumption)
                have q226 : x8_1 < (l1.length : Int) := of_decide_eq_true (by first | (with_reducible assumption) | assumption)
                obtain ⟨ad226, e226, hx226_0, hx226_1⟩ := at_T67 (Kd.C_kept_now HR1.out HK.out) x8_1 p226 q226
                cases e226
                replace p226 := eq_true p226
                replace q226 := eq_true q226
                go_wp2_with (first | ((with_reducible refine gate_dst (N := 5) rfl ?_); refine box_event ?hg (N := 5) ?hd (cs := #[.int .i64 0, .bool false]) (t := 67) ?hr ?_; (case hd => rfl); (case hg => rfl); (case hr => first | (go_simp; done) | (go_simp; rfl)); intro gb227 hg w11 hbox hb; have n0_ := Aside0.mk (Kd.R_below (by (with_reducible repeat (first | apply Kd.R_alloc | apply Kd.R_drewN | apply Kd.R_drew)); exact HO_226000.out) hb); have n1_ := Aside0.mk (blk_below (g := gb225) (o := .cells #[.slice Ao3 x226000_1.length co3, .slice A0_1 l0_1.length c0_1] 27 (0, 0)) (by (with_reducible repeat (first | refine blk_drewN ?_ _ | refine blk_drew ?_ | refine blk_alloc ?_ _)); exact BK225.out) hb); have n2_ := Aside0.mk (Kept.below (S := (fun k_ => P0_0_ k_)) (by repeat (first | (with_reducible first | exact HK.out | apply Kept.alloc | apply Kept.drewN | apply Kept.drew | refine Kept.setCell ?_ (.inr GW225.out) _) | exact HK.out)) hb); have n3_ := Aside0.mk (below_step (by repeat (first | (with_reducible first | exact HB.out | apply below_alloc | apply pw_below_drewN | apply below_drew1 | refine below_set ?_ GE225.out) | exact HB.out)) hb); have n4_ := Aside0.mk (hbox); have n5_ := Aside0.mk ((by rw [hg]; exact (by first | exact HK.out.1 | exact (show Kept w _ (fun k_ => P0_0_ k_) from by repeat (first | (with_reducible first | exact HK.out | apply Kept.alloc | apply Kept.drewN | apply Kept.drew | refine Kept.setCell ?_ (.inr GW225.out) _) | exact HK.out)).1) : w.heap.size ≤ gb227)); have n6_ := Aside0.mk ((by rw [hg]; exact (below_size (by repeat (first | (with_reducible first | exact HB.out | apply below_alloc | apply pw_below_drewN | apply below_drew1 | refine below_set ?_ GE225.out) | exact HB.out))) : w0.heap.size ≤ gb227)); have n7_ := Aside0.mk ((by rw [hg]; exact Nat.ne_of_lt (blk_lt (g := gb225) (o := .cells #[.slice Ao3 x226000_1.length co3, .slice A0_1 l0_1.length c0_1] 27 (0, 0)) (by (with_reducible repeat (first | refine blk_drewN ?_ _ | refine blk_drew ?_ | refine blk_alloc ?_ _)); exact BK225.out)) : gb225 ≠ gb227)); have n8_ := Aside0.mk ((by rw [hg]; exact Nat.ne_of_gt (blk_lt (g := gb225) (o := .cells #[.slice Ao3 x226000_1.length co3, .slice A0_1 l0_1.length c0_1] 27 (0, 0)) (by (with_reducible repeat (first | refine blk_drewN ?_ _ | refine blk_drew ?_ | refine blk_alloc ?_ _)); exact BK225.out)) : gb227 ≠ gb225)); clear HO_226000; clear BK225; clear HK; clear HB; have HO_226000 := n0_; have BK225 := n1_; have HK := n2_; have HB := n3_; have BK227 := n4_; have GW227 := n5_; have GE227 := n6_; have NB225_227 := n7_; have NB227_225 := n8_; clear n0_ n1_ n2_ n3_ n4_ n5_ n6_ n7_ n8_; clear hb hbox hg; have hnb12 := NB227_225.out; have hnc12 := NB225_227.out; have hcz13_0 : w11.cell? ⟨gb227, 0, none⟩ = some (.int .i64 0) := (blk_cell BK227.out 0).trans rfl; have hcz13_1 : w11.cell? ⟨gb227, 1, none⟩ = some (.bool false) := (blk_cell BK227.out 1).trans rfl; have hfz13_0 := blk_frozen BK227.out 0; have hfz13_1 := blk_frozen BK227.out 1) | ((with_reducible refine gate_store (t := 67) (p := 5) rfl ?_); refine store_event (t := 67) (p := 5) (v := ?vo_w14) (w1 := ((w11.setCell ⟨gb227, 0, none⟩ (.int .i64 ((rd_T67 l1 x8_1).f0))).setCell ⟨gb227, 1, none⟩ (.bool ((rd_T67 l1 x8_1).f1)))) ?hg ?ho ?hn ?hr ?_; (case ho => rfl); (case hg => rfl); (case hn => rfl); (case hr => first | (go_simp; done) | (go_simp; rfl)); intro w14 hw; have n0_ : Aside0 (Kd.R Kd.bool 4 w14 w0.heap.size (fun k_ => (P0_0_ k_ ∨ w.heap.size ≤ k_)) (.slice Ao3 x226000_1.length co3) x226000_1) := ⟨(by rw [hw]; exact (by (with_reducible repeat (first | apply Kd.R_alloc | apply Kd.R_drewN | apply Kd.R_drew)); exact Kd.R_mono (Kd.R_far (p := ⟨gb227, 1, none⟩) (Kd.R_far (p := ⟨gb227, 0, none⟩) (Kd.R_types HO_226000.out BK227.out (by decide)) (fun _ hk => by first | exact hk.2 | exact trivial) (.int .i64 ((rd_T67 l1 x8_1).f0))) (fun _ hk => by first | exact hk.2 | exact trivial) (.bool ((rd_T67 l1 x8_1).f1))) (fun _ hk => hk.1)))⟩; have n1_ : Aside0 (w14.heap[gb225]? = some (.cells #[.slice Ao3 x226000_1.length co3, .slice A0_1 l0_1.length c0_1] 27 (0, 0))) := ⟨(by rw [hw]; exact (by (with_reducible repeat (first | refine blk_drewN ?_ _ | refine blk_drew ?_ | refine blk_alloc ?_ _)); refine blk_far ?_ NB225_227.out _; (with_reducible repeat (first | refine blk_drewN ?_ _ | refine blk_drew ?_ | refine blk_alloc ?_ _)); refine blk_far ?_ NB225_227.out _; (with_reducible repeat (first | refine blk_drewN ?_ _ | refine blk_drew ?_ | refine blk_alloc ?_ _)); exact BK225.out))⟩; have n2_ : Aside0 (w14.heap[gb227]? = some (.cells #[.int .i64 ((rd_T67 l1 x8_1).f0), .bool ((rd_T67 l1 x8_1).f1)] 67 (0, 0))) := ⟨(by rw [hw]; exact (by (with_reducible repeat (first | refine blk_drewN ?_ _ | refine blk_drew ?_ | refine blk_alloc ?_ _)); refine blk_put (cs := #[.int .i64 ((rd_T67 l1 x8_1).f0), .bool false]) ?_ 1 _ rfl; (with_reducible repeat (first | refine blk_drewN ?_ _ | refine blk_drew ?_ | refine blk_alloc ?_ _)); refine blk_put (cs := #[.int .i64 0, .bool false]) ?_ 0 _ rfl; (with_reducible repeat (first | refine blk_drewN ?_ _ | refine blk_drew ?_ | refine blk_alloc ?_ _)); exact BK227.out))⟩; have n3_ : Aside0 (Kept w w14 (fun k_ => P0_0_ k_)) := ⟨(by rw [hw]; exact (by repeat (first | (with_reducible first | exact HK.out | apply Kept.alloc | apply Kept.drewN | apply Kept.drew | refine Kept.setCell ?_ (.inr GW225.out) _ | refine Kept.setCell ?_ (.inr GW227.out) _) | exact HK.out)))⟩; have n4_ : Aside0 (Below w0.heap.size w0 w14) := ⟨(by rw [hw]; exact (by repeat (first | (with_reducible first | exact HB.out | apply below_alloc | apply pw_below_drewN | apply below_drew1 | refine below_set ?_ GE225.out | refine below_set ?_ GE227.out) | exact HB.out)))⟩; clear hw; clear HO_226000; clear BK225; clear BK227; clear HK; clear HB; have HO_226000 := n0_; have BK225 := n1_; have BK227 := n2_; have HK := n3_; have HB := n4_; clear n0_ n1_ n2_ n3_ n4_; have hcz15_0 : w14.cell? ⟨gb225, 0, none⟩ = some (.slice Ao3 x226000_1.length co3) := (blk_cell BK225.out 0).trans rfl; have hcz15_1 : w14.cell? ⟨gb225, 1, none⟩ = some (.slice A0_1 l0_1.length c0_1) := (blk_cell BK225.out 1).trans rfl; have hfz15_0 := blk_frozen BK225.out 0; have hfz15_1 := blk_frozen BK225.out 1; have hcz16_0 : w14.cell? ⟨gb227, 0, none⟩ = some (.int .i64 ((rd_T67 l1 x8_1).f0)) := (blk_cell BK227.out 0).trans rfl; have hcz16_1 : w14.cell? ⟨gb227, 1, none⟩ = some (.bool ((rd_T67 l1 x8_1).f1)) := (blk_cell BK227.out 1).trans rfl; have hfz16_0 := blk_frozen BK227.out 0; have hfz16_1 := blk_frozen BK227.out 1; have p10 : 0 ≤ (((rd_T67 l1 x8_1).f0) : Int) := of_decide_eq_true (by first | (with_reducible assumption) | assumption); have q10 : (((rd_T67 l1 x8_1).f0) : Int) < ((x226000_1.length : Int) : Int) := of_decide_eq_true (by first | (with_reducible assumption) | assumption); obtain ⟨go10, co10, eo10, gb10, gl10, cl10, HG10⟩ := Kd.R_form HO_226000.out (by omega); (first | cases eo10 | (injection eo10 with ea_ en_ ec_; (first | subst ea_ | (injection ea_ with ea_; subst ea_)); subst ec_; clear en_)); have GB10 := Aside0.mk gb10; have GG10 := Aside0.mk HG10; clear gb10 gl10 HG10; have HMgo10 := Aside0.mk (show (P0_0_ go10 ∨ w.heap.size ≤ go10) from (HO_226000.out.1 _ rfl)); obtain ⟨hx10_0, hf10_0⟩ := Kd.R_celln false HO_226000.out (((rd_T67 l1 x8_1).f0) : Int) p10 q10; replace p10 := eq_true p10; replace q10 := eq_true q10; obtain ⟨hy17_, hz17_⟩ := Kd.R_celln false HO_226000.out (((rd_T67 l1 x8_1).f0) : Int) (of_decide_eq_true (by first | (with_reducible assumption) | assumption)) (of_decide_eq_true (by first | (with_reducible assumption) | assumption)); have HP17 := Kd.R_putg HO_226000.out (((rd_T67 l1 x8_1).f0) : Int) ((rd_T67 l1 x8_1).f1)) | ((with_reducible refine gate_store (t := 4) (p := 18) rfl ?_); refine store_event (t := 4) (p := 18) (v := ?vo_w18) (w1 := (w14.setCell ⟨go10, (((rd_T67 l1 x8_1).f0) : Int).toNat, none⟩ (.bool ((rd_T67 l1 x8_1).f1)))) ?hg ?ho ?hn ?hr ?_; (case ho => rfl); (case hg => rfl); (case hn => rfl); (case hr => first | (go_simp; done) | (go_simp; rfl)); intro w18 hw; have hg : w14.grownBy w18 (some go10) := (by rw [hw]; exact HP17.2); have hp_ : Kd.R Kd.bool 4 w18 w0.heap.size (fun k_ => (P0_0_ k_ ∨ w.heap.size ≤ k_)) (.slice (some ⟨go10, 0, none⟩) x226000_1.length co3) y228 := (by rw [hw, Ny228.out]; exact HP17.1); clear HP17; have n0_ := Aside0.mk (hp_); have n1_ := Aside0.mk (blk_grown (g := gb225) (o := .cells #[.slice (some ⟨go10, 0, none⟩) x226000_1.length co3, .slice A0_1 l0_1.length c0_1] 27 (0, 0)) (by (with_reducible repeat (first | refine blk_drewN ?_ _ | refine blk_drew ?_ | refine blk_alloc ?_ _)); exact BK225.out) hg (Kd.R_ne HO_226000.out BK225.out (by decide))); have n2_ := Aside0.mk (blk_grown (g := gb227) (o := .cells #[.int .i64 ((rd_T67 l1 x8_1).f0), .bool ((rd_T67 l1 x8_1).f1)] 67 (0, 0)) (by (with_reducible repeat (first | refine blk_drewN ?_ _ | refine blk_drew ?_ | refine blk_alloc ?_ _)); exact BK227.out) hg (Kd.R_ne HO_226000.out BK227.out (by decide))); have n3_ := Aside0.mk ((by rw [hw]; exact below_set (HB.out) GB10.out : Below w0.heap.size w0 w18)); have n4_ := Aside0.mk (Kept.of_grown (S := (fun k_ => P0_0_ k_)) hg (by repeat (first | (with_reducible first | exact HK.out | apply Kept.alloc | apply Kept.drewN | apply Kept.drew | refine Kept.setCell ?_ (.inr GW225.out) _ | refine Kept.setCell ?_ (.inr GW227.out) _) | exact HK.out)) (fun k_ e_ => (HO_226000.out.1 k_ e_))); clear HO_226000; clear BK225; clear BK227; clear HB; clear HK; have HO_226000 := n0_; have BK225 := n1_; have BK227 := n2_; have HB := n3_; have HK := n4_; clear n0_ n1_ n2_ n3_ n4_; clear hg hw hp_))
                (try simp only [← hl226000_1])
                go_roundg k1
                case measure => have := HK1.out; omega
                case rel => exact ⟨(wrap64 (x8_1 + 1)), (y228), (by first | rfl | (simp; done) | (simp [*]; done)), H', ⟨by have := HK1.out; omega⟩, ⟨by (try simp only [hl226000_1]); (with_reducible repeat (first | apply Kd.R_alloc | apply Kd.R_drewN | apply Kd.R_drew)); exact HO_226000.out⟩, ⟨by (try simp only [hl226000_1]); (with_reducible repeat (first | refine blk_drewN ?_ _ | refine blk_drew ?_ | refine blk_alloc ?_ _)); exact BK225.out⟩, ⟨by repeat (first | (with_reducible first | exact HK.out | apply Kept.alloc | apply Kept.drewN | apply Kept.drew | refine Kept.setCell ?_ (.inr GW225.out) _ | refine Kept.setCell ?_ (.inr GW227.out) _) | exact HK.out)⟩, ⟨by repeat (first | (with_reducible first | exact HB.out | apply below_alloc | apply pw_below_drewN | apply below_drew1 | refine below_set ?_ GE225.out | refine below_set ?_ GE227.out) | exact HB.out)⟩⟩
              · rw [if_neg c9] at H
                exact absurd H (by simp)
            · rw [if_neg c8] at H
              exact absurd H (by simp)
          · rw [if_neg c7] at H
            exact absurd H (by simp)
        · rw [if_neg c6] at H
          exact absurd H (by simp)
      · rw [if_neg c5] at H
        have c5b0 : decide (x8_1 < (l1.length : Int)) = false := decide_eq_false c5
        (try (have c5b0_hl226000_1 := c5b0; simp only [hl226000_1] at c5b0_hl226000_1))
        clear c5
        obtain rfl := Option.some.inj H
        go_wp2
        first | go_end0 | ((try simp only [Exit.inBlock, Exit.then]); refine bodyPost_ret (results_none rfl _ _ _) rfl ?_)
        exact ⟨by first | rfl | (simp [errW_none, errW_some] <;> rfl) | (simp [*, errW_none, errW_some] <;> rfl), (by first | exact (by (with_reducible repeat (first | apply Kd.R_alloc | apply Kd.R_drewN | apply Kd.R_drew)); exact HO_226000.out) | (simp only [hl226000_1]; exact (by (with_reducible repeat (first | apply Kd.R_alloc | apply Kd.R_drewN | apply Kd.R_drew)); exact HO_226000.out))), by repeat (first | (with_reducible first | exact HB.out | apply below_alloc | apply pw_below_drewN | apply below_drew1 | refine below_set ?_ GE225.out) | exact HB.out), by repeat (first | (with_reducible first | exact HK.out | apply Kept.alloc | apply Kept.drewN | apply Kept.drew | refine Kept.setCell ?_ (.inr GW225.out) _) | exact HK.out)⟩

/-! ### impl_force_w: function 56 -/
def impl_force_w.l0 : Nat → List (S67) → Int → Int → List Bool → List Int → Option (List Bool)
  | 0, _, _, _, _, _ => none
  | k + 1, x6, x7, x8, x226000, x226001 => if x8 < x7 then (if 0 ≤ x8 then (if x8 < (x6.length : Int) then (if 0 ≤ ((rd_T67 x6 x8).f0) then (if ((rd_T67 x6 x8).f0) < (x226000.length : Int) then (impl_force_w.l0 k x6 x7 (wrap64 (x8 + 1)) (x226000.set (((rd_T67 x6 x8).f0) : Int).toNat ((rd_T67 x6 x8).f1)) x226001) else (none)) else (none)) else (none)) else (none)) else (some x226000)
def impl_force_w.f (k : Nat) (l0_0 : List Bool) (l0_1 : List Int) (l1 : List (S67)) : Option (List Bool) := impl_force_w.l0 k l1 (l1.length : Int) 0 l0_0 l0_1
theorem impl_force_w.mono_l : ∀ k, (∀ y0 y1 y2 y3 y4, LeO (impl_force_w.l0 k y0 y1 y2 y3 y4) (impl_force_w.l0 (k + 1) y0 y1 y2 y3 y4))
  | 0 => fun _ _ _ _ _ r h => by simp [impl_force_w.l0] at h
  | k + 1 => by
    have ih0 := impl_force_w.mono_l k
    · intro y0 y1 y2 y3 y4
      unfold impl_force_w.l0
      repeat' first
      | (with_reducible exact ih0 _ _ _ _ _)
      | (with_reducible exact LeO.refl _)
      | (with_reducible exact LeO.none _)
      | (with_reducible refine LeO.ite ?_ ?_)
      | (with_reducible refine LeO.bind ?_ (fun _ => ?_))
      | exact ih0 _ _ _ _ _
      | exact LeO.none _
      | refine LeO.ite ?_ ?_
      | refine LeO.bind ?_ (fun _ => ?_)
theorem impl_force_w.mono : ∀ a0 a1 a2 k, LeO (impl_force_w.f k a0 a1 a2) (impl_force_w.f (k + 1) a0 a1 a2) := by
  intro a0 a1 a2 k
  have ih0 := impl_force_w.mono_l k
  unfold impl_force_w.f
  repeat' first
      | (with_reducible exact ih0 _ _ _ _ _)
      | (with_reducible exact LeO.refl _)
      | (with_reducible exact LeO.none _)
      | (with_reducible refine LeO.ite ?_ ?_)
      | (with_reducible refine LeO.bind ?_ (fun _ => ?_))
      | exact ih0 _ _ _ _ _
      | exact LeO.none _
      | refine LeO.ite ?_ ?_
      | refine LeO.bind ?_ (fun _ => ?_)
set_option maxHeartbeats 8000000 in
set_option maxRecDepth 100000 in
theorem impl_force_w.calls (k : Nat) (P0_0_ : Nat → Prop) (u9000_ : Value) (l0_0 : List Bool) (A0_1 : Option Addr) (c0_1 : Nat) (l0_1 : List Int) (A1 : Option Addr) (c1 : Nat) (l1 : List (S67)) (r : List Bool) (w0 w : World) (hB : Below w0.heap.size w0 w) (ho0_0 : Kd.W Kd.bool 4 w w0.heap.size P0_0_ u9000_ l0_0) (hr0_1 : ∀ W_, Kept w W_ (fun k_ => P0_0_ k_) → Kd.C (Kd.int .i64) W_ A0_1 l0_1.length l0_1) (hc0_1 : l0_1.length ≤ c0_1) (hr1 : ∀ W_, Kept w W_ (fun k_ => P0_0_ k_) → Kd.C k67 W_ A1 l1.length l1) (hc1 : l1.length ≤ c1) (h : impl_force_w.f k l0_0 l0_1 l1 = some r) :
    Calls Try.prog 56 #[.agg #[u9000_, .slice A0_1 l0_1.length c0_1], .slice A1 l1.length c1] w fun e w' => e = .returned (.tuple #[]) ∧ Kd.W Kd.bool 4 w' w0.heap.size (fun k_ => (P0_0_ k_ ∨ w.heap.size ≤ k_)) u9000_ r ∧ Below w0.heap.size w0 w' ∧ Kept w w' (fun k_ => P0_0_ k_) := by
  have hu27 := Try.underlying27
  have hu67 := Try.underlying67
  have HO0_0 := Aside0.mk (show Kd.W Kd.bool 4 w w0.heap.size (fun k_ => (P0_0_ k_ ∨ w.heap.size ≤ k_)) u9000_ l0_0 from Kd.Wr_mono ho0_0 (fun k_ hk => (.inl hk)))
  have HR0_1 := Aside0.mk hr0_1
  have HC0_1 := Aside0.mk hc0_1
  clear hr0_1 hc0_1
  have HR1 := Aside0.mk hr1
  have HC1 := Aside0.mk hc1
  clear hr1 hc1
  have HK := Aside0.mk (Kept.refl w (fun k_ => P0_0_ k_))
  have HW0 := Aside0.mk hB.size
  have HB := Aside0.mk hB
  clear hB
  have H : (impl_force_w.l0 k l1 (l1.length : Int) 0 l0_0 l0_1) = some r := h
  clear h
  have H' := Aside0.mk H
  clear H
  obtain ⟨Ao3, co3, eo3⟩ := Kd.Wr_slice HO0_0.out
  subst eo3
  go_enter Try.func56, Try.ntmps56
  go_wp2_with (first | ((with_reducible refine gate_dst (N := 2) rfl ?_); refine box_event ?hg (N := 2) ?hd (cs := #[.slice Ao3 l0_0.length co3, .slice A0_1 l0_1.length c0_1]) (t := 27) ?hr ?_; (case hd => rfl); (case hg => rfl); (case hr => first | (go_simp; done) | (go_simp; rfl)); intro gb225 hg w4 hbox hb; have n0_ := Aside0.mk (Kd.W_below (by (with_reducible repeat (first | apply Kd.Wr_alloc | apply Kd.Wr_drewN | apply Kd.Wr_drew)); exact HO0_0.out) hb); have n1_ := Aside0.mk (Kept.below (S := (fun k_ => P0_0_ k_)) (by repeat (first | (with_reducible first | exact HK.out | apply Kept.alloc | apply Kept.drewN | apply Kept.drew) | exact HK.out)) hb); have n2_ := Aside0.mk (below_step (by repeat (first | (with_reducible first | exact HB.out | apply below_alloc | apply pw_below_drewN | apply below_drew1) | exact HB.out)) hb); have n3_ := Aside0.mk (hbox); have n4_ := Aside0.mk ((by rw [hg]; exact (by first | exact HK.out.1 | exact (show Kept w _ (fun k_ => P0_0_ k_) from by repeat (first | (with_reducible first | exact HK.out | apply Kept.alloc | apply Kept.drewN | apply Kept.drew) | exact HK.out)).1) : w.heap.size ≤ gb225)); have n5_ := Aside0.mk ((by rw [hg]; exact (below_size (by repeat (first | (with_reducible first | exact HB.out | apply below_alloc | apply pw_below_drewN | apply below_drew1) | exact HB.out))) : w0.heap.size ≤ gb225)); clear HO0_0; clear HK; clear HB; have HO0_0 := n0_; have HK := n1_; have HB := n2_; have BK225 := n3_; have GW225 := n4_; have GE225 := n5_; clear n0_ n1_ n2_ n3_ n4_ n5_; clear hb hbox hg))
  go_loopg [8] k (fun kq v8 w' => ∃ (x8_1 : Int) (x226000_1 : List Bool), v8 = .int .i64 x8_1 ∧ Aside0 (impl_force_w.l0 kq l1 (l1.length : Int) x8_1 x226000_1 l0_1 = some r) ∧ Aside0 (kq ≤ k) ∧ Aside0 (Kd.W Kd.bool 4 w' w0.heap.size (fun k_ => (P0_0_ k_ ∨ w.heap.size ≤ k_)) (.slice Ao3 l0_0.length co3) x226000_1) ∧ Aside0 (w'.heap[gb225]? = some (.cells #[(.slice Ao3 l0_0.length co3), (.slice A0_1 l0_1.length c0_1)] 27 (0, 0))) ∧ Aside0 (Kept w w' (fun k_ => P0_0_ k_)) ∧ Aside0 (Below w0.heap.size w0 w'))
  case atStart => exact ⟨(0), (l0_0), (by first | rfl | (simp; done) | (simp [*]; done)), H', ⟨Nat.le_refl _⟩, ⟨by (with_reducible repeat (first | apply Kd.Wr_alloc | apply Kd.Wr_drewN | apply Kd.Wr_drew)); exact HO0_0.out⟩, ⟨by (with_reducible repeat (first | refine blk_drewN ?_ _ | refine blk_drew ?_ | refine blk_alloc ?_ _)); exact BK225.out⟩, ⟨by repeat (first | (with_reducible first | exact HK.out | apply Kept.alloc | apply Kept.drewN | apply Kept.drew | refine Kept.setCell ?_ (.inr GW225.out) _) | exact HK.out)⟩, ⟨by repeat (first | (with_reducible first | exact HB.out | apply below_alloc | apply pw_below_drewN | apply below_drew1 | refine below_set ?_ GE225.out) | exact HB.out)⟩⟩
  case round =>
    clear H'
    try clear c1
    try clear p2
    obtain ⟨x8_1, x226000_1, rfl, HA, HK1, HO_226000, BK225, HK, HB⟩ := hrel
    have hl226000_1 := (Kd.Wr_reads' HO_226000.out).1
    rw [hl226000_1] at HO_226000
    (try simp only [hl226000_1])
    (try simp only [hl226000_1] at BK225)
    cases gk with
    | zero => exact absurd HA.out (by simp [impl_force_w.l0])
    | succ k1 =>
      have H := HA.out
      clear HA
      simp only [impl_force_w.l0] at H
      by_cases c5 : x8_1 < (l1.length : Int)
      · rw [if_pos c5] at H
        have c5b0 : decide (x8_1 < (l1.length : Int)) = true := decide_eq_true c5
        (try (have c5b0_hl226000_1 := c5b0; simp only [hl226000_1] at c5b0_hl226000_1))
        clear c5
        by_cases c6 : 0 ≤ x8_1
        · rw [if_pos c6] at H
          have c6b0 : decide (0 ≤ x8_1) = true := decide_eq_true c6
          clear c6
          by_cases c7 : x8_1 < (l1.length : Int)
          · rw [if_pos c7] at H
            have c7b0 : decide (x8_1 < (l1.length : Int)) = true := decide_eq_true c7
            (try (have c7b0_hl226000_1 := c7b0; simp only [hl226000_1] at c7b0_hl226000_1))
            clear c7
            by_cases c8 : 0 ≤ ((rd_T67 l1 x8_1).f0)
            · rw [if_pos c8] at H
              have c8b0 : decide (0 ≤ ((rd_T67 l1 x8_1).f0)) = true := decide_eq_true c8
              clear c8
              by_cases c9 : ((rd_T67 l1 x8_1).f0) < (x226000_1.length : Int)
              · rw [if_pos c9] at H
                have c9b0 : decide (((rd_T67 l1 x8_1).f0) < (x226000_1.length : Int)) = true := decide_eq_true c9
                (try (have c9b0_hl226000_1 := c9b0; simp only [hl226000_1] at c9b0_hl226000_1))
                clear c9
                obtain ⟨y228, hy228⟩ : ∃ y_ : List Bool, y_ = (x226000_1.set (((rd_T67 l1 x8_1).f0) : Int).toNat ((rd_T67 l1 x8_1).f1)) := ⟨_, rfl⟩
                replace H : (impl_force_w.l0 k1 l1 (l1.length : Int) (wrap64 (x8_1 + 1)) y228 l0_1) = some r := by first | (rw [hy228]; with_reducible exact H) | (have H2_ := (Option.bind_some _ _).symm.trans H; rw [hy228]; with_reducible exact H2_) | (have H2_ := (Option.bind_some _ _).symm.trans H; with_reducible exact H2_) | with_reducible exact H | (rw [hy228]; exact H) | exact H
                have Ny228 := Aside0.mk hy228
                clear hy228
                have H' := Aside0.mk H
                clear H
                have p226 : 0 ≤ (x8_1 : Int) := of_decide_eq_true (by first | (with_reducible assumption) | assumption)
                have q226 : x8_1 < (l1.length : Int) := of_decide_eq_true (by first | (with_reducible assumption) | assumption)
                obtain ⟨ad226, e226, hx226_0, hx226_1⟩ := at_T67 (Kd.C_kept_now HR1.out HK.out) x8_1 p226 q226
                cases e226
                replace p226 := eq_true p226
                replace q226 := eq_true q226
                go_wp2_with (first | ((with_reducible refine gate_dst (N := 5) rfl ?_); refine box_event ?hg (N := 5) ?hd (cs := #[.int .i64 0, .bool false]) (t := 67) ?hr ?_; (case hd => rfl); (case hg => rfl); (case hr => first | (go_simp; done) | (go_simp; rfl)); intro gb227 hg w11 hbox hb; have n0_ := Aside0.mk (Kd.W_below (by (with_reducible repeat (first | apply Kd.Wr_alloc | apply Kd.Wr_drewN | apply Kd.Wr_drew)); exact HO_226000.out) hb); have n1_ := Aside0.mk (blk_below (g := gb225) (o := .cells #[.slice Ao3 x226000_1.length co3, .slice A0_1 l0_1.length c0_1] 27 (0, 0)) (by (with_reducible repeat (first | refine blk_drewN ?_ _ | refine blk_drew ?_ | refine blk_alloc ?_ _)); exact BK225.out) hb); have n2_ := Aside0.mk (Kept.below (S := (fun k_ => P0_0_ k_)) (by repeat (first | (with_reducible first | exact HK.out | apply Kept.alloc | apply Kept.drewN | apply Kept.drew | refine Kept.setCell ?_ (.inr GW225.out) _) | exact HK.out)) hb); have n3_ := Aside0.mk (below_step (by repeat (first | (with_reducible first | exact HB.out | apply below_alloc | apply pw_below_drewN | apply below_drew1 | refine below_set ?_ GE225.out) | exact HB.out)) hb); have n4_ := Aside0.mk (hbox); have n5_ := Aside0.mk ((by rw [hg]; exact (by first | exact HK.out.1 | exact (show Kept w _ (fun k_ => P0_0_ k_) from by repeat (first | (with_reducible first | exact HK.out | apply Kept.alloc | apply Kept.drewN | apply Kept.drew | refine Kept.setCell ?_ (.inr GW225.out) _) | exact HK.out)).1) : w.heap.size ≤ gb227)); have n6_ := Aside0.mk ((by rw [hg]; exact (below_size (by repeat (first | (with_reducible first | exact HB.out | apply below_alloc | apply pw_below_drewN | apply below_drew1 | refine below_set ?_ GE225.out) | exact HB.out))) : w0.heap.size ≤ gb227)); have n7_ := Aside0.mk ((by rw [hg]; exact Nat.ne_of_lt (blk_lt (g := gb225) (o := .cells #[.slice Ao3 x226000_1.length co3, .slice A0_1 l0_1.length c0_1] 27 (0, 0)) (by (with_reducible repeat (first | refine blk_drewN ?_ _ | refine blk_drew ?_ | refine blk_alloc ?_ _)); exact BK225.out)) : gb225 ≠ gb227)); have n8_ := Aside0.mk ((by rw [hg]; exact Nat.ne_of_gt (blk_lt (g := gb225) (o := .cells #[.slice Ao3 x226000_1.length co3, .slice A0_1 l0_1.length c0_1] 27 (0, 0)) (by (with_reducible repeat (first | refine blk_drewN ?_ _ | refine blk_drew ?_ | refine blk_alloc ?_ _)); exact BK225.out)) : gb227 ≠ gb225)); clear HO_226000; clear BK225; clear HK; clear HB; have HO_226000 := n0_; have BK225 := n1_; have HK := n2_; have HB := n3_; have BK227 := n4_; have GW227 := n5_; have GE227 := n6_; have NB225_227 := n7_; have NB227_225 := n8_; clear n0_ n1_ n2_ n3_ n4_ n5_ n6_ n7_ n8_; clear hb hbox hg; have hnb12 := NB227_225.out; have hnc12 := NB225_227.out; have hcz13_0 : w11.cell? ⟨gb227, 0, none⟩ = some (.int .i64 0) := (blk_cell BK227.out 0).trans rfl; have hcz13_1 : w11.cell? ⟨gb227, 1, none⟩ = some (.bool false) := (blk_cell BK227.out 1).trans rfl; have hfz13_0 := blk_frozen BK227.out 0; have hfz13_1 := blk_frozen BK227.out 1) | ((with_reducible refine gate_store (t := 67) (p := 5) rfl ?_); refine store_event (t := 67) (p := 5) (v := ?vo_w14) (w1 := ((w11.setCell ⟨gb227, 0, none⟩ (.int .i64 ((rd_T67 l1 x8_1).f0))).setCell ⟨gb227, 1, none⟩ (.bool ((rd_T67 l1 x8_1).f1)))) ?hg ?ho ?hn ?hr ?_; (case ho => rfl); (case hg => rfl); (case hn => rfl); (case hr => first | (go_simp; done) | (go_simp; rfl)); intro w14 hw; have n0_ : Aside0 (Kd.W Kd.bool 4 w14 w0.heap.size (fun k_ => (P0_0_ k_ ∨ w.heap.size ≤ k_)) (.slice Ao3 x226000_1.length co3) x226000_1) := ⟨(by rw [hw]; exact (by (with_reducible repeat (first | apply Kd.Wr_alloc | apply Kd.Wr_drewN | apply Kd.Wr_drew)); exact Kd.Wr_mono (Kd.W_far (p := ⟨gb227, 1, none⟩) (Kd.W_far (p := ⟨gb227, 0, none⟩) (Kd.W_types HO_226000.out BK227.out (by decide)) (fun _ hk => by first | exact hk.2 | exact trivial) (.int .i64 ((rd_T67 l1 x8_1).f0))) (fun _ hk => by first | exact hk.2 | exact trivial) (.bool ((rd_T67 l1 x8_1).f1))) (fun _ hk => hk.1)))⟩; have n1_ : Aside0 (w14.heap[gb225]? = some (.cells #[.slice Ao3 x226000_1.length co3, .slice A0_1 l0_1.length c0_1] 27 (0, 0))) := ⟨(by rw [hw]; exact (by (with_reducible repeat (first | refine blk_drewN ?_ _ | refine blk_drew ?_ | refine blk_alloc ?_ _)); refine blk_far ?_ NB225_227.out _; (with_reducible repeat (first | refine blk_drewN ?_ _ | refine blk_drew ?_ | refine blk_alloc ?_ _)); refine blk_far ?_ NB225_227.out _; (with_reducible repeat (first | refine blk_drewN ?_ _ | refine blk_drew ?_ | refine blk_alloc ?_ _)); exact BK225.out))⟩; have n2_ : Aside0 (w14.heap[gb227]? = some (.cells #[.int .i64 ((rd_T67 l1 x8_1).f0), .bool ((rd_T67 l1 x8_1).f1)] 67 (0, 0))) := ⟨(by rw [hw]; exact (by (with_reducible repeat (first | refine blk_drewN ?_ _ | refine blk_drew ?_ | refine blk_alloc ?_ _)); refine blk_put (cs := #[.int .i64 ((rd_T67 l1 x8_1).f0), .bool false]) ?_ 1 _ rfl; (with_reducible repeat (first | refine blk_drewN ?_ _ | refine blk_drew ?_ | refine blk_alloc ?_ _)); refine blk_put (cs := #[.int .i64 0, .bool false]) ?_ 0 _ rfl; (with_reducible repeat (first | refine blk_drewN ?_ _ | refine blk_drew ?_ | refine blk_alloc ?_ _)); exact BK227.out))⟩; have n3_ : Aside0 (Kept w w14 (fun k_ => P0_0_ k_)) := ⟨(by rw [hw]; exact (by repeat (first | (with_reducible first | exact HK.out | apply Kept.alloc | apply Kept.drewN | apply Kept.drew | refine Kept.setCell ?_ (.inr GW225.out) _ | refine Kept.setCell ?_ (.inr GW227.out) _) | exact HK.out)))⟩; have n4_ : Aside0 (Below w0.heap.size w0 w14) := ⟨(by rw [hw]; exact (by repeat (first | (with_reducible first | exact HB.out | apply below_alloc | apply pw_below_drewN | apply below_drew1 | refine below_set ?_ GE225.out | refine below_set ?_ GE227.out) | exact HB.out)))⟩; clear hw; clear HO_226000; clear BK225; clear BK227; clear HK; clear HB; have HO_226000 := n0_; have BK225 := n1_; have BK227 := n2_; have HK := n3_; have HB := n4_; clear n0_ n1_ n2_ n3_ n4_; have hcz15_0 : w14.cell? ⟨gb225, 0, none⟩ = some (.slice Ao3 x226000_1.length co3) := (blk_cell BK225.out 0).trans rfl; have hcz15_1 : w14.cell? ⟨gb225, 1, none⟩ = some (.slice A0_1 l0_1.length c0_1) := (blk_cell BK225.out 1).trans rfl; have hfz15_0 := blk_frozen BK225.out 0; have hfz15_1 := blk_frozen BK225.out 1; have hcz16_0 : w14.cell? ⟨gb227, 0, none⟩ = some (.int .i64 ((rd_T67 l1 x8_1).f0)) := (blk_cell BK227.out 0).trans rfl; have hcz16_1 : w14.cell? ⟨gb227, 1, none⟩ = some (.bool ((rd_T67 l1 x8_1).f1)) := (blk_cell BK227.out 1).trans rfl; have hfz16_0 := blk_frozen BK227.out 0; have hfz16_1 := blk_frozen BK227.out 1; have p10 : 0 ≤ (((rd_T67 l1 x8_1).f0) : Int) := of_decide_eq_true (by first | (with_reducible assumption) | assumption); have q10 : (((rd_T67 l1 x8_1).f0) : Int) < ((x226000_1.length : Int) : Int) := of_decide_eq_true (by first | (with_reducible assumption) | assumption); obtain ⟨go10, co10, eo10, gb10, gl10, cl10, HG10⟩ := Kd.Wr_form HO_226000.out (by omega); (first | cases eo10 | (injection eo10 with ea_ en_ ec_; (first | subst ea_ | (injection ea_ with ea_; subst ea_)); subst ec_; clear en_)); have GB10 := Aside0.mk gb10; have GG10 := Aside0.mk HG10; clear gb10 gl10 HG10; have HMgo10 := Aside0.mk (show (P0_0_ go10 ∨ w.heap.size ≤ go10) from (HO_226000.out.1 _ rfl)); obtain ⟨hx10_0, hf10_0⟩ := Kd.Wr_celln false HO_226000.out (((rd_T67 l1 x8_1).f0) : Int) p10 q10; replace p10 := eq_true p10; replace q10 := eq_true q10; obtain ⟨hy17_, hz17_⟩ := Kd.Wr_celln false HO_226000.out (((rd_T67 l1 x8_1).f0) : Int) (of_decide_eq_true (by first | (with_reducible assumption) | assumption)) (of_decide_eq_true (by first | (with_reducible assumption) | assumption)); have HP17 := Kd.Wr_putg HO_226000.out (((rd_T67 l1 x8_1).f0) : Int) ((rd_T67 l1 x8_1).f1)) | ((with_reducible refine gate_store (t := 4) (p := 18) rfl ?_); refine store_event (t := 4) (p := 18) (v := ?vo_w18) (w1 := (w14.setCell ⟨go10, (((rd_T67 l1 x8_1).f0) : Int).toNat, none⟩ (.bool ((rd_T67 l1 x8_1).f1)))) ?hg ?ho ?hn ?hr ?_; (case ho => rfl); (case hg => rfl); (case hn => rfl); (case hr => first | (go_simp; done) | (go_simp; rfl)); intro w18 hw; have hg : w14.grownBy w18 (some go10) := (by rw [hw]; exact HP17.2); have hp_ : Kd.W Kd.bool 4 w18 w0.heap.size (fun k_ => (P0_0_ k_ ∨ w.heap.size ≤ k_)) (.slice (some ⟨go10, 0, none⟩) x226000_1.length co3) y228 := (by rw [hw, Ny228.out]; exact HP17.1); clear HP17; have n0_ := Aside0.mk (hp_); have n1_ := Aside0.mk (blk_grown (g := gb225) (o := .cells #[.slice (some ⟨go10, 0, none⟩) x226000_1.length co3, .slice A0_1 l0_1.length c0_1] 27 (0, 0)) (by (with_reducible repeat (first | refine blk_drewN ?_ _ | refine blk_drew ?_ | refine blk_alloc ?_ _)); exact BK225.out) hg (Kd.W_ne HO_226000.out BK225.out (by decide))); have n2_ := Aside0.mk (blk_grown (g := gb227) (o := .cells #[.int .i64 ((rd_T67 l1 x8_1).f0), .bool ((rd_T67 l1 x8_1).f1)] 67 (0, 0)) (by (with_reducible repeat (first | refine blk_drewN ?_ _ | refine blk_drew ?_ | refine blk_alloc ?_ _)); exact BK227.out) hg (Kd.W_ne HO_226000.out BK227.out (by decide))); have n3_ := Aside0.mk ((by rw [hw]; exact below_set (HB.out) GB10.out : Below w0.heap.size w0 w18)); have n4_ := Aside0.mk (Kept.of_grown (S := (fun k_ => P0_0_ k_)) hg (by repeat (first | (with_reducible first | exact HK.out | apply Kept.alloc | apply Kept.drewN | apply Kept.drew | refine Kept.setCell ?_ (.inr GW225.out) _ | refine Kept.setCell ?_ (.inr GW227.out) _) | exact HK.out)) (fun k_ e_ => (HO_226000.out.1 k_ e_))); clear HO_226000; clear BK225; clear BK227; clear HB; clear HK; have HO_226000 := n0_; have BK225 := n1_; have BK227 := n2_; have HB := n3_; have HK := n4_; clear n0_ n1_ n2_ n3_ n4_; clear hg hw hp_))
                (try simp only [← hl226000_1])
                go_roundg k1
                case measure => have := HK1.out; omega
                case rel => exact ⟨(wrap64 (x8_1 + 1)), (y228), (by first | rfl | (simp; done) | (simp [*]; done)), H', ⟨by have := HK1.out; omega⟩, ⟨by (try simp only [hl226000_1]); (with_reducible repeat (first | apply Kd.Wr_alloc | apply Kd.Wr_drewN | apply Kd.Wr_drew)); exact HO_226000.out⟩, ⟨by (try simp only [hl226000_1]); (with_reducible repeat (first | refine blk_drewN ?_ _ | refine blk_drew ?_ | refine blk_alloc ?_ _)); exact BK225.out⟩, ⟨by repeat (first | (with_reducible first | exact HK.out | apply Kept.alloc | apply Kept.drewN | apply Kept.drew | refine Kept.setCell ?_ (.inr GW225.out) _ | refine Kept.setCell ?_ (.inr GW227.out) _) | exact HK.out)⟩, ⟨by repeat (first | (with_reducible first | exact HB.out | apply below_alloc | apply pw_below_drewN | apply below_drew1 | refine below_set ?_ GE225.out | refine below_set ?_ GE227.out) | exact HB.out)⟩⟩
              · rw [if_neg c9] at H
                exact absurd H (by simp)
            · rw [if_neg c8] at H
              exact absurd H (by simp)
          · rw [if_neg c7] at H
            exact absurd H (by simp)
        · rw [if_neg c6] at H
          exact absurd H (by simp)
      · rw [if_neg c5] at H
        have c5b0 : decide (x8_1 < (l1.length : Int)) = false := decide_eq_false c5
        (try (have c5b0_hl226000_1 := c5b0; simp only [hl226000_1] at c5b0_hl226000_1))
        clear c5
        obtain rfl := Option.some.inj H
        go_wp2
        first | go_end0 | ((try simp only [Exit.inBlock, Exit.then]); refine bodyPost_ret (results_none rfl _ _ _) rfl ?_)
        exact ⟨by first | rfl | (simp [errW_none, errW_some] <;> rfl) | (simp [*, errW_none, errW_some] <;> rfl), (by first | exact (by (with_reducible repeat (first | apply Kd.Wr_alloc | apply Kd.Wr_drewN | apply Kd.Wr_drew)); exact HO_226000.out) | (simp only [hl226000_1]; exact (by (with_reducible repeat (first | apply Kd.Wr_alloc | apply Kd.Wr_drewN | apply Kd.Wr_drew)); exact HO_226000.out))), by repeat (first | (with_reducible first | exact HB.out | apply below_alloc | apply pw_below_drewN | apply below_drew1 | refine below_set ?_ GE225.out) | exact HB.out), by repeat (first | (with_reducible first | exact HK.out | apply Kept.alloc | apply Kept.drewN | apply Kept.drew | refine Kept.setCell ?_ (.inr GW225.out) _) | exact HK.out)⟩

/-! ### impl_ApplyForces: function 25 -/
def impl_ApplyForces.j0 : Nat → List (S67) → Bool → List Bool → List Int → Option (List Bool × List Int)
  | 0, _, _, _, _ => none
  | k + 1, x1, x16, x230000, x230001 => if x16 = true then (some (([] : List Bool), ([] : List Int))) else ((impl_Image_copyOf.f x230000 x230001).bind fun bt233 => ((impl_force_w.f k bt233.1 bt233.2 x1).bind fun t240 => (some (t240, bt233.2))))
def impl_ApplyForces.f (k : Nat) (l0_0 : List Bool) (l0_1 : List Int) (l1 : List (S67)) : Option (List Bool × List Int) := (impl_ImageValid.f l0_0 l0_1).bind fun t231 => (if t231 = true then ((impl_ForcesValid.f l1 (l0_0.length : Int)).bind fun t232 => (impl_ApplyForces.j0 k l1 (!t232) l0_0 l0_1)) else (impl_ApplyForces.j0 k l1 true l0_0 l0_1))
theorem impl_ApplyForces.mono_l : ∀ k, (∀ y0 y1 y2 y3, LeO (impl_ApplyForces.j0 k y0 y1 y2 y3) (impl_ApplyForces.j0 (k + 1) y0 y1 y2 y3))
  | 0 => fun _ _ _ _ r h => by simp [impl_ApplyForces.j0] at h
  | k + 1 => by
    have ih0 := impl_ApplyForces.mono_l k
    · intro y0 y1 y2 y3
      unfold impl_ApplyForces.j0
      repeat' first
      | (with_reducible exact ih0 _ _ _ _)
      | (with_reducible exact impl_force_w.mono _ _ _ _)
      | (with_reducible exact LeO.refl _)
      | (with_reducible exact LeO.none _)
      | (with_reducible refine LeO.ite ?_ ?_)
      | (with_reducible refine LeO.bind ?_ (fun _ => ?_))
      | exact ih0 _ _ _ _
      | exact impl_force_w.mono _ _ _ _
      | exact LeO.none _
      | refine LeO.ite ?_ ?_
      | refine LeO.bind ?_ (fun _ => ?_)
theorem impl_ApplyForces.mono : ∀ a0 a1 a2 k, LeO (impl_ApplyForces.f k a0 a1 a2) (impl_ApplyForces.f (k + 1) a0 a1 a2) := by
  intro a0 a1 a2 k
  have ih0 := impl_ApplyForces.mono_l k
  unfold impl_ApplyForces.f
  repeat' first
      | (with_reducible exact ih0 _ _ _ _)
      | (with_reducible exact impl_force_w.mono _ _ _ _)
      | (with_reducible exact LeO.refl _)
      | (with_reducible exact LeO.none _)
      | (with_reducible refine LeO.ite ?_ ?_)
      | (with_reducible refine LeO.bind ?_ (fun _ => ?_))
      | exact ih0 _ _ _ _
      | exact impl_force_w.mono _ _ _ _
      | exact LeO.none _
      | refine LeO.ite ?_ ?_
      | refine LeO.bind ?_ (fun _ => ?_)
set_option maxHeartbeats 8000000 in
set_option maxRecDepth 100000 in
theorem impl_ApplyForces.calls (k : Nat) (A0_0 : Option Addr) (c0_0 : Nat) (l0_0 : List Bool) (A0_1 : Option Addr) (c0_1 : Nat) (l0_1 : List Int) (A1 : Option Addr) (c1 : Nat) (l1 : List (S67)) (r1 : List Bool) (r2 : List Int) (w : World) (hr0_0 : Kd.C Kd.bool w A0_0 l0_0.length l0_0) (hc0_0 : l0_0.length ≤ c0_0) (hr0_1 : Kd.C (Kd.int .i64) w A0_1 l0_1.length l0_1) (hc0_1 : l0_1.length ≤ c0_1) (hr1 : Kd.C k67 w A1 l1.length l1) (hc1 : l1.length ≤ c1) (h : impl_ApplyForces.f k l0_0 l0_1 l1 = some (r1, r2)) :
    Calls Try.prog 25 #[.agg #[.slice A0_0 l0_0.length c0_0, .slice A0_1 l0_1.length c0_1], .slice A1 l1.length c1] w fun e w' => ∃ v0_ v1_ : Value, e = .returned (.agg #[v0_, v1_]) ∧ Kd.W Kd.bool 4 w' w.heap.size (fun _ => True) v0_ r1 ∧ Kd.W (Kd.int .i64) 3 w' w.heap.size (fun _ => True) v1_ r2 ∧ Below w.heap.size w w' := by
  have hu27 := Try.underlying27
  have HR0_0 := Aside0.mk hr0_0
  have HC0_0 := Aside0.mk hc0_0
  clear hr0_0 hc0_0
  have HR0_1 := Aside0.mk hr0_1
  have HC0_1 := Aside0.mk hc0_1
  clear hr0_1 hc0_1
  have HR1 := Aside0.mk hr1
  have HC1 := Aside0.mk hc1
  clear hr1 hc1
  have HB := Aside0.mk (Below.refl w.heap.size w)
  have H : ((impl_ImageValid.f l0_0 l0_1).bind fun t231 => (if t231 = true then ((impl_ForcesValid.f l1 (l0_0.length : Int)).bind fun t232 => (impl_ApplyForces.j0 k l1 (!t232) l0_0 l0_1)) else (impl_ApplyForces.j0 k l1 true l0_0 l0_1))) = some (r1, r2) := h
  clear h
  have HC3 := Aside0.mk H
  clear H
  go_enter Try.func25, Try.ntmps25
  go_upto_region 1 with (first | ((with_reducible refine gate_dst (N := 2) rfl ?_); (try (refine gate_guard (by rfl) ?_; dsimp only)); refine box_event ?hg (N := 2) ?hd (cs := #[.slice A0_0 l0_0.length c0_0, .slice A0_1 l0_1.length c0_1]) (t := 27) ?hr ?_; (case hd => rfl); (case hg => rfl); (case hr => first | (go_simp; done) | (go_simp; rfl)); intro gb229 hg w4 hbox hb; have n0_ := Aside0.mk (below_step (by repeat (first | (with_reducible first | exact HB.out | apply below_alloc | apply pw_below_drewN | apply below_drew1) | exact HB.out)) hb); have n1_ := Aside0.mk (hbox); have n2_ := Aside0.mk ((by rw [hg]; exact (below_size (by repeat (first | (with_reducible first | exact HB.out | apply below_alloc | apply pw_below_drewN | apply below_drew1) | exact HB.out))) : w.heap.size ≤ gb229)); have n3_ := Aside0.mk ((by rw [hg]; exact (below_size (by repeat (first | (with_reducible first | exact HB.out | apply below_alloc | apply pw_below_drewN | apply below_drew1) | exact HB.out))) : w.heap.size ≤ gb229)); clear HB; have HB := n0_; have BK229 := n1_; have GW229 := n2_; have GE229 := n3_; clear n0_ n1_ n2_ n3_; clear hb hbox hg) | ((with_reducible refine gate_dst (N := 4) rfl ?_); (try (refine gate_guard (by rfl) ?_; dsimp only)); refine box_event ?hg (N := 4) ?hd (cs := #[.slice none 0 0, .slice none 0 0]) (t := 27) ?hr ?_; (case hd => rfl); (case hg => rfl); (case hr => first | (go_simp; done) | (go_simp; rfl)); intro gb230 hg w5 hbox hb; have n0_ := Aside0.mk (blk_below (g := gb229) (o := .cells #[.slice A0_0 l0_0.length c0_0, .slice A0_1 l0_1.length c0_1] 27 (0, 0)) (by (with_reducible repeat (first | refine blk_drewN ?_ _ | refine blk_drew ?_ | refine blk_alloc ?_ _)); exact BK229.out) hb); have n1_ := Aside0.mk (below_step (by repeat (first | (with_reducible first | exact HB.out | apply below_alloc | apply pw_below_drewN | apply below_drew1 | refine below_set ?_ GE229.out) | exact HB.out)) hb); have n2_ := Aside0.mk (hbox); have n3_ := Aside0.mk ((by rw [hg]; exact (below_size (by repeat (first | (with_reducible first | exact HB.out | apply below_alloc | apply pw_below_drewN | apply below_drew1 | refine below_set ?_ GE229.out) | exact HB.out))) : w.heap.size ≤ gb230)); have n4_ := Aside0.mk ((by rw [hg]; exact (below_size (by repeat (first | (with_reducible first | exact HB.out | apply below_alloc | apply pw_below_drewN | apply below_drew1 | refine below_set ?_ GE229.out) | exact HB.out))) : w.heap.size ≤ gb230)); have n5_ := Aside0.mk ((by rw [hg]; exact Nat.ne_of_lt (blk_lt (g := gb229) (o := .cells #[.slice A0_0 l0_0.length c0_0, .slice A0_1 l0_1.length c0_1] 27 (0, 0)) (by (with_reducible repeat (first | refine blk_drewN ?_ _ | refine blk_drew ?_ | refine blk_alloc ?_ _)); exact BK229.out)) : gb229 ≠ gb230)); have n6_ := Aside0.mk ((by rw [hg]; exact Nat.ne_of_gt (blk_lt (g := gb229) (o := .cells #[.slice A0_0 l0_0.length c0_0, .slice A0_1 l0_1.length c0_1] 27 (0, 0)) (by (with_reducible repeat (first | refine blk_drewN ?_ _ | refine blk_drew ?_ | refine blk_alloc ?_ _)); exact BK229.out)) : gb230 ≠ gb229)); clear BK229; clear HB; have BK229 := n0_; have HB := n1_; have BK230 := n2_; have GW230 := n3_; have GE230 := n4_; have NB229_230 := n5_; have NB230_229 := n6_; clear n0_ n1_ n2_ n3_ n4_ n5_ n6_; clear hb hbox hg))
  (try simp only [Act.put, List.setIfInBounds_toArray, List.set_cons_zero, List.set_cons_succ])
  go_cut [16] (fun v16 wc => ∃ (kq : Nat) (x16_2 : Bool), v16 = .bool x16_2 ∧ Aside0 (impl_ApplyForces.j0 kq l1 x16_2 l0_0 l0_1 = some (r1, r2)) ∧ Aside0 (kq ≤ k) ∧ Aside0 (wc.heap[gb229]? = some (.cells #[(.slice A0_0 l0_0.length c0_0), (.slice A0_1 l0_1.length c0_1)] 27 (0, 0))) ∧ Aside0 (wc.heap[gb230]? = some (.cells #[(.slice none 0 0), (.slice none 0 0)] 27 (0, 0))) ∧ Aside0 (Below w.heap.size w wc))
  case first =>
    have H := HC3.out
    clear HC3
    replace H := Option.bind_eq_some_iff.mp H
    obtain ⟨t231, A60, H⟩ := H
    replace H : (if t231 = true then ((impl_ForcesValid.f l1 (l0_0.length : Int)).bind fun t232 => (impl_ApplyForces.j0 k l1 (!t232) l0_0 l0_1)) else (impl_ApplyForces.j0 k l1 true l0_0 l0_1)) = some (r1, r2) := H
    have A6 := Aside0.mk A60
    clear A60
    by_cases c7 : t231 = true
    · subst c7
      have H1 : ((impl_ForcesValid.f l1 (l0_0.length : Int)).bind fun t232 => (impl_ApplyForces.j0 k l1 (!t232) l0_0 l0_1)) = some (r1, r2) := by rw [if_pos rfl] at H; exact H
      clear H
      have H := H1
      clear H1
      replace H := Option.bind_eq_some_iff.mp H
      obtain ⟨t232, A80, H⟩ := H
      replace H : (impl_ApplyForces.j0 k l1 (!t232) l0_0 l0_1) = some (r1, r2) := H
      have A8 := Aside0.mk A80
      clear A80
      have H' := Aside0.mk H
      clear H
      have hnb9 := NB229_230.out
      have hnc9 := NB230_229.out
      have hcz10_0 : w5.cell? ⟨gb229, 0, none⟩ = some (.slice A0_0 l0_0.length c0_0) := (blk_cell BK229.out 0).trans rfl
      have hcz10_1 : w5.cell? ⟨gb229, 1, none⟩ = some (.slice A0_1 l0_1.length c0_1) := (blk_cell BK229.out 1).trans rfl
      have hfz10_0 := blk_frozen BK229.out 0
      have hfz10_1 := blk_frozen BK229.out 1
      go_wp2_with (first | ((with_reducible refine gate_callee (f := 39) rfl ?_); refine goesL_ (some 7) rfl rfl Try.func39 (by kernel_rfl) rfl #[.agg #[.slice A0_0 l0_0.length c0_0, .slice A0_1 l0_1.length c0_1]] rfl (by (try simp only [List.map_toArray, List.map_cons, List.map_nil]); first | done | rfl | (simp only [List.length_drop, List.length_take]; rfl)) ?_; (with_reducible refine (impl_ImageValid.calls _ _ l0_0 _ _ l0_1 true _ ?side1 ?side2 ?side3 ?side4 A6.out).mono ?_); (case side1 => repeat (first | exact (Kd.C_below HR0_0.out HB.out) | (with_reducible refine Kd.C_alloc ?_ _) | (with_reducible refine Kd.C_drewN ?_ _) | (with_reducible refine Kd.C_drew ?_))); (case side2 => exact HC0_0.out); (case side3 => repeat (first | exact (Kd.C_below HR0_1.out HB.out) | (with_reducible refine Kd.C_alloc ?_ _) | (with_reducible refine Kd.C_drewN ?_ _) | (with_reducible refine Kd.C_drew ?_))); (case side4 => exact HC0_1.out); rintro e w11 ⟨rfl, hb⟩; refine ⟨_, rfl, ?_⟩; have n0_ := Aside0.mk (blk_below (g := gb229) (o := .cells #[.slice A0_0 l0_0.length c0_0, .slice A0_1 l0_1.length c0_1] 27 (0, 0)) (by (with_reducible repeat (first | refine blk_drewN ?_ _ | refine blk_drew ?_ | refine blk_alloc ?_ _)); exact BK229.out) hb); have n1_ := Aside0.mk (blk_below (g := gb230) (o := .cells #[.slice none 0 0, .slice none 0 0] 27 (0, 0)) (by (with_reducible repeat (first | refine blk_drewN ?_ _ | refine blk_drew ?_ | refine blk_alloc ?_ _)); exact BK230.out) hb); have n2_ := Aside0.mk (below_step (by repeat (first | (with_reducible first | exact HB.out | apply below_alloc | apply pw_below_drewN | apply below_drew1 | refine below_set ?_ GE229.out | refine below_set ?_ GE230.out) | exact HB.out)) hb); clear BK229; clear BK230; clear HB; have BK229 := n0_; have BK230 := n1_; have HB := n2_; clear n0_ n1_ n2_; (try clear hb); (try clear hb2); (try clear hk); (try clear hi); have hcz12_0 : w11.cell? ⟨gb229, 0, none⟩ = some (.slice A0_0 l0_0.length c0_0) := (blk_cell BK229.out 0).trans rfl; have hcz12_1 : w11.cell? ⟨gb229, 1, none⟩ = some (.slice A0_1 l0_1.length c0_1) := (blk_cell BK229.out 1).trans rfl; have hfz12_0 := blk_frozen BK229.out 0; have hfz12_1 := blk_frozen BK229.out 1) | (go_at_call 55; (with_reducible refine (impl_ForcesValid.calls _ _ l1 (l0_0.length : Int) t232 _ ?side1 ?side2 A8.out).mono ?_); (case side1 => repeat (first | exact (Kd.C_below HR1.out HB.out) | (with_reducible refine Kd.C_alloc ?_ _) | (with_reducible refine Kd.C_drewN ?_ _) | (with_reducible refine Kd.C_drew ?_))); (case side2 => exact HC1.out); rintro e w13 ⟨rfl, hb⟩; have n0_ := Aside0.mk (blk_below (g := gb229) (o := .cells #[.slice A0_0 l0_0.length c0_0, .slice A0_1 l0_1.length c0_1] 27 (0, 0)) (by (with_reducible repeat (first | refine blk_drewN ?_ _ | refine blk_drew ?_ | refine blk_alloc ?_ _)); exact BK229.out) hb); have n1_ := Aside0.mk (blk_below (g := gb230) (o := .cells #[.slice none 0 0, .slice none 0 0] 27 (0, 0)) (by (with_reducible repeat (first | refine blk_drewN ?_ _ | refine blk_drew ?_ | refine blk_alloc ?_ _)); exact BK230.out) hb); have n2_ := Aside0.mk (below_step (by repeat (first | (with_reducible first | exact HB.out | apply below_alloc | apply pw_below_drewN | apply below_drew1 | refine below_set ?_ GE229.out | refine below_set ?_ GE230.out) | exact HB.out)) hb); clear BK229; clear BK230; clear HB; have BK229 := n0_; have BK230 := n1_; have HB := n2_; clear n0_ n1_ n2_; (try clear hb); (try clear hb2); (try clear hk); (try clear hi)))
      go_meet
      case rel => exact ⟨_, (!t232), (by first | rfl | (simp; done) | (simp [*]; done)), H', ⟨by first | omega | exact Nat.le_refl _⟩, ⟨by (with_reducible repeat (first | refine blk_drewN ?_ _ | refine blk_drew ?_ | refine blk_alloc ?_ _)); exact BK229.out⟩, ⟨by (with_reducible repeat (first | refine blk_drewN ?_ _ | refine blk_drew ?_ | refine blk_alloc ?_ _)); exact BK230.out⟩, ⟨by repeat (first | (with_reducible first | exact HB.out | apply below_alloc | apply pw_below_drewN | apply below_drew1 | refine below_set ?_ GE229.out | refine below_set ?_ GE230.out) | exact HB.out)⟩⟩
    · replace c7 := Bool.eq_false_iff.mpr c7
      subst c7
      have H1 : (impl_ApplyForces.j0 k l1 true l0_0 l0_1) = some (r1, r2) := by rw [if_neg (show ¬ (false = true) by decide)] at H; exact H
      clear H
      have H := H1
      clear H1
      have H' := Aside0.mk H
      clear H
      have hnb14 := NB229_230.out
      have hnc14 := NB230_229.out
      have hcz15_0 : w5.cell? ⟨gb229, 0, none⟩ = some (.slice A0_0 l0_0.length c0_0) := (blk_cell BK229.out 0).trans rfl
      have hcz15_1 : w5.cell? ⟨gb229, 1, none⟩ = some (.slice A0_1 l0_1.length c0_1) := (blk_cell BK229.out 1).trans rfl
      have hfz15_0 := blk_frozen BK229.out 0
      have hfz15_1 := blk_frozen BK229.out 1
      go_wp2_with (first | ((with_reducible refine gate_callee (f := 39) rfl ?_); refine goesL_ (some 7) rfl rfl Try.func39 (by kernel_rfl) rfl #[.agg #[.slice A0_0 l0_0.length c0_0, .slice A0_1 l0_1.length c0_1]] rfl (by (try simp only [List.map_toArray, List.map_cons, List.map_nil]); first | done | rfl | (simp only [List.length_drop, List.length_take]; rfl)) ?_; (with_reducible refine (impl_ImageValid.calls _ _ l0_0 _ _ l0_1 false _ ?side1 ?side2 ?side3 ?side4 A6.out).mono ?_); (case side1 => repeat (first | exact (Kd.C_below HR0_0.out HB.out) | (with_reducible refine Kd.C_alloc ?_ _) | (with_reducible refine Kd.C_drewN ?_ _) | (with_reducible refine Kd.C_drew ?_))); (case side2 => exact HC0_0.out); (case side3 => repeat (first | exact (Kd.C_below HR0_1.out HB.out) | (with_reducible refine Kd.C_alloc ?_ _) | (with_reducible refine Kd.C_drewN ?_ _) | (with_reducible refine Kd.C_drew ?_))); (case side4 => exact HC0_1.out); rintro e w16 ⟨rfl, hb⟩; refine ⟨_, rfl, ?_⟩; have n0_ := Aside0.mk (blk_below (g := gb229) (o := .cells #[.slice A0_0 l0_0.length c0_0, .slice A0_1 l0_1.length c0_1] 27 (0, 0)) (by (with_reducible repeat (first | refine blk_drewN ?_ _ | refine blk_drew ?_ | refine blk_alloc ?_ _)); exact BK229.out) hb); have n1_ := Aside0.mk (blk_below (g := gb230) (o := .cells #[.slice none 0 0, .slice none 0 0] 27 (0, 0)) (by (with_reducible repeat (first | refine blk_drewN ?_ _ | refine blk_drew ?_ | refine blk_alloc ?_ _)); exact BK230.out) hb); have n2_ := Aside0.mk (below_step (by repeat (first | (with_reducible first | exact HB.out | apply below_alloc | apply pw_below_drewN | apply below_drew1 | refine below_set ?_ GE229.out | refine below_set ?_ GE230.out) | exact HB.out)) hb); clear BK229; clear BK230; clear HB; have BK229 := n0_; have BK230 := n1_; have HB := n2_; clear n0_ n1_ n2_; (try clear hb); (try clear hb2); (try clear hk); (try clear hi)))
      go_meet
      case rel => exact ⟨_, (true), (by first | rfl | (simp; done) | (simp [*]; done)), H', ⟨by first | omega | exact Nat.le_refl _⟩, ⟨by (with_reducible repeat (first | refine blk_drewN ?_ _ | refine blk_drew ?_ | refine blk_alloc ?_ _)); exact BK229.out⟩, ⟨by (with_reducible repeat (first | refine blk_drewN ?_ _ | refine blk_drew ?_ | refine blk_alloc ?_ _)); exact BK230.out⟩, ⟨by repeat (first | (with_reducible first | exact HB.out | apply below_alloc | apply pw_below_drewN | apply below_drew1 | refine below_set ?_ GE229.out | refine below_set ?_ GE230.out) | exact HB.out)⟩⟩
  case rest =>
    clear HC3
    try clear c1
    try clear c2
    try clear p2
    try clear c3
    try clear c7
    try clear c9
    try clear c14
    try clear hcz10_0
    try clear hcz10_1
    try clear hcz12_0
    try clear hcz12_1
    try clear hcz15_0
    try clear hcz15_1
    try clear hfz10_0
    try clear hfz10_1
    try clear hfz12_0
    try clear hfz12_1
    try clear hfz15_0
    try clear hfz15_1
    obtain ⟨kq, x16_2, rfl, HA, HJ2, BK229, BK230, HB⟩ := hcut
    cases kq with
    | zero => exact absurd HA.out (by simp [impl_ApplyForces.j0])
    | succ kj2 =>
      have H := HA.out
      clear HA
      simp only [impl_ApplyForces.j0] at H
      by_cases c17 : x16_2 = true
      · subst c17
        have H1 : (some (([] : List Bool), ([] : List Int))) = some (r1, r2) := by rw [if_pos rfl] at H; exact H
        clear H
        have H := H1
        clear H1
        simp only [Option.some.injEq, Prod.mk.injEq] at H
        obtain ⟨rfl, rfl⟩ := H
        have hnb18 := NB230_229.out
        have hnc18 := NB229_230.out
        have hcz19_0 : wc.cell? ⟨gb230, 0, none⟩ = some (.slice none 0 0) := (blk_cell BK230.out 0).trans rfl
        have hcz19_1 : wc.cell? ⟨gb230, 1, none⟩ = some (.slice none 0 0) := (blk_cell BK230.out 1).trans rfl
        have hfz19_0 := blk_frozen BK230.out 0
        have hfz19_1 := blk_frozen BK230.out 1
        go_wp2
        refine bodyPost_ret (results_cell_row rfl _ _ gb230 27 #[.slice none 0 0, .slice none 0 0] (0, 0) _ rfl (by (with_reducible repeat (first | refine blk_drewN ?_ _ | refine blk_drew ?_ | refine blk_alloc ?_ _)); refine blk_put (cs := #[.slice none 0 0, .slice none 0 0]) ?_ 1 _ rfl; (with_reducible repeat (first | refine blk_drewN ?_ _ | refine blk_drew ?_ | refine blk_alloc ?_ _)); refine blk_put (cs := #[.slice none 0 0, .slice none 0 0]) ?_ 0 _ rfl; (with_reducible repeat (first | refine blk_drewN ?_ _ | refine blk_drew ?_ | refine blk_alloc ?_ _)); exact BK230.out) Try.underlying27 rfl (by kernel_rfl)) rfl ?_
        exact ⟨_, _, by first | rfl | (simp [errW_none, errW_some] <;> rfl) | (simp [*, errW_none, errW_some] <;> rfl), Kd.W_of_R (by first | exact Kd.R_nil _ _ _ _ _ | exact Kd.N_nil _ _ _ _ _ | exact Kd.V_nil _ _ _ _ _ | exact Kd.W_nil _ _ _ _ _ | exact Kd.S_nil _ _ _ _ _), Kd.W_of_R (by first | exact Kd.R_nil _ _ _ _ _ | exact Kd.N_nil _ _ _ _ _ | exact Kd.V_nil _ _ _ _ _ | exact Kd.W_nil _ _ _ _ _ | exact Kd.S_nil _ _ _ _ _), by repeat (first | (with_reducible first | exact HB.out | apply below_alloc | apply pw_below_drewN | apply below_drew1 | refine below_set ?_ GE229.out | refine below_set ?_ GE230.out) | exact HB.out)⟩
      · replace c17 := Bool.eq_false_iff.mpr c17
        subst c17
        have H1 : ((impl_Image_copyOf.f l0_0 l0_1).bind fun bt233 => ((impl_force_w.f kj2 bt233.1 bt233.2 l1).bind fun t240 => (some (t240, bt233.2)))) = some (r1, r2) := by rw [if_neg (show ¬ (false = true) by decide)] at H; exact H
        clear H
        have H := H1
        clear H1
        replace H := Option.bind_eq_some_iff.mp H
        obtain ⟨⟨t233, t236⟩, A200, H⟩ := H
        replace H : ((impl_force_w.f kj2 t233 t236 l1).bind fun t240 => (some (t240, t236))) = some (r1, r2) := H
        have A20 := Aside0.mk A200
        clear A200
        replace H := Option.bind_eq_some_iff.mp H
        obtain ⟨t240, A210, H⟩ := H
        replace H : (some (t240, t236)) = some (r1, r2) := H
        have A21 := Aside0.mk A210
        clear A210
        simp only [Option.some.injEq, Prod.mk.injEq] at H
        obtain ⟨rfl, rfl⟩ := H
        have hnb22 := NB229_230.out
        have hnc22 := NB230_229.out
        have hcz23_0 : wc.cell? ⟨gb229, 0, none⟩ = some (.slice A0_0 l0_0.length c0_0) := (blk_cell BK229.out 0).trans rfl
        have hcz23_1 : wc.cell? ⟨gb229, 1, none⟩ = some (.slice A0_1 l0_1.length c0_1) := (blk_cell BK229.out 1).trans rfl
        have hfz23_0 := blk_frozen BK229.out 0
        have hfz23_1 := blk_frozen BK229.out 1
        go_wp2_with (first | ((with_reducible refine gate_callee (f := 40) rfl ?_); refine goesL_ (some 19) rfl rfl Try.func40 (by kernel_rfl) rfl #[.agg #[.slice A0_0 l0_0.length c0_0, .slice A0_1 l0_1.length c0_1]] rfl (by (try simp only [List.map_toArray, List.map_cons, List.map_nil]); first | done | rfl | (simp only [List.length_drop, List.length_take]; rfl)) ?_; (with_reducible refine (impl_Image_copyOf.calls _ _ l0_0 _ _ l0_1 t233 t236 _ ?side1 ?side2 ?side3 ?side4 A20.out).mono ?_); (case side1 => repeat (first | exact (Kd.C_below HR0_0.out HB.out) | (with_reducible refine Kd.C_alloc ?_ _) | (with_reducible refine Kd.C_drewN ?_ _) | (with_reducible refine Kd.C_drew ?_))); (case side2 => exact HC0_0.out); (case side3 => repeat (first | exact (Kd.C_below HR0_1.out HB.out) | (with_reducible refine Kd.C_alloc ?_ _) | (with_reducible refine Kd.C_drewN ?_ _) | (with_reducible refine Kd.C_drew ?_))); (case side4 => exact HC0_1.out); rintro e w24 ⟨v234, v237, rfl, ho0, ho1, hb⟩; refine ⟨_, rfl, ?_⟩; have n0_ := Aside0.mk (Kd.W_lower ho0 (below_size (by repeat (first | (with_reducible first | exact HB.out | apply below_alloc | apply pw_below_drewN | apply below_drew1 | refine below_set ?_ GE229.out | refine below_set ?_ GE230.out) | exact HB.out)))); have n1_ := Aside0.mk (Kd.W_lower ho1 (below_size (by repeat (first | (with_reducible first | exact HB.out | apply below_alloc | apply pw_below_drewN | apply below_drew1 | refine below_set ?_ GE229.out | refine below_set ?_ GE230.out) | exact HB.out)))); have n2_ := Aside0.mk (blk_below (g := gb229) (o := .cells #[.slice A0_0 l0_0.length c0_0, .slice A0_1 l0_1.length c0_1] 27 (0, 0)) (by (with_reducible repeat (first | refine blk_drewN ?_ _ | refine blk_drew ?_ | refine blk_alloc ?_ _)); exact BK229.out) hb); have n3_ := Aside0.mk (blk_below (g := gb230) (o := .cells #[.slice none 0 0, .slice none 0 0] 27 (0, 0)) (by (with_reducible repeat (first | refine blk_drewN ?_ _ | refine blk_drew ?_ | refine blk_alloc ?_ _)); exact BK230.out) hb); have n4_ := Aside0.mk (below_step (by repeat (first | (with_reducible first | exact HB.out | apply below_alloc | apply pw_below_drewN | apply below_drew1 | refine below_set ?_ GE229.out | refine below_set ?_ GE230.out) | exact HB.out)) hb); clear BK229; clear BK230; clear HB; have HO235 := n0_; have HO238 := n1_; have BK229 := n2_; have BK230 := n3_; have HB := n4_; clear n0_ n1_ n2_ n3_ n4_; (try clear hb); (try clear hb2); (try clear hk); (try clear hi); (try clear ho0); (try clear ho1)) | ((with_reducible refine gate_dst (N := 5) rfl ?_); (try (refine gate_guard (by rfl) ?_; dsimp only)); refine box_event ?hg (N := 5) ?hd (cs := #[.slice none 0 0, .slice none 0 0]) (t := 27) ?hr ?_; (case hd => rfl); (case hg => rfl); (case hr => first | (go_simp; done) | (go_simp; rfl)); intro gb239 hg w25 hbox hb; have n0_ := Aside0.mk (Kd.W_below (by (with_reducible repeat (first | apply Kd.W_alloc | apply Kd.W_drewN | apply Kd.W_drew)); exact HO235.out) hb); have n1_ := Aside0.mk (Kd.W_below (by (with_reducible repeat (first | apply Kd.W_alloc | apply Kd.W_drewN | apply Kd.W_drew)); exact HO238.out) hb); have n2_ := Aside0.mk (blk_below (g := gb229) (o := .cells #[.slice A0_0 l0_0.length c0_0, .slice A0_1 l0_1.length c0_1] 27 (0, 0)) (by (with_reducible repeat (first | refine blk_drewN ?_ _ | refine blk_drew ?_ | refine blk_alloc ?_ _)); exact BK229.out) hb); have n3_ := Aside0.mk (blk_below (g := gb230) (o := .cells #[.slice none 0 0, .slice none 0 0] 27 (0, 0)) (by (with_reducible repeat (first | refine blk_drewN ?_ _ | refine blk_drew ?_ | refine blk_alloc ?_ _)); exact BK230.out) hb); have n4_ := Aside0.mk (below_step (by repeat (first | (with_reducible first | exact HB.out | apply below_alloc | apply pw_below_drewN | apply below_drew1 | refine below_set ?_ GE229.out | refine below_set ?_ GE230.out) | exact HB.out)) hb); have n5_ := Aside0.mk (hbox); have n6_ := Aside0.mk ((by rw [hg]; exact (below_size (by repeat (first | (with_reducible first | exact HB.out | apply below_alloc | apply pw_below_drewN | apply below_drew1 | refine below_set ?_ GE229.out | refine below_set ?_ GE230.out) | exact HB.out))) : w.heap.size ≤ gb239)); have n7_ := Aside0.mk ((by rw [hg]; exact (below_size (by repeat (first | (with_reducible first | exact HB.out | apply below_alloc | apply pw_below_drewN | apply below_drew1 | refine below_set ?_ GE229.out | refine below_set ?_ GE230.out) | exact HB.out))) : w.heap.size ≤ gb239)); have n8_ := Aside0.mk ((by rw [hg]; exact Nat.ne_of_lt (blk_lt (g := gb229) (o := .cells #[.slice A0_0 l0_0.length c0_0, .slice A0_1 l0_1.length c0_1] 27 (0, 0)) (by (with_reducible repeat (first | refine blk_drewN ?_ _ | refine blk_drew ?_ | refine blk_alloc ?_ _)); exact BK229.out)) : gb229 ≠ gb239)); have n9_ := Aside0.mk ((by rw [hg]; exact Nat.ne_of_gt (blk_lt (g := gb229) (o := .cells #[.slice A0_0 l0_0.length c0_0, .slice A0_1 l0_1.length c0_1] 27 (0, 0)) (by (with_reducible repeat (first | refine blk_drewN ?_ _ | refine blk_drew ?_ | refine blk_alloc ?_ _)); exact BK229.out)) : gb239 ≠ gb229)); have n10_ := Aside0.mk ((by rw [hg]; exact Nat.ne_of_lt (blk_lt (g := gb230) (o := .cells #[.slice none 0 0, .slice none 0 0] 27 (0, 0)) (by (with_reducible repeat (first | refine blk_drewN ?_ _ | refine blk_drew ?_ | refine blk_alloc ?_ _)); exact BK230.out)) : gb230 ≠ gb239)); have n11_ := Aside0.mk ((by rw [hg]; exact Nat.ne_of_gt (blk_lt (g := gb230) (o := .cells #[.slice none 0 0, .slice none 0 0] 27 (0, 0)) (by (with_reducible repeat (first | refine blk_drewN ?_ _ | refine blk_drew ?_ | refine blk_alloc ?_ _)); exact BK230.out)) : gb239 ≠ gb230)); clear HO235; clear HO238; clear BK229; clear BK230; clear HB; have HO235 := n0_; have HO238 := n1_; have BK229 := n2_; have BK230 := n3_; have HB := n4_; have BK239 := n5_; have GW239 := n6_; have GE239 := n7_; have NB229_239 := n8_; have NB239_229 := n9_; have NB230_239 := n10_; have NB239_230 := n11_; clear n0_ n1_ n2_ n3_ n4_ n5_ n6_ n7_ n8_ n9_ n10_ n11_; clear hb hbox hg; obtain ⟨Ao26, co26, eo26, _⟩ := Kd.W_slice HO235.out; subst eo26; have hnb27 := NB239_229.out; have hnc27 := NB229_239.out; have hnb28 := NB239_230.out; have hnc28 := NB230_239.out; have hcz29_0 : w25.cell? ⟨gb239, 0, none⟩ = some (.slice none 0 0) := (blk_cell BK239.out 0).trans rfl; have hcz29_1 : w25.cell? ⟨gb239, 1, none⟩ = some (.slice none 0 0) := (blk_cell BK239.out 1).trans rfl; have hfz29_0 := blk_frozen BK239.out 0; have hfz29_1 := blk_frozen BK239.out 1; obtain ⟨Ao30, co30, eo30, _⟩ := Kd.W_slice HO238.out; subst eo30) | ((with_reducible refine gate_store (t := 27) (p := 5) rfl ?_); refine store_event (t := 27) (p := 5) (v := ?vo_w31) (w1 := ((w25.setCell ⟨gb239, 0, none⟩ (.slice Ao26 t233.length co26)).setCell ⟨gb239, 1, none⟩ (.slice Ao30 t236.length co30))) ?hg ?ho ?hn ?hr ?_; (case ho => rfl); (case hg => rfl); (case hn => rfl); (case hr => first | (go_simp; done) | (go_simp; rfl)); intro w31 hw; have n0_ : Aside0 (Kd.W Kd.bool 4 w31 w.heap.size (fun _ => True) (.slice Ao26 t233.length co26) t233) := ⟨(by rw [hw]; exact (by (with_reducible repeat (first | apply Kd.W_alloc | apply Kd.W_drewN | apply Kd.W_drew)); exact Kd.W_mono (Kd.W_far (p := ⟨gb239, 1, none⟩) (Kd.W_far (p := ⟨gb239, 0, none⟩) (Kd.W_types HO235.out BK239.out (by decide)) (fun _ hk => by first | exact hk.2 | exact trivial) (.slice Ao26 t233.length co26)) (fun _ hk => by first | exact hk.2 | exact trivial) (.slice Ao30 t236.length co30)) (fun _ hk => trivial)))⟩; have n1_ : Aside0 (Kd.W (Kd.int .i64) 3 w31 w.heap.size (fun _ => True) (.slice Ao30 t236.length co30) t236) := ⟨(by rw [hw]; exact (by (with_reducible repeat (first | apply Kd.W_alloc | apply Kd.W_drewN | apply Kd.W_drew)); exact Kd.W_mono (Kd.W_far (p := ⟨gb239, 1, none⟩) (Kd.W_far (p := ⟨gb239, 0, none⟩) (Kd.W_types HO238.out BK239.out (by decide)) (fun _ hk => by first | exact hk.2 | exact trivial) (.slice Ao26 t233.length co26)) (fun _ hk => by first | exact hk.2 | exact trivial) (.slice Ao30 t236.length co30)) (fun _ hk => trivial)))⟩; have n2_ : Aside0 (w31.heap[gb229]? = some (.cells #[.slice A0_0 l0_0.length c0_0, .slice A0_1 l0_1.length c0_1] 27 (0, 0))) := ⟨(by rw [hw]; exact (by (with_reducible repeat (first | refine blk_drewN ?_ _ | refine blk_drew ?_ | refine blk_alloc ?_ _)); refine blk_far ?_ NB229_239.out _; (with_reducible repeat (first | refine blk_drewN ?_ _ | refine blk_drew ?_ | refine blk_alloc ?_ _)); refine blk_far ?_ NB229_239.out _; (with_reducible repeat (first | refine blk_drewN ?_ _ | refine blk_drew ?_ | refine blk_alloc ?_ _)); exact BK229.out))⟩; have n3_ : Aside0 (w31.heap[gb230]? = some (.cells #[.slice none 0 0, .slice none 0 0] 27 (0, 0))) := ⟨(by rw [hw]; exact (by (with_reducible repeat (first | refine blk_drewN ?_ _ | refine blk_drew ?_ | refine blk_alloc ?_ _)); refine blk_far ?_ NB230_239.out _; (with_reducible repeat (first | refine blk_drewN ?_ _ | refine blk_drew ?_ | refine blk_alloc ?_ _)); refine blk_far ?_ NB230_239.out _; (with_reducible repeat (first | refine blk_drewN ?_ _ | refine blk_drew ?_ | refine blk_alloc ?_ _)); exact BK230.out))⟩; have n4_ : Aside0 (w31.heap[gb239]? = some (.cells #[.slice Ao26 t233.length co26, .slice Ao30 t236.length co30] 27 (0, 0))) := ⟨(by rw [hw]; exact (by (with_reducible repeat (first | refine blk_drewN ?_ _ | refine blk_drew ?_ | refine blk_alloc ?_ _)); refine blk_put (cs := #[.slice Ao26 t233.length co26, .slice none 0 0]) ?_ 1 _ rfl; (with_reducible repeat (first | refine blk_drewN ?_ _ | refine blk_drew ?_ | refine blk_alloc ?_ _)); refine blk_put (cs := #[.slice none 0 0, .slice none 0 0]) ?_ 0 _ rfl; (with_reducible repeat (first | refine blk_drewN ?_ _ | refine blk_drew ?_ | refine blk_alloc ?_ _)); exact BK239.out))⟩; have n5_ : Aside0 (Below w.heap.size w w31) := ⟨(by rw [hw]; exact (by repeat (first | (with_reducible first | exact HB.out | apply below_alloc | apply pw_below_drewN | apply below_drew1 | refine below_set ?_ GE229.out | refine below_set ?_ GE230.out | refine below_set ?_ GE239.out) | exact HB.out)))⟩; clear hw; clear HO235; clear HO238; clear BK229; clear BK230; clear BK239; clear HB; have HO235 := n0_; have HO238 := n1_; have BK229 := n2_; have BK230 := n3_; have BK239 := n4_; have HB := n5_; clear n0_ n1_ n2_ n3_ n4_ n5_; have hcz32_0 : w31.cell? ⟨gb239, 0, none⟩ = some (.slice Ao26 t233.length co26) := (blk_cell BK239.out 0).trans rfl; have hcz32_1 : w31.cell? ⟨gb239, 1, none⟩ = some (.slice Ao30 t236.length co30) := (blk_cell BK239.out 1).trans rfl; have hfz32_0 := blk_frozen BK239.out 0; have hfz32_1 := blk_frozen BK239.out 1) | ((with_reducible refine gate_callee (f := 56) rfl ?_); refine goesL_ (some 22) rfl rfl Try.func56 (by kernel_rfl) rfl #[.agg #[.slice Ao26 t233.length co26, .slice Ao30 t236.length co30], .slice A1 l1.length c1] rfl (by (try simp only [List.map_toArray, List.map_cons, List.map_nil]); first | done | rfl | (simp only [List.length_drop, List.length_take]; rfl)) ?_; (with_reducible refine (impl_force_w.calls kj2 (fun k_ => some k_ = (.slice Ao26 t233.length co26 : Value).ownBlock) (.slice Ao26 t233.length co26) t233 _ _ t236 _ _ l1 t240 w _ ?side1 ?side2 ?side3 ?side4 ?side5 ?side6 A21.out).mono ?_); (case side1 => repeat (first | (with_reducible first | exact HB.out | apply below_alloc | apply pw_below_drewN | apply below_drew1 | refine below_set ?_ GE229.out | refine below_set ?_ GE230.out | refine below_set ?_ GE239.out) | exact HB.out)); (case side2 => exact Kd.W_tight rfl HO235.out); (case side3 => exact Kd.C_kept_ownW ((Kd.W_apart' HO238.out (Kd.W_typed HO235.out) (by decide))) (fun k_ hk_ hs_ => (hk_.2) hs_)); (case side4 => exact (Kd.W_reads' HO238.out).2.1); (case side5 => exact Kd.C_kept_came k67_heap HR1.out (by repeat (first | (with_reducible first | exact HB.out | apply below_alloc | apply pw_below_drewN | apply below_drew1 | refine below_set ?_ GE229.out | refine below_set ?_ GE230.out | refine below_set ?_ GE239.out) | exact HB.out)) (fun k_ hs_ => (fun e_ => Kd.W_base HO235.out k_ e_.symm) hs_)); (case side6 => exact HC1.out); rintro e w33 ⟨rfl, hy0, hb, hkp⟩; refine ⟨_, rfl, ?_⟩; have n0_ := Aside0.mk (blk_kept (by (with_reducible repeat (first | refine blk_drewN ?_ _ | refine blk_drew ?_ | refine blk_alloc ?_ _)); exact BK229.out) hkp (fun hs_ => (fun e_ => (Kd.W_ne HO235.out BK229.out (by decide)) e_) hs_)); have n1_ := Aside0.mk (blk_kept (by (with_reducible repeat (first | refine blk_drewN ?_ _ | refine blk_drew ?_ | refine blk_alloc ?_ _)); exact BK230.out) hkp (fun hs_ => (fun e_ => (Kd.W_ne HO235.out BK230.out (by decide)) e_) hs_)); have n2_ := Aside0.mk (Kd.W_reok rfl hy0 (fun k_ e_ => HO235.out.1 k_ e_)); have n3_ := Aside0.mk (Kd.W_mono (ok' := fun k_ => True) (Kd.W_keptB ((Kd.W_apart' HO238.out (Kd.W_typed HO235.out) (by decide))) hkp (fun k_ hk_ hs_ => (hk_.2) hs_)) (fun k_ hk_ => trivial)); have n4_ := Aside0.mk (blk_kept (by (with_reducible repeat (first | refine blk_drewN ?_ _ | refine blk_drew ?_ | refine blk_alloc ?_ _)); exact BK239.out) hkp (fun hs_ => (fun e_ => (Kd.W_ne HO235.out BK239.out (by decide)) e_) hs_)); have n5_ := Aside0.mk (hb); clear BK229; clear BK230; clear HO235; clear HO238; clear BK239; clear HB; have BK229 := n0_; have BK230 := n1_; have HO235 := n2_; have HO238 := n3_; have BK239 := n4_; have HB := n5_; clear n0_ n1_ n2_ n3_ n4_ n5_; (try clear hb); (try clear hkp); (try clear hy0); have hcz34_0 : w33.cell? ⟨gb239, 0, none⟩ = some (.slice Ao26 t233.length co26) := (blk_cell BK239.out 0).trans rfl; have hcz34_1 : w33.cell? ⟨gb239, 1, none⟩ = some (.slice Ao30 t236.length co30) := (blk_cell BK239.out 1).trans rfl; have hfz34_0 := blk_frozen BK239.out 0; have hfz34_1 := blk_frozen BK239.out 1; have hcz35_0 : w33.cell? ⟨gb230, 0, none⟩ = some (.slice none 0 0) := (blk_cell BK230.out 0).trans rfl; have hcz35_1 : w33.cell? ⟨gb230, 1, none⟩ = some (.slice none 0 0) := (blk_cell BK230.out 1).trans rfl; have hfz35_0 := blk_frozen BK230.out 0; have hfz35_1 := blk_frozen BK230.out 1))
        refine bodyPost_ret (results_cell_row rfl _ _ gb230 27 #[.slice Ao26 t233.length co26, .slice Ao30 t236.length co30] (0, 0) _ rfl (by (with_reducible repeat (first | refine blk_drewN ?_ _ | refine blk_drew ?_ | refine blk_alloc ?_ _)); refine blk_put (cs := #[.slice Ao26 t233.length co26, .slice none 0 0]) ?_ 1 _ rfl; (with_reducible repeat (first | refine blk_drewN ?_ _ | refine blk_drew ?_ | refine blk_alloc ?_ _)); refine blk_put (cs := #[.slice none 0 0, .slice none 0 0]) ?_ 0 _ rfl; (with_reducible repeat (first | refine blk_drewN ?_ _ | refine blk_drew ?_ | refine blk_alloc ?_ _)); exact BK230.out) Try.underlying27 rfl (by kernel_rfl)) rfl ?_
        exact ⟨_, _, by first | rfl | (simp [errW_none, errW_some] <;> rfl) | (simp [*, errW_none, errW_some] <;> rfl), by (with_reducible repeat (first | apply Kd.W_alloc | apply Kd.W_drewN | apply Kd.W_drew)); exact Kd.W_mono (Kd.W_far (p := ⟨gb230, 1, none⟩) (Kd.W_far (p := ⟨gb230, 0, none⟩) (Kd.W_types HO235.out BK230.out (by decide)) (fun _ hk => by first | exact hk.2 | exact trivial) (.slice Ao26 t233.length co26)) (fun _ hk => by first | exact hk.2 | exact trivial) (.slice Ao30 t236.length co30)) (fun _ hk => trivial), by (with_reducible repeat (first | apply Kd.W_alloc | apply Kd.W_drewN | apply Kd.W_drew)); exact Kd.W_mono (Kd.W_far (p := ⟨gb230, 1, none⟩) (Kd.W_far (p := ⟨gb230, 0, none⟩) (Kd.W_types HO238.out BK230.out (by decide)) (fun _ hk => by first | exact hk.2 | exact trivial) (.slice Ao26 t233.length co26)) (fun _ hk => by first | exact hk.2 | exact trivial) (.slice Ao30 t236.length co30)) (fun _ hk => trivial), by repeat (first | (with_reducible first | exact HB.out | apply below_alloc | apply pw_below_drewN | apply below_drew1 | refine below_set ?_ GE229.out | refine below_set ?_ GE230.out | refine below_set ?_ GE239.out) | exact HB.out)⟩

/-! ### laws_eqForce: function 57 -/
def laws_eqForce.f (a0_0 : Int) (a0_1 : Bool) (a1_0 : Int) (a1_1 : Bool) : Option (Bool) := if a0_0 = a1_0 then (if (a0_1 != a1_1) = true then (some false) else (some true)) else (some false)
set_option maxHeartbeats 8000000 in
set_option maxRecDepth 100000 in
theorem laws_eqForce.calls (a0_0 : Int) (a0_1 : Bool) (a1_0 : Int) (a1_1 : Bool) (r : Bool) (w : World) (h : laws_eqForce.f a0_0 a0_1 a1_0 a1_1 = some r) :
    Calls Try.prog 57 #[.agg #[.int .i64 a0_0, .bool a0_1], .agg #[.int .i64 a1_0, .bool a1_1]] w fun e w' => e = .returned (.bool r) ∧ Below w.heap.size w w' := by
  have hu67 := Try.underlying67
  have HB := Aside0.mk (Below.refl w.heap.size w)
  have H : (if a0_0 = a1_0 then (if (a0_1 != a1_1) = true then (some false) else (some true)) else (some false)) = some r := h
  clear h
  by_cases c3 : a0_0 = a1_0
  · rw [if_pos c3] at H
    have c3b0 : (a0_0 == a1_0) = true := beq_iff_eq.mpr c3
    have c3b1 : (a0_0 != a1_0) = false := bne_eq_false_iff_eq.mpr c3
    clear c3
    by_cases c4 : (a0_1 != a1_1) = true
    · rw [if_pos c4] at H
      have c4b0 : (a0_1 != a1_1) = true := c4
      (try (have c4b1 : decide (a0_1 = a1_1) = false := by simpa using c4))
      (try (have c4b2 : (a0_1 == a1_1) = false := by simpa using c4))
      (try (have c4b3 : ¬ (a0_1 = a1_1) := by simpa using c4))
      clear c4
      obtain rfl := Option.some.inj H
      go_enter Try.func57, Try.ntmps57
      go_wp2_with (first | ((with_reducible refine gate_dst (N := 2) rfl ?_); refine box_event ?hg (N := 2) ?hd (cs := #[.int .i64 a0_0, .bool a0_1]) (t := 67) ?hr ?_; (case hd => rfl); (case hg => rfl); (case hr => first | (go_simp; done) | (go_simp; rfl)); intro gb241 hg w5 hbox hb; have n0_ := Aside0.mk (below_step (by repeat (first | (with_reducible first | exact HB.out | apply below_alloc | apply pw_below_drewN | apply below_drew1) | exact HB.out)) hb); have n1_ := Aside0.mk (hbox); have n2_ := Aside0.mk ((by rw [hg]; exact (below_size (by repeat (first | (with_reducible first | exact HB.out | apply below_alloc | apply pw_below_drewN | apply below_drew1) | exact HB.out))) : w.heap.size ≤ gb241)); have n3_ := Aside0.mk ((by rw [hg]; exact (below_size (by repeat (first | (with_reducible first | exact HB.out | apply below_alloc | apply pw_below_drewN | apply below_drew1) | exact HB.out))) : w.heap.size ≤ gb241)); clear HB; have HB := n0_; have BK241 := n1_; have GW241 := n2_; have GE241 := n3_; clear n0_ n1_ n2_ n3_; clear hb hbox hg) | ((with_reducible refine gate_dst (N := 3) rfl ?_); refine box_event ?hg (N := 3) ?hd (cs := #[.int .i64 a1_0, .bool a1_1]) (t := 67) ?hr ?_; (case hd => rfl); (case hg => rfl); (case hr => first | (go_simp; done) | (go_simp; rfl)); intro gb242 hg w6 hbox hb; have n0_ := Aside0.mk (blk_below (g := gb241) (o := .cells #[.int .i64 a0_0, .bool a0_1] 67 (0, 0)) (by (with_reducible repeat (first | refine blk_drewN ?_ _ | refine blk_drew ?_ | refine blk_alloc ?_ _)); exact BK241.out) hb); have n1_ := Aside0.mk (below_step (by repeat (first | (with_reducible first | exact HB.out | apply below_alloc | apply pw_below_drewN | apply below_drew1 | refine below_set ?_ GE241.out) | exact HB.out)) hb); have n2_ := Aside0.mk (hbox); have n3_ := Aside0.mk ((by rw [hg]; exact (below_size (by repeat (first | (with_reducible first | exact HB.out | apply below_alloc | apply pw_below_drewN | apply below_drew1 | refine below_set ?_ GE241.out) | exact HB.out))) : w.heap.size ≤ gb242)); have n4_ := Aside0.mk ((by rw [hg]; exact (below_size (by repeat (first | (with_reducible first | exact HB.out | apply below_alloc | apply pw_below_drewN | apply below_drew1 | refine below_set ?_ GE241.out) | exact HB.out))) : w.heap.size ≤ gb242)); have n5_ := Aside0.mk ((by rw [hg]; exact Nat.ne_of_lt (blk_lt (g := gb241) (o := .cells #[.int .i64 a0_0, .bool a0_1] 67 (0, 0)) (by (with_reducible repeat (first | refine blk_drewN ?_ _ | refine blk_drew ?_ | refine blk_alloc ?_ _)); exact BK241.out)) : gb241 ≠ gb242)); have n6_ := Aside0.mk ((by rw [hg]; exact Nat.ne_of_gt (blk_lt (g := gb241) (o := .cells #[.int .i64 a0_0, .bool a0_1] 67 (0, 0)) (by (with_reducible repeat (first | refine blk_drewN ?_ _ | refine blk_drew ?_ | refine blk_alloc ?_ _)); exact BK241.out)) : gb242 ≠ gb241)); clear BK241; clear HB; have BK241 := n0_; have HB := n1_; have BK242 := n2_; have GW242 := n3_; have GE242 := n4_; have NB241_242 := n5_; have NB242_241 := n6_; clear n0_ n1_ n2_ n3_ n4_ n5_ n6_; clear hb hbox hg; have hnb7 := NB241_242.out; have hnc7 := NB242_241.out; have hcz8_0 : w6.cell? ⟨gb241, 0, none⟩ = some (.int .i64 a0_0) := (blk_cell BK241.out 0).trans rfl; have hcz8_1 : w6.cell? ⟨gb241, 1, none⟩ = some (.bool a0_1) := (blk_cell BK241.out 1).trans rfl; have hfz8_0 := blk_frozen BK241.out 0; have hfz8_1 := blk_frozen BK241.out 1; have hcz9_0 : w6.cell? ⟨gb242, 0, none⟩ = some (.int .i64 a1_0) := (blk_cell BK242.out 0).trans rfl; have hcz9_1 : w6.cell? ⟨gb242, 1, none⟩ = some (.bool a1_1) := (blk_cell BK242.out 1).trans rfl; have hfz9_0 := blk_frozen BK242.out 0; have hfz9_1 := blk_frozen BK242.out 1))
      go_ret
      exact ⟨by first | rfl | (simp [errW_none, errW_some] <;> rfl) | (simp [*, errW_none, errW_some] <;> rfl), by repeat (first | (with_reducible first | exact HB.out | apply below_alloc | apply pw_below_drewN | apply below_drew1 | refine below_set ?_ GE241.out | refine below_set ?_ GE242.out) | exact HB.out)⟩
    · rw [if_neg c4] at H
      have c4b0 : (a0_1 != a1_1) = false := by simpa using c4
      (try (have c4b1 : decide (a0_1 = a1_1) = true := by simpa using c4))
      (try (have c4b2 : (a0_1 == a1_1) = true := by simpa using c4))
      clear c4
      obtain rfl := Option.some.inj H
      go_enter Try.func57, Try.ntmps57
      go_wp2_with (first | ((with_reducible refine gate_dst (N := 2) rfl ?_); refine box_event ?hg (N := 2) ?hd (cs := #[.int .i64 a0_0, .bool a0_1]) (t := 67) ?hr ?_; (case hd => rfl); (case hg => rfl); (case hr => first | (go_simp; done) | (go_simp; rfl)); intro gb241 hg w10 hbox hb; have n0_ := Aside0.mk (below_step (by repeat (first | (with_reducible first | exact HB.out | apply below_alloc | apply pw_below_drewN | apply below_drew1) | exact HB.out)) hb); have n1_ := Aside0.mk (hbox); have n2_ := Aside0.mk ((by rw [hg]; exact (below_size (by repeat (first | (with_reducible first | exact HB.out | apply below_alloc | apply pw_below_drewN | apply below_drew1) | exact HB.out))) : w.heap.size ≤ gb241)); have n3_ := Aside0.mk ((by rw [hg]; exact (below_size (by repeat (first | (with_reducible first | exact HB.out | apply below_alloc | apply pw_below_drewN | apply below_drew1) | exact HB.out))) : w.heap.size ≤ gb241)); clear HB; have HB := n0_; have BK241 := n1_; have GW241 := n2_; have GE241 := n3_; clear n0_ n1_ n2_ n3_; clear hb hbox hg) | ((with_reducible refine gate_dst (N := 3) rfl ?_); refine box_event ?hg (N := 3) ?hd (cs := #[.int .i64 a1_0, .bool a1_1]) (t := 67) ?hr ?_; (case hd => rfl); (case hg => rfl); (case hr => first | (go_simp; done) | (go_simp; rfl)); intro gb242 hg w11 hbox hb; have n0_ := Aside0.mk (blk_below (g := gb241) (o := .cells #[.int .i64 a0_0, .bool a0_1] 67 (0, 0)) (by (with_reducible repeat (first | refine blk_drewN ?_ _ | refine blk_drew ?_ | refine blk_alloc ?_ _)); exact BK241.out) hb); have n1_ := Aside0.mk (below_step (by repeat (first | (with_reducible first | exact HB.out | apply below_alloc | apply pw_below_drewN | apply below_drew1 | refine below_set ?_ GE241.out) | exact HB.out)) hb); have n2_ := Aside0.mk (hbox); have n3_ := Aside0.mk ((by rw [hg]; exact (below_size (by repeat (first | (with_reducible first | exact HB.out | apply below_alloc | apply pw_below_drewN | apply below_drew1 | refine below_set ?_ GE241.out) | exact HB.out))) : w.heap.size ≤ gb242)); have n4_ := Aside0.mk ((by rw [hg]; exact (below_size (by repeat (first | (with_reducible first | exact HB.out | apply below_alloc | apply pw_below_drewN | apply below_drew1 | refine below_set ?_ GE241.out) | exact HB.out))) : w.heap.size ≤ gb242)); have n5_ := Aside0.mk ((by rw [hg]; exact Nat.ne_of_lt (blk_lt (g := gb241) (o := .cells #[.int .i64 a0_0, .bool a0_1] 67 (0, 0)) (by (with_reducible repeat (first | refine blk_drewN ?_ _ | refine blk_drew ?_ | refine blk_alloc ?_ _)); exact BK241.out)) : gb241 ≠ gb242)); have n6_ := Aside0.mk ((by rw [hg]; exact Nat.ne_of_gt (blk_lt (g := gb241) (o := .cells #[.int .i64 a0_0, .bool a0_1] 67 (0, 0)) (by (with_reducible repeat (first | refine blk_drewN ?_ _ | refine blk_drew ?_ | refine blk_alloc ?_ _)); exact BK241.out)) : gb242 ≠ gb241)); clear BK241; clear HB; have BK241 := n0_; have HB := n1_; have BK242 := n2_; have GW242 := n3_; have GE242 := n4_; have NB241_242 := n5_; have NB242_241 := n6_; clear n0_ n1_ n2_ n3_ n4_ n5_ n6_; clear hb hbox hg; have hnb12 := NB241_242.out; have hnc12 := NB242_241.out; have hcz13_0 : w11.cell? ⟨gb241, 0, none⟩ = some (.int .i64 a0_0) := (blk_cell BK241.out 0).trans rfl; have hcz13_1 : w11.cell? ⟨gb241, 1, none⟩ = some (.bool a0_1) := (blk_cell BK241.out 1).trans rfl; have hfz13_0 := blk_frozen BK241.out 0; have hfz13_1 := blk_frozen BK241.out 1; have hcz14_0 : w11.cell? ⟨gb242, 0, none⟩ = some (.int .i64 a1_0) := (blk_cell BK242.out 0).trans rfl; have hcz14_1 : w11.cell? ⟨gb242, 1, none⟩ = some (.bool a1_1) := (blk_cell BK242.out 1).trans rfl; have hfz14_0 := blk_frozen BK242.out 0; have hfz14_1 := blk_frozen BK242.out 1))
      go_ret
      exact ⟨by first | rfl | (simp [errW_none, errW_some] <;> rfl) | (simp [*, errW_none, errW_some] <;> rfl), by repeat (first | (with_reducible first | exact HB.out | apply below_alloc | apply pw_below_drewN | apply below_drew1 | refine below_set ?_ GE241.out | refine below_set ?_ GE242.out) | exact HB.out)⟩
  · rw [if_neg c3] at H
    have c3b0 : (a0_0 == a1_0) = false := beq_eq_false_iff_ne.mpr c3
    have c3b1 : (a0_0 != a1_0) = true := bne_iff_ne.mpr c3
    obtain rfl := Option.some.inj H
    go_enter Try.func57, Try.ntmps57
    go_wp2_with (first | ((with_reducible refine gate_dst (N := 2) rfl ?_); refine box_event ?hg (N := 2) ?hd (cs := #[.int .i64 a0_0, .bool a0_1]) (t := 67) ?hr ?_; (case hd => rfl); (case hg => rfl); (case hr => first | (go_simp; done) | (go_simp; rfl)); intro gb241 hg w15 hbox hb; have n0_ := Aside0.mk (below_step (by repeat (first | (with_reducible first | exact HB.out | apply below_alloc | apply pw_below_drewN | apply below_drew1) | exact HB.out)) hb); have n1_ := Aside0.mk (hbox); have n2_ := Aside0.mk ((by rw [hg]; exact (below_size (by repeat (first | (with_reducible first | exact HB.out | apply below_alloc | apply pw_below_drewN | apply below_drew1) | exact HB.out))) : w.heap.size ≤ gb241)); have n3_ := Aside0.mk ((by rw [hg]; exact (below_size (by repeat (first | (with_reducible first | exact HB.out | apply below_alloc | apply pw_below_drewN | apply below_drew1) | exact HB.out))) : w.heap.size ≤ gb241)); clear HB; have HB := n0_; have BK241 := n1_; have GW241 := n2_; have GE241 := n3_; clear n0_ n1_ n2_ n3_; clear hb hbox hg) | ((with_reducible refine gate_dst (N := 3) rfl ?_); refine box_event ?hg (N := 3) ?hd (cs := #[.int .i64 a1_0, .bool a1_1]) (t := 67) ?hr ?_; (case hd => rfl); (case hg => rfl); (case hr => first | (go_simp; done) | (go_simp; rfl)); intro gb242 hg w16 hbox hb; have n0_ := Aside0.mk (blk_below (g := gb241) (o := .cells #[.int .i64 a0_0, .bool a0_1] 67 (0, 0)) (by (with_reducible repeat (first | refine blk_drewN ?_ _ | refine blk_drew ?_ | refine blk_alloc ?_ _)); exact BK241.out) hb); have n1_ := Aside0.mk (below_step (by repeat (first | (with_reducible first | exact HB.out | apply below_alloc | apply pw_below_drewN | apply below_drew1 | refine below_set ?_ GE241.out) | exact HB.out)) hb); have n2_ := Aside0.mk (hbox); have n3_ := Aside0.mk ((by rw [hg]; exact (below_size (by repeat (first | (with_reducible first | exact HB.out | apply below_alloc | apply pw_below_drewN | apply below_drew1 | refine below_set ?_ GE241.out) | exact HB.out))) : w.heap.size ≤ gb242)); have n4_ := Aside0.mk ((by rw [hg]; exact (below_size (by repeat (first | (with_reducible first | exact HB.out | apply below_alloc | apply pw_below_drewN | apply below_drew1 | refine below_set ?_ GE241.out) | exact HB.out))) : w.heap.size ≤ gb242)); have n5_ := Aside0.mk ((by rw [hg]; exact Nat.ne_of_lt (blk_lt (g := gb241) (o := .cells #[.int .i64 a0_0, .bool a0_1] 67 (0, 0)) (by (with_reducible repeat (first | refine blk_drewN ?_ _ | refine blk_drew ?_ | refine blk_alloc ?_ _)); exact BK241.out)) : gb241 ≠ gb242)); have n6_ := Aside0.mk ((by rw [hg]; exact Nat.ne_of_gt (blk_lt (g := gb241) (o := .cells #[.int .i64 a0_0, .bool a0_1] 67 (0, 0)) (by (with_reducible repeat (first | refine blk_drewN ?_ _ | refine blk_drew ?_ | refine blk_alloc ?_ _)); exact BK241.out)) : gb242 ≠ gb241)); clear BK241; clear HB; have BK241 := n0_; have HB := n1_; have BK242 := n2_; have GW242 := n3_; have GE242 := n4_; have NB241_242 := n5_; have NB242_241 := n6_; clear n0_ n1_ n2_ n3_ n4_ n5_ n6_; clear hb hbox hg; have hnb17 := NB241_242.out; have hnc17 := NB242_241.out; have hcz18_0 : w16.cell? ⟨gb241, 0, none⟩ = some (.int .i64 a0_0) := (blk_cell BK241.out 0).trans rfl; have hcz18_1 : w16.cell? ⟨gb241, 1, none⟩ = some (.bool a0_1) := (blk_cell BK241.out 1).trans rfl; have hfz18_0 := blk_frozen BK241.out 0; have hfz18_1 := blk_frozen BK241.out 1; have hcz19_0 : w16.cell? ⟨gb242, 0, none⟩ = some (.int .i64 a1_0) := (blk_cell BK242.out 0).trans rfl; have hcz19_1 : w16.cell? ⟨gb242, 1, none⟩ = some (.bool a1_1) := (blk_cell BK242.out 1).trans rfl; have hfz19_0 := blk_frozen BK242.out 0; have hfz19_1 := blk_frozen BK242.out 1))
    go_ret
    exact ⟨by first | rfl | (simp [errW_none, errW_some] <;> rfl) | (simp [*, errW_none, errW_some] <;> rfl), by repeat (first | (with_reducible first | exact HB.out | apply below_alloc | apply pw_below_drewN | apply below_drew1 | refine below_set ?_ GE241.out | refine below_set ?_ GE242.out) | exact HB.out)⟩
end Go.Proofs.Ytojgaiibnajghaa.QFnExactApplyForces
