-- Written by wip/pr2.py: a program of this session's own, which runs the kit's print over contracts of its own.
import Derived.Test.YtdbbdikkboppnaaQFnExactReadFramex2
namespace Go.Proofs.Ytdbbdikkboppnaa.QFnExactReadFrame
open Go.RowKit Go.Proofs.YtdbbdikkboppnaaW.PrintWords Go.Proofs.YtdbbdikkboppnaaW.PrintLast Go.Proofs.YtdbbdikkboppnaaW.PrintMore
attribute [local go_sem] max2_int min2_int max_two min_two max_three min_three max_four min_four   -- for this text's walks alone
set_option linter.unusedVariables false
set_option linter.unusedSimpArgs false

/-! ### laws_FnExactReadFrame: function 11 -/
mutual
def laws_FnExactReadFrame.j0 : Nat → List Int → Bool → List Int → Bool → Bool → Int → Int → List Int → Int → Int → List Int → Option (Bool)
  | 0, _, _, _, _, _, _, _, _, _, _, _ => none
  | k + 1, x0, x4, x5, x7, x37, x168000, x168001, x168002, x178000, x178001, x178002 => if x37 = true then (some false) else ((laws_toByteS.f k x0).bind fun t179 => ((laws_eqByteS.f k x5 t179).bind fun t182 => (if t182 = true then ((laws_markByteS.f k x5 1).bind fun bt183 => (if bt183.1 < 0 then (laws_FnExactReadFrame.j1 k x0 x4 true x168000 x168001 x168002 x178000 x178001 x178002) else ((laws_eqFrame.f k x178000 x178001 x178002 x168000 x168001 x168002).bind fun t185 => (if t185 = true then (laws_FnExactReadFrame.j1 k x0 x4 (x7 != x4) x168000 x168001 x168002 x178000 x178001 x178002) else (laws_FnExactReadFrame.j1 k x0 x4 true x168000 x168001 x168002 x178000 x178001 x178002))))) else (some false))))
def laws_FnExactReadFrame.j1 : Nat → List Int → Bool → Bool → Int → Int → List Int → Int → Int → List Int → Option (Bool)
  | 0, _, _, _, _, _, _, _, _, _ => none
  | k + 1, x0, x4, x58, x168000, x168001, x168002, x178000, x178001, x178002 => if x58 = true then (some false) else ((laws_markFrame_w.f k x178000 x178001 x178002 1).bind fun bt186 => ((laws_heldFrame.f k x178000 x178001 bt186.2 1).bind fun t188 => (if t188 < 0 then (some false) else (if t188 = bt186.1 then ((laws_toByteS.f k x0).bind fun t189 => ((impl_ReadFrame.f k t189).bind fun bt192 => ((laws_eqFrame.f k bt192.1 bt192.2.1 bt192.2.2.1 x168000 x168001 x168002).bind fun t199 => (if t199 = true then (laws_FnExactReadFrame.j2 k bt186.1 (bt192.2.2.2 != x4) x178000 x178001 bt186.2) else (laws_FnExactReadFrame.j2 k bt186.1 true x178000 x178001 bt186.2))))) else (some false)))))
def laws_FnExactReadFrame.j2 : Nat → Int → Bool → Int → Int → List Int → Option (Bool)
  | 0, _, _, _, _, _ => none
  | k + 1, x9, x84, x178000, x178001, x178002 => if x84 = true then (some false) else ((laws_heldFrame.f k x178000 x178001 x178002 1).bind fun t200 => (if t200 < 0 then (some false) else (if t200 = x9 then (some true) else (some false))))
end
def laws_FnExactReadFrame.f (k : Nat) (l0 : List Int) : Option (Bool) := if (l0.length : Int) > 1048576 then (some true) else ((laws_toByteS.f k l0).bind fun t158 => ((spec_ReadFrame.f k t158).bind fun bt161 => ((laws_toByteS.f k l0).bind fun t168 => ((impl_ReadFrame.f k t168).bind fun bt171 => ((laws_eqFrame.f k bt171.1 bt171.2.1 bt171.2.2.1 bt161.1 bt161.2.1 bt161.2.2.1).bind fun t178 => (if t178 = true then (laws_FnExactReadFrame.j0 k l0 bt161.2.2.2 t168 bt171.2.2.2 (bt171.2.2.2 != bt161.2.2.2) bt161.1 bt161.2.1 bt161.2.2.1 bt171.1 bt171.2.1 bt171.2.2.1) else (laws_FnExactReadFrame.j0 k l0 bt161.2.2.2 t168 bt171.2.2.2 true bt161.1 bt161.2.1 bt161.2.2.1 bt171.1 bt171.2.1 bt171.2.2.1)))))))
theorem laws_FnExactReadFrame.mono_l : ∀ k, (∀ y0 y1 y2 y3 y4 y5 y6 y7 y8 y9 y10, LeO (laws_FnExactReadFrame.j0 k y0 y1 y2 y3 y4 y5 y6 y7 y8 y9 y10) (laws_FnExactReadFrame.j0 (k + 1) y0 y1 y2 y3 y4 y5 y6 y7 y8 y9 y10)) ∧ (∀ y0 y1 y2 y3 y4 y5 y6 y7 y8, LeO (laws_FnExactReadFrame.j1 k y0 y1 y2 y3 y4 y5 y6 y7 y8) (laws_FnExactReadFrame.j1 (k + 1) y0 y1 y2 y3 y4 y5 y6 y7 y8)) ∧ (∀ y0 y1 y2 y3 y4, LeO (laws_FnExactReadFrame.j2 k y0 y1 y2 y3 y4) (laws_FnExactReadFrame.j2 (k + 1) y0 y1 y2 y3 y4))
  | 0 => ⟨fun _ _ _ _ _ _ _ _ _ _ _ r h => by simp [laws_FnExactReadFrame.j0] at h, fun _ _ _ _ _ _ _ _ _ r h => by simp [laws_FnExactReadFrame.j1] at h, fun _ _ _ _ _ r h => by simp [laws_FnExactReadFrame.j2] at h⟩
  | k + 1 => by
    obtain ⟨ih0, ih1, ih2⟩ := laws_FnExactReadFrame.mono_l k
    refine ⟨?_, ?_, ?_⟩
    · intro y0 y1 y2 y3 y4 y5 y6 y7 y8 y9 y10
      unfold laws_FnExactReadFrame.j0
      repeat' first
      | (with_reducible exact ih0 _ _ _ _ _ _ _ _ _ _ _)
      | (with_reducible exact ih1 _ _ _ _ _ _ _ _ _)
      | (with_reducible exact ih2 _ _ _ _ _)
      | (with_reducible exact impl_ReadFrame.mono _ _)
      | (with_reducible exact laws_eqByteS.mono _ _ _)
      | (with_reducible exact laws_eqFrame.mono _ _ _ _ _ _ _)
      | (with_reducible exact laws_heldFrame.mono _ _ _ _ _)
      | (with_reducible exact laws_markByteS.mono _ _ _)
      | (with_reducible exact laws_markFrame_w.mono _ _ _ _ _)
      | (with_reducible exact laws_toByteS.mono _ _)
      | (with_reducible exact spec_ReadFrame.mono _ _)
      | (with_reducible exact LeO.refl _)
      | (with_reducible exact LeO.none _)
      | (with_reducible refine LeO.ite ?_ ?_)
      | (with_reducible refine LeO.bind ?_ (fun _ => ?_))
      | exact ih0 _ _ _ _ _ _ _ _ _ _ _
      | exact ih1 _ _ _ _ _ _ _ _ _
      | exact ih2 _ _ _ _ _
      | exact impl_ReadFrame.mono _ _
      | exact laws_eqByteS.mono _ _ _
      | exact laws_eqFrame.mono _ _ _ _ _ _ _
      | exact laws_heldFrame.mono _ _ _ _ _
      | exact laws_markByteS.mono _ _ _
      | exact laws_markFrame_w.mono _ _ _ _ _
      | exact laws_toByteS.mono _ _
      | exact spec_ReadFrame.mono _ _
      | exact LeO.none _
      | refine LeO.ite ?_ ?_
      | refine LeO.bind ?_ (fun _ => ?_)
    · intro y0 y1 y2 y3 y4 y5 y6 y7 y8
      unfold laws_FnExactReadFrame.j1
      repeat' first
      | (with_reducible exact ih0 _ _ _ _ _ _ _ _ _ _ _)
      | (with_reducible exact ih1 _ _ _ _ _ _ _ _ _)
      | (with_reducible exact ih2 _ _ _ _ _)
      | (with_reducible exact impl_ReadFrame.mono _ _)
      | (with_reducible exact laws_eqByteS.mono _ _ _)
      | (with_reducible exact laws_eqFrame.mono _ _ _ _ _ _ _)
      | (with_reducible exact laws_heldFrame.mono _ _ _ _ _)
      | (with_reducible exact laws_markByteS.mono _ _ _)
      | (with_reducible exact laws_markFrame_w.mono _ _ _ _ _)
      | (with_reducible exact laws_toByteS.mono _ _)
      | (with_reducible exact spec_ReadFrame.mono _ _)
      | (with_reducible exact LeO.refl _)
      | (with_reducible exact LeO.none _)
      | (with_reducible refine LeO.ite ?_ ?_)
      | (with_reducible refine LeO.bind ?_ (fun _ => ?_))
      | exact ih0 _ _ _ _ _ _ _ _ _ _ _
      | exact ih1 _ _ _ _ _ _ _ _ _
      | exact ih2 _ _ _ _ _
      | exact impl_ReadFrame.mono _ _
      | exact laws_eqByteS.mono _ _ _
      | exact laws_eqFrame.mono _ _ _ _ _ _ _
      | exact laws_heldFrame.mono _ _ _ _ _
      | exact laws_markByteS.mono _ _ _
      | exact laws_markFrame_w.mono _ _ _ _ _
      | exact laws_toByteS.mono _ _
      | exact spec_ReadFrame.mono _ _
      | exact LeO.none _
      | refine LeO.ite ?_ ?_
      | refine LeO.bind ?_ (fun _ => ?_)
    · intro y0 y1 y2 y3 y4
      unfold laws_FnExactReadFrame.j2
      repeat' first
      | (with_reducible exact ih0 _ _ _ _ _ _ _ _ _ _ _)
      | (with_reducible exact ih1 _ _ _ _ _ _ _ _ _)
      | (with_reducible exact ih2 _ _ _ _ _)
      | (with_reducible exact impl_ReadFrame.mono _ _)
      | (with_reducible exact laws_eqByteS.mono _ _ _)
      | (with_reducible exact laws_eqFrame.mono _ _ _ _ _ _ _)
      | (with_reducible exact laws_heldFrame.mono _ _ _ _ _)
      | (with_reducible exact laws_markByteS.mono _ _ _)
      | (with_reducible exact laws_markFrame_w.mono _ _ _ _ _)
      | (with_reducible exact laws_toByteS.mono _ _)
      | (with_reducible exact spec_ReadFrame.mono _ _)
      | (with_reducible exact LeO.refl _)
      | (with_reducible exact LeO.none _)
      | (with_reducible refine LeO.ite ?_ ?_)
      | (with_reducible refine LeO.bind ?_ (fun _ => ?_))
      | exact ih0 _ _ _ _ _ _ _ _ _ _ _
      | exact ih1 _ _ _ _ _ _ _ _ _
      | exact ih2 _ _ _ _ _
      | exact impl_ReadFrame.mono _ _
      | exact laws_eqByteS.mono _ _ _
      | exact laws_eqFrame.mono _ _ _ _ _ _ _
      | exact laws_heldFrame.mono _ _ _ _ _
      | exact laws_markByteS.mono _ _ _
      | exact laws_markFrame_w.mono _ _ _ _ _
      | exact laws_toByteS.mono _ _
      | exact spec_ReadFrame.mono _ _
      | exact LeO.none _
      | refine LeO.ite ?_ ?_
      | refine LeO.bind ?_ (fun _ => ?_)
theorem laws_FnExactReadFrame.mono : ∀ a0 k, LeO (laws_FnExactReadFrame.f k a0) (laws_FnExactReadFrame.f (k + 1) a0) := by
  intro a0 k
  obtain ⟨ih0, ih1, ih2⟩ := laws_FnExactReadFrame.mono_l k
  unfold laws_FnExactReadFrame.f
  repeat' first
      | (with_reducible exact ih0 _ _ _ _ _ _ _ _ _ _ _)
      | (with_reducible exact ih1 _ _ _ _ _ _ _ _ _)
      | (with_reducible exact ih2 _ _ _ _ _)
      | (with_reducible exact impl_ReadFrame.mono _ _)
      | (with_reducible exact laws_eqByteS.mono _ _ _)
      | (with_reducible exact laws_eqFrame.mono _ _ _ _ _ _ _)
      | (with_reducible exact laws_heldFrame.mono _ _ _ _ _)
      | (with_reducible exact laws_markByteS.mono _ _ _)
      | (with_reducible exact laws_markFrame_w.mono _ _ _ _ _)
      | (with_reducible exact laws_toByteS.mono _ _)
      | (with_reducible exact spec_ReadFrame.mono _ _)
      | (with_reducible exact LeO.refl _)
      | (with_reducible exact LeO.none _)
      | (with_reducible refine LeO.ite ?_ ?_)
      | (with_reducible refine LeO.bind ?_ (fun _ => ?_))
      | exact ih0 _ _ _ _ _ _ _ _ _ _ _
      | exact ih1 _ _ _ _ _ _ _ _ _
      | exact ih2 _ _ _ _ _
      | exact impl_ReadFrame.mono _ _
      | exact laws_eqByteS.mono _ _ _
      | exact laws_eqFrame.mono _ _ _ _ _ _ _
      | exact laws_heldFrame.mono _ _ _ _ _
      | exact laws_markByteS.mono _ _ _
      | exact laws_markFrame_w.mono _ _ _ _ _
      | exact laws_toByteS.mono _ _
      | exact spec_ReadFrame.mono _ _
      | exact LeO.none _
      | refine LeO.ite ?_ ?_
      | refine LeO.bind ?_ (fun _ => ?_)
set_option maxHeartbeats 8000000 in
set_option maxRecDepth 100000 in
theorem laws_FnExactReadFrame.calls (k : Nat) (A0 : Option Addr) (c0 : Nat) (l0 : List Int) (r : Bool) (w : World) (hr0 : Kd.C (Kd.int .u8) w A0 l0.length l0) (hc0 : l0.length ≤ c0) (h : laws_FnExactReadFrame.f k l0 = some r) :
    Calls Try.prog 11 #[.slice A0 l0.length c0] w fun e w' => e = .returned (.bool r) ∧ Below w.heap.size w w' := by
  have hu51 := Try.underlying51
  have HR0 := Aside0.mk hr0
  have HC0 := Aside0.mk hc0
  clear hr0 hc0
  have HB := Aside0.mk (Below.refl w.heap.size w)
  have H : (if (l0.length : Int) > 1048576 then (some true) else ((laws_toByteS.f k l0).bind fun t158 => ((spec_ReadFrame.f k t158).bind fun bt161 => ((laws_toByteS.f k l0).bind fun t168 => ((impl_ReadFrame.f k t168).bind fun bt171 => ((laws_eqFrame.f k bt171.1 bt171.2.1 bt171.2.2.1 bt161.1 bt161.2.1 bt161.2.2.1).bind fun t178 => (if t178 = true then (laws_FnExactReadFrame.j0 k l0 bt161.2.2.2 t168 bt171.2.2.2 (bt171.2.2.2 != bt161.2.2.2) bt161.1 bt161.2.1 bt161.2.2.1 bt171.1 bt171.2.1 bt171.2.2.1) else (laws_FnExactReadFrame.j0 k l0 bt161.2.2.2 t168 bt171.2.2.2 true bt161.1 bt161.2.1 bt161.2.2.1 bt171.1 bt171.2.1 bt171.2.2.1)))))))) = some r := h
  clear h
  by_cases c2 : (l0.length : Int) > 1048576
  · rw [if_pos c2] at H
    have c2b0 : decide (1048576 < (l0.length : Int)) = true := decide_eq_true c2
    have c2b1 : decide (1048576 < l0.length) = true := decide_eq_true (by omega)
    clear c2
    obtain rfl := Option.some.inj H
    go_enter Try.func11, Try.ntmps11
    go_wp2
    go_ret
    exact ⟨by first | rfl | (simp [errW_none, errW_some] <;> rfl) | (simp [*, errW_none, errW_some] <;> rfl), by repeat (first | (with_reducible first | exact HB.out | apply below_alloc | apply pw_below_drewN | apply below_drew1) | exact HB.out)⟩
  · rw [if_neg c2] at H
    have c2b0 : decide (1048576 < (l0.length : Int)) = false := decide_eq_false c2
    have c2b1 : decide (1048576 < l0.length) = false := decide_eq_false (by omega)
    clear c2
    replace H := Option.bind_eq_some_iff.mp H
    obtain ⟨t158, A30, H⟩ := H
    replace H : ((spec_ReadFrame.f k t158).bind fun bt161 => ((laws_toByteS.f k l0).bind fun t168 => ((impl_ReadFrame.f k t168).bind fun bt171 => ((laws_eqFrame.f k bt171.1 bt171.2.1 bt171.2.2.1 bt161.1 bt161.2.1 bt161.2.2.1).bind fun t178 => (if t178 = true then (laws_FnExactReadFrame.j0 k l0 bt161.2.2.2 t168 bt171.2.2.2 (bt171.2.2.2 != bt161.2.2.2) bt161.1 bt161.2.1 bt161.2.2.1 bt171.1 bt171.2.1 bt171.2.2.1) else (laws_FnExactReadFrame.j0 k l0 bt161.2.2.2 t168 bt171.2.2.2 true bt161.1 bt161.2.1 bt161.2.2.1 bt171.1 bt171.2.1 bt171.2.2.1)))))) = some r := H
    have A3 := Aside0.mk A30
    clear A30
    replace H := Option.bind_eq_some_iff.mp H
    obtain ⟨⟨t161, t162, t163, t166⟩, A40, H⟩ := H
    replace H : ((laws_toByteS.f k l0).bind fun t168 => ((impl_ReadFrame.f k t168).bind fun bt171 => ((laws_eqFrame.f k bt171.1 bt171.2.1 bt171.2.2.1 t161 t162 t163).bind fun t178 => (if t178 = true then (laws_FnExactReadFrame.j0 k l0 t166 t168 bt171.2.2.2 (bt171.2.2.2 != t166) t161 t162 t163 bt171.1 bt171.2.1 bt171.2.2.1) else (laws_FnExactReadFrame.j0 k l0 t166 t168 bt171.2.2.2 true t161 t162 t163 bt171.1 bt171.2.1 bt171.2.2.1))))) = some r := H
    have A4 := Aside0.mk A40
    clear A40
    replace H := Option.bind_eq_some_iff.mp H
    obtain ⟨t168, A50, H⟩ := H
    replace H : ((impl_ReadFrame.f k t168).bind fun bt171 => ((laws_eqFrame.f k bt171.1 bt171.2.1 bt171.2.2.1 t161 t162 t163).bind fun t178 => (if t178 = true then (laws_FnExactReadFrame.j0 k l0 t166 t168 bt171.2.2.2 (bt171.2.2.2 != t166) t161 t162 t163 bt171.1 bt171.2.1 bt171.2.2.1) else (laws_FnExactReadFrame.j0 k l0 t166 t168 bt171.2.2.2 true t161 t162 t163 bt171.1 bt171.2.1 bt171.2.2.1)))) = some r := H
    have A5 := Aside0.mk A50
    clear A50
    replace H := Option.bind_eq_some_iff.mp H
    obtain ⟨⟨t171, t172, t173, t176⟩, A60, H⟩ := H
    replace H : ((laws_eqFrame.f k t171 t172 t173 t161 t162 t163).bind fun t178 => (if t178 = true then (laws_FnExactReadFrame.j0 k l0 t166 t168 t176 (t176 != t166) t161 t162 t163 t171 t172 t173) else (laws_FnExactReadFrame.j0 k l0 t166 t168 t176 true t161 t162 t163 t171 t172 t173))) = some r := H
    have A6 := Aside0.mk A60
    clear A60
    have HC7 := Aside0.mk H
    clear H
    go_enter Try.func11, Try.ntmps11
    go_upto_region 6 with (first | ((with_reducible refine gate_callee (f := 20) rfl ?_); refine goesL_ (some 18) rfl rfl Try.func20 (by kernel_rfl) rfl #[.slice A0 l0.length c0] rfl (by (try simp only [List.map_toArray, List.map_cons, List.map_nil]); first | done | rfl | (simp only [List.length_drop, List.length_take]; rfl)) ?_; (with_reducible refine (laws_toByteS.calls k _ _ l0 t158 _ ?side1 ?side2 A3.out).mono ?_); (case side1 => repeat (first | exact HR0.out | (with_reducible refine Kd.C_alloc ?_ _) | (with_reducible refine Kd.C_drewN ?_ _) | (with_reducible refine Kd.C_drew ?_))); (case side2 => exact HC0.out); rintro e w8 ⟨v159, rfl, ho0, hb⟩; refine ⟨_, rfl, ?_⟩; have n0_ := Aside0.mk (Kd.R_lower ho0 (below_size (by repeat (first | (with_reducible first | exact HB.out | apply below_alloc | apply pw_below_drewN | apply below_drew1) | exact HB.out)))); have n1_ := Aside0.mk (below_step (by repeat (first | (with_reducible first | exact HB.out | apply below_alloc | apply pw_below_drewN | apply below_drew1) | exact HB.out)) hb); clear HB; have HO160 := n0_; have HB := n1_; clear n0_ n1_; (try clear hb); (try clear hb2); (try clear hk); (try clear hi); (try clear ho0); obtain ⟨Ao9, co9, eo9⟩ := Kd.R_slice HO160.out; subst eo9) | ((with_reducible refine gate_callee (f := 45) rfl ?_); refine goesL_ (some 19) rfl rfl Try.func45 (by kernel_rfl) rfl #[.slice Ao9 t158.length co9] rfl (by (try simp only [List.map_toArray, List.map_cons, List.map_nil]); first | done | rfl | (simp only [List.length_drop, List.length_take]; rfl)) ?_; (with_reducible refine (spec_ReadFrame.calls k _ _ t158 t161 t162 t163 t166 _ ?side1 ?side2 A4.out).mono ?_); (case side1 => repeat (first | exact (Kd.R_reads' HO160.out).2.2 | (with_reducible refine Kd.C_alloc ?_ _) | (with_reducible refine Kd.C_drewN ?_ _) | (with_reducible refine Kd.C_drew ?_))); (case side2 => exact (Kd.R_reads' HO160.out).2.1); rintro e w10 ⟨v164, rfl, ho0, hb⟩; refine ⟨_, rfl, ?_⟩; have n0_ := Aside0.mk (Kd.R_elder' (by (with_reducible repeat (first | apply Kd.R_alloc | apply Kd.R_drewN | apply Kd.R_drew)); exact HO160.out) (Kd.R_base ho0) hb); have n1_ := Aside0.mk (Kd.R_lower (Kd.R_new' ho0 (Kd.R_lt (by (with_reducible repeat (first | apply Kd.R_alloc | apply Kd.R_drewN | apply Kd.R_drew)); exact HO160.out))) (below_size (by repeat (first | (with_reducible first | exact HB.out | apply below_alloc | apply pw_below_drewN | apply below_drew1) | exact HB.out)))); have n2_ := Aside0.mk (below_step (by repeat (first | (with_reducible first | exact HB.out | apply below_alloc | apply pw_below_drewN | apply below_drew1) | exact HB.out)) hb); clear HO160; clear HB; have HO160 := n0_; have HO165 := n1_; have HB := n2_; clear n0_ n1_ n2_; (try clear hb); (try clear hb2); (try clear hk); (try clear hi); (try clear ho0)) | ((with_reducible refine gate_dst (N := 3) rfl ?_); refine box_event ?hg (N := 3) ?hd (cs := #[.int .i64 0, .int .i64 0, .slice none 0 0]) (t := 51) ?hr ?_; (case hd => rfl); (case hg => rfl); (case hr => first | (go_simp; done) | (go_simp; rfl)); intro gb167 hg w11 hbox hb; have n0_ := Aside0.mk (Kd.R_below (by (with_reducible repeat (first | apply Kd.R_alloc | apply Kd.R_drewN | apply Kd.R_drew)); exact HO160.out) hb); have n1_ := Aside0.mk (Kd.R_below (by (with_reducible repeat (first | apply Kd.R_alloc | apply Kd.R_drewN | apply Kd.R_drew)); exact HO165.out) hb); have n2_ := Aside0.mk (below_step (by repeat (first | (with_reducible first | exact HB.out | apply below_alloc | apply pw_below_drewN | apply below_drew1) | exact HB.out)) hb); have n3_ := Aside0.mk (hbox); have n4_ := Aside0.mk ((by rw [hg]; exact (below_size (by repeat (first | (with_reducible first | exact HB.out | apply below_alloc | apply pw_below_drewN | apply below_drew1) | exact HB.out))) : w.heap.size ≤ gb167)); have n5_ := Aside0.mk ((by rw [hg]; exact (below_size (by repeat (first | (with_reducible first | exact HB.out | apply below_alloc | apply pw_below_drewN | apply below_drew1) | exact HB.out))) : w.heap.size ≤ gb167)); clear HO160; clear HO165; clear HB; have HO160 := n0_; have HO165 := n1_; have HB := n2_; have BK167 := n3_; have GW167 := n4_; have GE167 := n5_; clear n0_ n1_ n2_ n3_ n4_ n5_; clear hb hbox hg; have hcz12_0 : w11.cell? ⟨gb167, 0, none⟩ = some (.int .i64 0) := (blk_cell BK167.out 0).trans rfl; have hcz12_1 : w11.cell? ⟨gb167, 1, none⟩ = some (.int .i64 0) := (blk_cell BK167.out 1).trans rfl; have hcz12_2 : w11.cell? ⟨gb167, 2, none⟩ = some (.slice none 0 0) := (blk_cell BK167.out 2).trans rfl; have hfz12_0 := blk_frozen BK167.out 0; have hfz12_1 := blk_frozen BK167.out 1; have hfz12_2 := blk_frozen BK167.out 2; obtain ⟨Ao13, co13, eo13⟩ := Kd.R_slice HO165.out; subst eo13) | ((with_reducible refine gate_callee (f := 20) rfl ?_); refine goesL_ (some 23) rfl rfl Try.func20 (by kernel_rfl) rfl #[.slice A0 l0.length c0] rfl (by (try simp only [List.map_toArray, List.map_cons, List.map_nil]); first | done | rfl | (simp only [List.length_drop, List.length_take]; rfl)) ?_; (with_reducible refine (laws_toByteS.calls k _ _ l0 t168 _ ?side1 ?side2 A5.out).mono ?_); (case side1 => exact Kd.C_below HR0.out (by repeat (first | (with_reducible first | exact HB.out | apply below_alloc | apply pw_below_drewN | apply below_drew1 | refine below_set ?_ GE167.out) | exact HB.out))); (case side2 => exact HC0.out); rintro e w14 ⟨v169, rfl, ho0, hb⟩; refine ⟨_, rfl, ?_⟩; have n0_ := Aside0.mk (Kd.R_elder' (by (with_reducible repeat (first | apply Kd.R_alloc | apply Kd.R_drewN | apply Kd.R_drew)); exact (Kd.R_mono (Kd.R_far (p := ⟨gb167, 2, none⟩) (Kd.R_far (p := ⟨gb167, 1, none⟩) (Kd.R_far (p := ⟨gb167, 0, none⟩) (Kd.R_types HO160.out BK167.out (by decide)) (fun _ hk => by first | exact hk.2 | exact trivial) (.int .i64 t161)) (fun _ hk => by first | exact hk.2 | exact trivial) (.int .i64 t162)) (fun _ hk => by first | exact hk.2 | exact trivial) (.slice Ao13 t163.length co13)) (fun _ h_ => h_.1))) (Kd.R_base ho0) hb); have n1_ := Aside0.mk (Kd.R_elder' (by (with_reducible repeat (first | apply Kd.R_alloc | apply Kd.R_drewN | apply Kd.R_drew)); exact (Kd.R_mono (Kd.R_far (p := ⟨gb167, 2, none⟩) (Kd.R_far (p := ⟨gb167, 1, none⟩) (Kd.R_far (p := ⟨gb167, 0, none⟩) (Kd.R_types HO165.out BK167.out (by decide)) (fun _ hk => by first | exact hk.2 | exact trivial) (.int .i64 t161)) (fun _ hk => by first | exact hk.2 | exact trivial) (.int .i64 t162)) (fun _ hk => by first | exact hk.2 | exact trivial) (.slice Ao13 t163.length co13)) (fun _ h_ => h_.1))) (Kd.R_base ho0) hb); have n2_ := Aside0.mk (Kd.R_lower (Kd.R_new' (Kd.R_new' ho0 (Kd.R_lt (by (with_reducible repeat (first | apply Kd.R_alloc | apply Kd.R_drewN | apply Kd.R_drew)); exact (Kd.R_mono (Kd.R_far (p := ⟨gb167, 2, none⟩) (Kd.R_far (p := ⟨gb167, 1, none⟩) (Kd.R_far (p := ⟨gb167, 0, none⟩) (Kd.R_types HO160.out BK167.out (by decide)) (fun _ hk => by first | exact hk.2 | exact trivial) (.int .i64 t161)) (fun _ hk => by first | exact hk.2 | exact trivial) (.int .i64 t162)) (fun _ hk => by first | exact hk.2 | exact trivial) (.slice Ao13 t163.length co13)) (fun _ h_ => h_.1))))) (Kd.R_lt (by (with_reducible repeat (first | apply Kd.R_alloc | apply Kd.R_drewN | apply Kd.R_drew)); exact (Kd.R_mono (Kd.R_far (p := ⟨gb167, 2, none⟩) (Kd.R_far (p := ⟨gb167, 1, none⟩) (Kd.R_far (p := ⟨gb167, 0, none⟩) (Kd.R_types HO165.out BK167.out (by decide)) (fun _ hk => by first | exact hk.2 | exact trivial) (.int .i64 t161)) (fun _ hk => by first | exact hk.2 | exact trivial) (.int .i64 t162)) (fun _ hk => by first | exact hk.2 | exact trivial) (.slice Ao13 t163.length co13)) (fun _ h_ => h_.1))))) (below_size (by repeat (first | (with_reducible first | exact HB.out | apply below_alloc | apply pw_below_drewN | apply below_drew1 | refine below_set ?_ GE167.out) | exact HB.out)))); have n3_ := Aside0.mk (blk_below (g := gb167) (o := .cells #[.int .i64 t161, .int .i64 t162, .slice Ao13 t163.length co13] 51 (0, 0)) (by (with_reducible repeat (first | refine blk_drewN ?_ _ | refine blk_drew ?_ | refine blk_alloc ?_ _)); refine blk_put (cs := #[.int .i64 t161, .int .i64 t162, .slice none 0 0]) ?_ 2 _ rfl; (with_reducible repeat (first | refine blk_drewN ?_ _ | refine blk_drew ?_ | refine blk_alloc ?_ _)); refine blk_put (cs := #[.int .i64 t161, .int .i64 0, .slice none 0 0]) ?_ 1 _ rfl; (with_reducible repeat (first | refine blk_drewN ?_ _ | refine blk_drew ?_ | refine blk_alloc ?_ _)); refine blk_put (cs := #[.int .i64 0, .int .i64 0, .slice none 0 0]) ?_ 0 _ rfl; (with_reducible repeat (first | refine blk_drewN ?_ _ | refine blk_drew ?_ | refine blk_alloc ?_ _)); exact BK167.out) hb); have n4_ := Aside0.mk (below_step (by repeat (first | (with_reducible first | exact HB.out | apply below_alloc | apply pw_below_drewN | apply below_drew1 | refine below_set ?_ GE167.out) | exact HB.out)) hb); clear HO160; clear HO165; clear BK167; clear HB; have HO160 := n0_; have HO165 := n1_; have HO170 := n2_; have BK167 := n3_; have HB := n4_; clear n0_ n1_ n2_ n3_ n4_; (try clear hb); (try clear hb2); (try clear hk); (try clear hi); (try clear ho0); obtain ⟨Ao15, co15, eo15⟩ := Kd.R_slice HO170.out; subst eo15) | ((with_reducible refine gate_callee (f := 46) rfl ?_); refine goesL_ (some 26) rfl rfl Try.func46 (by kernel_rfl) rfl #[.slice Ao15 t168.length co15] rfl (by (try simp only [List.map_toArray, List.map_cons, List.map_nil]); first | done | rfl | (simp only [List.length_drop, List.length_take]; rfl)) ?_; (with_reducible refine (impl_ReadFrame.calls k _ _ t168 t171 t172 t173 t176 _ ?side1 ?side2 A6.out).mono ?_); (case side1 => repeat (first | exact (Kd.R_reads' HO170.out).2.2 | (with_reducible refine Kd.C_alloc ?_ _) | (with_reducible refine Kd.C_drewN ?_ _) | (with_reducible refine Kd.C_drew ?_))); (case side2 => exact (Kd.R_reads' HO170.out).2.1); rintro e w16 ⟨v174, rfl, ho0, hb⟩; refine ⟨_, rfl, ?_⟩; have n0_ := Aside0.mk (Kd.R_elder' (by (with_reducible repeat (first | apply Kd.R_alloc | apply Kd.R_drewN | apply Kd.R_drew)); exact HO160.out) (Kd.W_base ho0) hb); have n1_ := Aside0.mk (Kd.R_elder' (by (with_reducible repeat (first | apply Kd.R_alloc | apply Kd.R_drewN | apply Kd.R_drew)); exact HO165.out) (Kd.W_base ho0) hb); have n2_ := Aside0.mk (Kd.R_elder' (by (with_reducible repeat (first | apply Kd.R_alloc | apply Kd.R_drewN | apply Kd.R_drew)); exact HO170.out) (Kd.W_base ho0) hb); have n3_ := Aside0.mk (Kd.W_lower (Kd.W_new' (Kd.W_new' (Kd.W_new' ho0 (Kd.R_lt (by (with_reducible repeat (first | apply Kd.R_alloc | apply Kd.R_drewN | apply Kd.R_drew)); exact HO160.out))) (Kd.R_lt (by (with_reducible repeat (first | apply Kd.R_alloc | apply Kd.R_drewN | apply Kd.R_drew)); exact HO165.out))) (Kd.R_lt (by (with_reducible repeat (first | apply Kd.R_alloc | apply Kd.R_drewN | apply Kd.R_drew)); exact HO170.out))) (below_size (by repeat (first | (with_reducible first | exact HB.out | apply below_alloc | apply pw_below_drewN | apply below_drew1 | refine below_set ?_ GE167.out) | exact HB.out)))); have n4_ := Aside0.mk (blk_below (g := gb167) (o := .cells #[.int .i64 t161, .int .i64 t162, .slice Ao13 t163.length co13] 51 (0, 0)) (by (with_reducible repeat (first | refine blk_drewN ?_ _ | refine blk_drew ?_ | refine blk_alloc ?_ _)); exact BK167.out) hb); have n5_ := Aside0.mk (below_step (by repeat (first | (with_reducible first | exact HB.out | apply below_alloc | apply pw_below_drewN | apply below_drew1 | refine below_set ?_ GE167.out) | exact HB.out)) hb); clear HO160; clear HO165; clear HO170; clear BK167; clear HB; have HO160 := n0_; have HO165 := n1_; have HO170 := n2_; have HO175 := n3_; have BK167 := n4_; have HB := n5_; clear n0_ n1_ n2_ n3_ n4_ n5_; (try clear hb); (try clear hb2); (try clear hk); (try clear hi); (try clear ho0)) | ((with_reducible refine gate_dst (N := 6) rfl ?_); refine box_event ?hg (N := 6) ?hd (cs := #[.int .i64 0, .int .i64 0, .slice none 0 0]) (t := 51) ?hr ?_; (case hd => rfl); (case hg => rfl); (case hr => first | (go_simp; done) | (go_simp; rfl)); intro gb177 hg w17 hbox hb; have n0_ := Aside0.mk (Kd.R_below (by (with_reducible repeat (first | apply Kd.R_alloc | apply Kd.R_drewN | apply Kd.R_drew)); exact HO160.out) hb); have n1_ := Aside0.mk (Kd.R_below (by (with_reducible repeat (first | apply Kd.R_alloc | apply Kd.R_drewN | apply Kd.R_drew)); exact HO165.out) hb); have n2_ := Aside0.mk (Kd.R_below (by (with_reducible repeat (first | apply Kd.R_alloc | apply Kd.R_drewN | apply Kd.R_drew)); exact HO170.out) hb); have n3_ := Aside0.mk (Kd.W_below (by (with_reducible repeat (first | apply Kd.W_alloc | apply Kd.W_drewN | apply Kd.W_drew)); exact HO175.out) hb); have n4_ := Aside0.mk (blk_below (g := gb167) (o := .cells #[.int .i64 t161, .int .i64 t162, .slice Ao13 t163.length co13] 51 (0, 0)) (by (with_reducible repeat (first | refine blk_drewN ?_ _ | refine blk_drew ?_ | refine blk_alloc ?_ _)); exact BK167.out) hb); have n5_ := Aside0.mk (below_step (by repeat (first | (with_reducible first | exact HB.out | apply below_alloc | apply pw_below_drewN | apply below_drew1 | refine below_set ?_ GE167.out) | exact HB.out)) hb); have n6_ := Aside0.mk (hbox); have n7_ := Aside0.mk ((by rw [hg]; exact (below_size (by repeat (first | (with_reducible first | exact HB.out | apply below_alloc | apply pw_below_drewN | apply below_drew1 | refine below_set ?_ GE167.out) | exact HB.out))) : w.heap.size ≤ gb177)); have n8_ := Aside0.mk ((by rw [hg]; exact (below_size (by repeat (first | (with_reducible first | exact HB.out | apply below_alloc | apply pw_below_drewN | apply below_drew1 | refine below_set ?_ GE167.out) | exact HB.out))) : w.heap.size ≤ gb177)); have n9_ := Aside0.mk ((by rw [hg]; exact Nat.ne_of_lt (blk_lt (g := gb167) (o := .cells #[.int .i64 t161, .int .i64 t162, .slice Ao13 t163.length co13] 51 (0, 0)) (by (with_reducible repeat (first | refine blk_drewN ?_ _ | refine blk_drew ?_ | refine blk_alloc ?_ _)); exact BK167.out)) : gb167 ≠ gb177)); have n10_ := Aside0.mk ((by rw [hg]; exact Nat.ne_of_gt (blk_lt (g := gb167) (o := .cells #[.int .i64 t161, .int .i64 t162, .slice Ao13 t163.length co13] 51 (0, 0)) (by (with_reducible repeat (first | refine blk_drewN ?_ _ | refine blk_drew ?_ | refine blk_alloc ?_ _)); exact BK167.out)) : gb177 ≠ gb167)); clear HO160; clear HO165; clear HO170; clear HO175; clear BK167; clear HB; have HO160 := n0_; have HO165 := n1_; have HO170 := n2_; have HO175 := n3_; have BK167 := n4_; have HB := n5_; have BK177 := n6_; have GW177 := n7_; have GE177 := n8_; have NB167_177 := n9_; have NB177_167 := n10_; clear n0_ n1_ n2_ n3_ n4_ n5_ n6_ n7_ n8_ n9_ n10_; clear hb hbox hg; have hnb18 := NB177_167.out; have hnc18 := NB167_177.out; have hcz19_0 : w17.cell? ⟨gb177, 0, none⟩ = some (.int .i64 0) := (blk_cell BK177.out 0).trans rfl; have hcz19_1 : w17.cell? ⟨gb177, 1, none⟩ = some (.int .i64 0) := (blk_cell BK177.out 1).trans rfl; have hcz19_2 : w17.cell? ⟨gb177, 2, none⟩ = some (.slice none 0 0) := (blk_cell BK177.out 2).trans rfl; have hfz19_0 := blk_frozen BK177.out 0; have hfz19_1 := blk_frozen BK177.out 1; have hfz19_2 := blk_frozen BK177.out 2; obtain ⟨Ao20, co20, eo20, _⟩ := Kd.W_slice HO175.out; subst eo20))
    (try simp only [Act.put, List.setIfInBounds_toArray, List.set_cons_zero, List.set_cons_succ])
    go_cut [37] (fun v37 wc => ∃ (kq : Nat) (x37_6 : Bool), v37 = .bool x37_6 ∧ Aside0 (laws_FnExactReadFrame.j0 kq l0 t166 t168 t176 x37_6 t161 t162 t163 t171 t172 t173 = some r) ∧ Aside0 (kq ≤ k) ∧ Aside0 (Kd.R (Kd.int .u8) 5 wc w.heap.size (fun k_ => some k_ ≠ ((.slice Ao13 t163.length co13) : Value).ownBlock ∧ some k_ ≠ ((.slice Ao20 t173.length co20) : Value).ownBlock) (.slice Ao15 t168.length co15) t168) ∧ Aside0 (Kd.W (Kd.int .u8) 5 wc w.heap.size (fun k_ => some k_ ≠ ((.slice Ao15 t168.length co15) : Value).ownBlock ∧ some k_ ≠ ((.slice Ao20 t173.length co20) : Value).ownBlock) (.slice Ao13 t163.length co13) t163) ∧ Aside0 (Kd.W (Kd.int .u8) 5 wc w.heap.size (fun k_ => some k_ ≠ ((.slice Ao15 t168.length co15) : Value).ownBlock ∧ some k_ ≠ ((.slice Ao13 t163.length co13) : Value).ownBlock) (.slice Ao20 t173.length co20) t173) ∧ Aside0 (wc.heap[gb167]? = some (.cells #[.int .i64 t161, .int .i64 t162, (.slice Ao13 t163.length co13)] 51 (0, 0))) ∧ Aside0 (wc.heap[gb177]? = some (.cells #[.int .i64 t171, .int .i64 t172, (.slice Ao20 t173.length co20)] 51 (0, 0))) ∧ Aside0 (Below w.heap.size w wc))
    case first =>
      have H := HC7.out
      clear HC7
      replace H := Option.bind_eq_some_iff.mp H
      obtain ⟨t178, A210, H⟩ := H
      replace H : (if t178 = true then (laws_FnExactReadFrame.j0 k l0 t166 t168 t176 (t176 != t166) t161 t162 t163 t171 t172 t173) else (laws_FnExactReadFrame.j0 k l0 t166 t168 t176 true t161 t162 t163 t171 t172 t173)) = some r := H
      have A21 := Aside0.mk A210
      clear A210
      by_cases c22 : t178 = true
      · subst c22
        have H1 : (laws_FnExactReadFrame.j0 k l0 t166 t168 t176 (t176 != t166) t161 t162 t163 t171 t172 t173) = some r := by rw [if_pos rfl] at H; exact H
        clear H
        have H := H1
        clear H1
        have H' := Aside0.mk H
        clear H
        have hnb23 := NB177_167.out
        have hnc23 := NB167_177.out
        have hcz24_0 : w17.cell? ⟨gb177, 0, none⟩ = some (.int .i64 0) := (blk_cell BK177.out 0).trans rfl
        have hcz24_1 : w17.cell? ⟨gb177, 1, none⟩ = some (.int .i64 0) := (blk_cell BK177.out 1).trans rfl
        have hcz24_2 : w17.cell? ⟨gb177, 2, none⟩ = some (.slice none 0 0) := (blk_cell BK177.out 2).trans rfl
        have hfz24_0 := blk_frozen BK177.out 0
        have hfz24_1 := blk_frozen BK177.out 1
        have hfz24_2 := blk_frozen BK177.out 2
        have hcz25_0 : w17.cell? ⟨gb167, 0, none⟩ = some (.int .i64 t161) := (blk_cell BK167.out 0).trans rfl
        have hcz25_1 : w17.cell? ⟨gb167, 1, none⟩ = some (.int .i64 t162) := (blk_cell BK167.out 1).trans rfl
        have hcz25_2 : w17.cell? ⟨gb167, 2, none⟩ = some (.slice Ao13 t163.length co13) := (blk_cell BK167.out 2).trans rfl
        have hfz25_0 := blk_frozen BK167.out 0
        have hfz25_1 := blk_frozen BK167.out 1
        have hfz25_2 := blk_frozen BK167.out 2
        go_wp2_with (first | ((with_reducible refine gate_callee (f := 43) rfl ?_); refine goesL_ (some 31) rfl rfl Try.func43 (by kernel_rfl) rfl #[.agg #[.int .i64 t171, .int .i64 t172, .slice Ao20 t173.length co20], .agg #[.int .i64 t161, .int .i64 t162, .slice Ao13 t163.length co13]] rfl (by (try simp only [List.map_toArray, List.map_cons, List.map_nil]); first | done | rfl | (simp only [List.length_drop, List.length_take]; rfl)) ?_; (with_reducible refine (laws_eqFrame.calls k t171 t172 _ _ t173 t161 t162 _ _ t163 true _ ?side1 ?side2 ?side3 ?side4 A21.out).mono ?_); (case side1 => refine (Kd.W_reads' (e := 5) (base := w.heap.size) (ok := fun k_ => (((True ∧ some k_ ≠ (.slice Ao9 t158.length co9 : Value).ownBlock) ∧ some k_ ≠ (.slice Ao13 t163.length co13 : Value).ownBlock) ∧ some k_ ≠ (.slice Ao15 t168.length co15 : Value).ownBlock)) (n := t173.length) (c := co20) ?_).2.2; exact (by (with_reducible repeat (first | apply Kd.W_alloc | apply Kd.W_drewN | apply Kd.W_drew)); exact (Kd.W_mono (Kd.W_far (p := ⟨gb177, 2, none⟩) (Kd.W_far (p := ⟨gb177, 1, none⟩) (Kd.W_far (p := ⟨gb177, 0, none⟩) (Kd.W_types HO175.out BK177.out (by decide)) (fun _ hk => by first | exact hk.2 | exact trivial) (.int .i64 t171)) (fun _ hk => by first | exact hk.2 | exact trivial) (.int .i64 t172)) (fun _ hk => by first | exact hk.2 | exact trivial) (.slice Ao20 t173.length co20)) (fun _ h_ => h_.1)))); (case side2 => exact (Kd.W_reads' HO175.out).2.1); (case side3 => refine (Kd.R_reads' (e := 5) (base := w.heap.size) (ok := fun k_ => (((True ∧ some k_ ≠ (.slice Ao9 t158.length co9 : Value).ownBlock) ∧ some k_ ≠ (.slice Ao15 t168.length co15 : Value).ownBlock) ∧ some k_ ≠ (.slice Ao20 t173.length co20 : Value).ownBlock)) (n := t163.length) (c := co13) ?_).2.2; exact (by (with_reducible repeat (first | apply Kd.R_alloc | apply Kd.R_drewN | apply Kd.R_drew)); exact (Kd.R_mono (Kd.R_far (p := ⟨gb177, 2, none⟩) (Kd.R_far (p := ⟨gb177, 1, none⟩) (Kd.R_far (p := ⟨gb177, 0, none⟩) (Kd.R_types HO165.out BK177.out (by decide)) (fun _ hk => by first | exact hk.2 | exact trivial) (.int .i64 t171)) (fun _ hk => by first | exact hk.2 | exact trivial) (.int .i64 t172)) (fun _ hk => by first | exact hk.2 | exact trivial) (.slice Ao20 t173.length co20)) (fun _ h_ => h_.1)))); (case side4 => exact (Kd.R_reads' HO165.out).2.1); rintro e w26 ⟨rfl, hb⟩; refine ⟨_, rfl, ?_⟩; have n0_ := Aside0.mk (Kd.R_below (by (with_reducible repeat (first | apply Kd.R_alloc | apply Kd.R_drewN | apply Kd.R_drew)); exact (Kd.R_mono (Kd.R_far (p := ⟨gb177, 2, none⟩) (Kd.R_far (p := ⟨gb177, 1, none⟩) (Kd.R_far (p := ⟨gb177, 0, none⟩) (Kd.R_types HO160.out BK177.out (by decide)) (fun _ hk => by first | exact hk.2 | exact trivial) (.int .i64 t171)) (fun _ hk => by first | exact hk.2 | exact trivial) (.int .i64 t172)) (fun _ hk => by first | exact hk.2 | exact trivial) (.slice Ao20 t173.length co20)) (fun _ h_ => h_.1))) hb); have n1_ := Aside0.mk (Kd.R_below (by (with_reducible repeat (first | apply Kd.R_alloc | apply Kd.R_drewN | apply Kd.R_drew)); exact (Kd.R_mono (Kd.R_far (p := ⟨gb177, 2, none⟩) (Kd.R_far (p := ⟨gb177, 1, none⟩) (Kd.R_far (p := ⟨gb177, 0, none⟩) (Kd.R_types HO165.out BK177.out (by decide)) (fun _ hk => by first | exact hk.2 | exact trivial) (.int .i64 t171)) (fun _ hk => by first | exact hk.2 | exact trivial) (.int .i64 t172)) (fun _ hk => by first | exact hk.2 | exact trivial) (.slice Ao20 t173.length co20)) (fun _ h_ => h_.1))) hb); have n2_ := Aside0.mk (Kd.R_below (by (with_reducible repeat (first | apply Kd.R_alloc | apply Kd.R_drewN | apply Kd.R_drew)); exact (Kd.R_mono (Kd.R_far (p := ⟨gb177, 2, none⟩) (Kd.R_far (p := ⟨gb177, 1, none⟩) (Kd.R_far (p := ⟨gb177, 0, none⟩) (Kd.R_types HO170.out BK177.out (by decide)) (fun _ hk => by first | exact hk.2 | exact trivial) (.int .i64 t171)) (fun _ hk => by first | exact hk.2 | exact trivial) (.int .i64 t172)) (fun _ hk => by first | exact hk.2 | exact trivial) (.slice Ao20 t173.length co20)) (fun _ h_ => h_.1))) hb); have n3_ := Aside0.mk (Kd.W_below (by (with_reducible repeat (first | apply Kd.W_alloc | apply Kd.W_drewN | apply Kd.W_drew)); exact (Kd.W_mono (Kd.W_far (p := ⟨gb177, 2, none⟩) (Kd.W_far (p := ⟨gb177, 1, none⟩) (Kd.W_far (p := ⟨gb177, 0, none⟩) (Kd.W_types HO175.out BK177.out (by decide)) (fun _ hk => by first | exact hk.2 | exact trivial) (.int .i64 t171)) (fun _ hk => by first | exact hk.2 | exact trivial) (.int .i64 t172)) (fun _ hk => by first | exact hk.2 | exact trivial) (.slice Ao20 t173.length co20)) (fun _ h_ => h_.1))) hb); have n4_ := Aside0.mk (blk_below (g := gb167) (o := .cells #[.int .i64 t161, .int .i64 t162, .slice Ao13 t163.length co13] 51 (0, 0)) (by (with_reducible repeat (first | refine blk_drewN ?_ _ | refine blk_drew ?_ | refine blk_alloc ?_ _)); refine blk_far ?_ NB167_177.out _; (with_reducible repeat (first | refine blk_drewN ?_ _ | refine blk_drew ?_ | refine blk_alloc ?_ _)); refine blk_far ?_ NB167_177.out _; (with_reducible repeat (first | refine blk_drewN ?_ _ | refine blk_drew ?_ | refine blk_alloc ?_ _)); refine blk_far ?_ NB167_177.out _; (with_reducible repeat (first | refine blk_drewN ?_ _ | refine blk_drew ?_ | refine blk_alloc ?_ _)); exact BK167.out) hb); have n5_ := Aside0.mk (blk_below (g := gb177) (o := .cells #[.int .i64 t171, .int .i64 t172, .slice Ao20 t173.length co20] 51 (0, 0)) (by (with_reducible repeat (first | refine blk_drewN ?_ _ | refine blk_drew ?_ | refine blk_alloc ?_ _)); refine blk_put (cs := #[.int .i64 t171, .int .i64 t172, .slice none 0 0]) ?_ 2 _ rfl; (with_reducible repeat (first | refine blk_drewN ?_ _ | refine blk_drew ?_ | refine blk_alloc ?_ _)); refine blk_put (cs := #[.int .i64 t171, .int .i64 0, .slice none 0 0]) ?_ 1 _ rfl; (with_reducible repeat (first | refine blk_drewN ?_ _ | refine blk_drew ?_ | refine blk_alloc ?_ _)); refine blk_put (cs := #[.int .i64 0, .int .i64 0, .slice none 0 0]) ?_ 0 _ rfl; (with_reducible repeat (first | refine blk_drewN ?_ _ | refine blk_drew ?_ | refine blk_alloc ?_ _)); exact BK177.out) hb); have n6_ := Aside0.mk (below_step (by repeat (first | (with_reducible first | exact HB.out | apply below_alloc | apply pw_below_drewN | apply below_drew1 | refine below_set ?_ GE167.out | refine below_set ?_ GE177.out) | exact HB.out)) hb); clear HO160; clear HO165; clear HO170; clear HO175; clear BK167; clear BK177; clear HB; have HO160 := n0_; have HO165 := n1_; have HO170 := n2_; have HO175 := n3_; have BK167 := n4_; have BK177 := n5_; have HB := n6_; clear n0_ n1_ n2_ n3_ n4_ n5_ n6_; (try clear hb); (try clear hb2); (try clear hk); (try clear hi)))
        go_meet
        case rel => exact ⟨_, ((t176 != t166)), (by first | rfl | (simp; done) | (simp [*]; done)), H', ⟨by first | omega | exact Nat.le_refl _⟩, ⟨by (with_reducible repeat (first | apply Kd.R_alloc | apply Kd.R_drewN | apply Kd.R_drew)); exact Kd.R_mono HO170.out (fun _ hk => by first | exact ⟨hk.1.2, hk.2⟩ | simp only [hk, ne_eq, not_false_eq_true, and_self, true_and])⟩, ⟨Kd.W_of_R (by (with_reducible repeat (first | apply Kd.R_alloc | apply Kd.R_drewN | apply Kd.R_drew)); exact Kd.R_mono HO165.out (fun _ hk => by first | exact ⟨hk.1.2, hk.2⟩ | simp only [hk, ne_eq, not_false_eq_true, and_self, true_and]))⟩, ⟨by (with_reducible repeat (first | apply Kd.W_alloc | apply Kd.W_drewN | apply Kd.W_drew)); exact Kd.W_mono HO175.out (fun _ hk => by first | exact ⟨hk.2, hk.1.2⟩ | simp only [hk, ne_eq, not_false_eq_true, and_self, true_and])⟩, ⟨by (with_reducible repeat (first | refine blk_drewN ?_ _ | refine blk_drew ?_ | refine blk_alloc ?_ _)); exact BK167.out⟩, ⟨by (with_reducible repeat (first | refine blk_drewN ?_ _ | refine blk_drew ?_ | refine blk_alloc ?_ _)); exact BK177.out⟩, ⟨by repeat (first | (with_reducible first | exact HB.out | apply below_alloc | apply pw_below_drewN | apply below_drew1 | refine below_set ?_ GE167.out | refine below_set ?_ GE177.out) | exact HB.out)⟩⟩
      · replace c22 := Bool.eq_false_iff.mpr c22
        subst c22
        have H1 : (laws_FnExactReadFrame.j0 k l0 t166 t168 t176 true t161 t162 t163 t171 t172 t173) = some r := by rw [if_neg (show ¬ (false = true) by decide)] at H; exact H
        clear H
        have H := H1
        clear H1
        have H' := Aside0.mk H
        clear H
        have hnb27 := NB177_167.out
        have hnc27 := NB167_177.out
        have hcz28_0 : w17.cell? ⟨gb177, 0, none⟩ = some (.int .i64 0) := (blk_cell BK177.out 0).trans rfl
        have hcz28_1 : w17.cell? ⟨gb177, 1, none⟩ = some (.int .i64 0) := (blk_cell BK177.out 1).trans rfl
        have hcz28_2 : w17.cell? ⟨gb177, 2, none⟩ = some (.slice none 0 0) := (blk_cell BK177.out 2).trans rfl
        have hfz28_0 := blk_frozen BK177.out 0
        have hfz28_1 := blk_frozen BK177.out 1
        have hfz28_2 := blk_frozen BK177.out 2
        have hcz29_0 : w17.cell? ⟨gb167, 0, none⟩ = some (.int .i64 t161) := (blk_cell BK167.out 0).trans rfl
        have hcz29_1 : w17.cell? ⟨gb167, 1, none⟩ = some (.int .i64 t162) := (blk_cell BK167.out 1).trans rfl
        have hcz29_2 : w17.cell? ⟨gb167, 2, none⟩ = some (.slice Ao13 t163.length co13) := (blk_cell BK167.out 2).trans rfl
        have hfz29_0 := blk_frozen BK167.out 0
        have hfz29_1 := blk_frozen BK167.out 1
        have hfz29_2 := blk_frozen BK167.out 2
        go_wp2_with (first | ((with_reducible refine gate_callee (f := 43) rfl ?_); refine goesL_ (some 31) rfl rfl Try.func43 (by kernel_rfl) rfl #[.agg #[.int .i64 t171, .int .i64 t172, .slice Ao20 t173.length co20], .agg #[.int .i64 t161, .int .i64 t162, .slice Ao13 t163.length co13]] rfl (by (try simp only [List.map_toArray, List.map_cons, List.map_nil]); first | done | rfl | (simp only [List.length_drop, List.length_take]; rfl)) ?_; (with_reducible refine (laws_eqFrame.calls k t171 t172 _ _ t173 t161 t162 _ _ t163 false _ ?side1 ?side2 ?side3 ?side4 A21.out).mono ?_); (case side1 => refine (Kd.W_reads' (e := 5) (base := w.heap.size) (ok := fun k_ => (((True ∧ some k_ ≠ (.slice Ao9 t158.length co9 : Value).ownBlock) ∧ some k_ ≠ (.slice Ao13 t163.length co13 : Value).ownBlock) ∧ some k_ ≠ (.slice Ao15 t168.length co15 : Value).ownBlock)) (n := t173.length) (c := co20) ?_).2.2; exact (by (with_reducible repeat (first | apply Kd.W_alloc | apply Kd.W_drewN | apply Kd.W_drew)); exact (Kd.W_mono (Kd.W_far (p := ⟨gb177, 2, none⟩) (Kd.W_far (p := ⟨gb177, 1, none⟩) (Kd.W_far (p := ⟨gb177, 0, none⟩) (Kd.W_types HO175.out BK177.out (by decide)) (fun _ hk => by first | exact hk.2 | exact trivial) (.int .i64 t171)) (fun _ hk => by first | exact hk.2 | exact trivial) (.int .i64 t172)) (fun _ hk => by first | exact hk.2 | exact trivial) (.slice Ao20 t173.length co20)) (fun _ h_ => h_.1)))); (case side2 => exact (Kd.W_reads' HO175.out).2.1); (case side3 => refine (Kd.R_reads' (e := 5) (base := w.heap.size) (ok := fun k_ => (((True ∧ some k_ ≠ (.slice Ao9 t158.length co9 : Value).ownBlock) ∧ some k_ ≠ (.slice Ao15 t168.length co15 : Value).ownBlock) ∧ some k_ ≠ (.slice Ao20 t173.length co20 : Value).ownBlock)) (n := t163.length) (c := co13) ?_).2.2; exact (by (with_reducible repeat (first | apply Kd.R_alloc | apply Kd.R_drewN | apply Kd.R_drew)); exact (Kd.R_mono (Kd.R_far (p := ⟨gb177, 2, none⟩) (Kd.R_far (p := ⟨gb177, 1, none⟩) (Kd.R_far (p := ⟨gb177, 0, none⟩) (Kd.R_types HO165.out BK177.out (by decide)) (fun _ hk => by first | exact hk.2 | exact trivial) (.int .i64 t171)) (fun _ hk => by first | exact hk.2 | exact trivial) (.int .i64 t172)) (fun _ hk => by first | exact hk.2 | exact trivial) (.slice Ao20 t173.length co20)) (fun _ h_ => h_.1)))); (case side4 => exact (Kd.R_reads' HO165.out).2.1); rintro e w30 ⟨rfl, hb⟩; refine ⟨_, rfl, ?_⟩; have n0_ := Aside0.mk (Kd.R_below (by (with_reducible repeat (first | apply Kd.R_alloc | apply Kd.R_drewN | apply Kd.R_drew)); exact (Kd.R_mono (Kd.R_far (p := ⟨gb177, 2, none⟩) (Kd.R_far (p := ⟨gb177, 1, none⟩) (Kd.R_far (p := ⟨gb177, 0, none⟩) (Kd.R_types HO160.out BK177.out (by decide)) (fun _ hk => by first | exact hk.2 | exact trivial) (.int .i64 t171)) (fun _ hk => by first | exact hk.2 | exact trivial) (.int .i64 t172)) (fun _ hk => by first | exact hk.2 | exact trivial) (.slice Ao20 t173.length co20)) (fun _ h_ => h_.1))) hb); have n1_ := Aside0.mk (Kd.R_below (by (with_reducible repeat (first | apply Kd.R_alloc | apply Kd.R_drewN | apply Kd.R_drew)); exact (Kd.R_mono (Kd.R_far (p := ⟨gb177, 2, none⟩) (Kd.R_far (p := ⟨gb177, 1, none⟩) (Kd.R_far (p := ⟨gb177, 0, none⟩) (Kd.R_types HO165.out BK177.out (by decide)) (fun _ hk => by first | exact hk.2 | exact trivial) (.int .i64 t171)) (fun _ hk => by first | exact hk.2 | exact trivial) (.int .i64 t172)) (fun _ hk => by first | exact hk.2 | exact trivial) (.slice Ao20 t173.length co20)) (fun _ h_ => h_.1))) hb); have n2_ := Aside0.mk (Kd.R_below (by (with_reducible repeat (first | apply Kd.R_alloc | apply Kd.R_drewN | apply Kd.R_drew)); exact (Kd.R_mono (Kd.R_far (p := ⟨gb177, 2, none⟩) (Kd.R_far (p := ⟨gb177, 1, none⟩) (Kd.R_far (p := ⟨gb177, 0, none⟩) (Kd.R_types HO170.out BK177.out (by decide)) (fun _ hk => by first | exact hk.2 | exact trivial) (.int .i64 t171)) (fun _ hk => by first | exact hk.2 | exact trivial) (.int .i64 t172)) (fun _ hk => by first | exact hk.2 | exact trivial) (.slice Ao20 t173.length co20)) (fun _ h_ => h_.1))) hb); have n3_ := Aside0.mk (Kd.W_below (by (with_reducible repeat (first | apply Kd.W_alloc | apply Kd.W_drewN | apply Kd.W_drew)); exact (Kd.W_mono (Kd.W_far (p := ⟨gb177, 2, none⟩) (Kd.W_far (p := ⟨gb177, 1, none⟩) (Kd.W_far (p := ⟨gb177, 0, none⟩) (Kd.W_types HO175.out BK177.out (by decide)) (fun _ hk => by first | exact hk.2 | exact trivial) (.int .i64 t171)) (fun _ hk => by first | exact hk.2 | exact trivial) (.int .i64 t172)) (fun _ hk => by first | exact hk.2 | exact trivial) (.slice Ao20 t173.length co20)) (fun _ h_ => h_.1))) hb); have n4_ := Aside0.mk (blk_below (g := gb167) (o := .cells #[.int .i64 t161, .int .i64 t162, .slice Ao13 t163.length co13] 51 (0, 0)) (by (with_reducible repeat (first | refine blk_drewN ?_ _ | refine blk_drew ?_ | refine blk_alloc ?_ _)); refine blk_far ?_ NB167_177.out _; (with_reducible repeat (first | refine blk_drewN ?_ _ | refine blk_drew ?_ | refine blk_alloc ?_ _)); refine blk_far ?_ NB167_177.out _; (with_reducible repeat (first | refine blk_drewN ?_ _ | refine blk_drew ?_ | refine blk_alloc ?_ _)); refine blk_far ?_ NB167_177.out _; (with_reducible repeat (first | refine blk_drewN ?_ _ | refine blk_drew ?_ | refine blk_alloc ?_ _)); exact BK167.out) hb); have n5_ := Aside0.mk (blk_below (g := gb177) (o := .cells #[.int .i64 t171, .int .i64 t172, .slice Ao20 t173.length co20] 51 (0, 0)) (by (with_reducible repeat (first | refine blk_drewN ?_ _ | refine blk_drew ?_ | refine blk_alloc ?_ _)); refine blk_put (cs := #[.int .i64 t171, .int .i64 t172, .slice none 0 0]) ?_ 2 _ rfl; (with_reducible repeat (first | refine blk_drewN ?_ _ | refine blk_drew ?_ | refine blk_alloc ?_ _)); refine blk_put (cs := #[.int .i64 t171, .int .i64 0, .slice none 0 0]) ?_ 1 _ rfl; (with_reducible repeat (first | refine blk_drewN ?_ _ | refine blk_drew ?_ | refine blk_alloc ?_ _)); refine blk_put (cs := #[.int .i64 0, .int .i64 0, .slice none 0 0]) ?_ 0 _ rfl; (with_reducible repeat (first | refine blk_drewN ?_ _ | refine blk_drew ?_ | refine blk_alloc ?_ _)); exact BK177.out) hb); have n6_ := Aside0.mk (below_step (by repeat (first | (with_reducible first | exact HB.out | apply below_alloc | apply pw_below_drewN | apply below_drew1 | refine below_set ?_ GE167.out | refine below_set ?_ GE177.out) | exact HB.out)) hb); clear HO160; clear HO165; clear HO170; clear HO175; clear BK167; clear BK177; clear HB; have HO160 := n0_; have HO165 := n1_; have HO170 := n2_; have HO175 := n3_; have BK167 := n4_; have BK177 := n5_; have HB := n6_; clear n0_ n1_ n2_ n3_ n4_ n5_ n6_; (try clear hb); (try clear hb2); (try clear hk); (try clear hi)))
        go_meet
        case rel => exact ⟨_, (true), (by first | rfl | (simp; done) | (simp [*]; done)), H', ⟨by first | omega | exact Nat.le_refl _⟩, ⟨by (with_reducible repeat (first | apply Kd.R_alloc | apply Kd.R_drewN | apply Kd.R_drew)); exact Kd.R_mono HO170.out (fun _ hk => by first | exact ⟨hk.1.2, hk.2⟩ | simp only [hk, ne_eq, not_false_eq_true, and_self, true_and])⟩, ⟨Kd.W_of_R (by (with_reducible repeat (first | apply Kd.R_alloc | apply Kd.R_drewN | apply Kd.R_drew)); exact Kd.R_mono HO165.out (fun _ hk => by first | exact ⟨hk.1.2, hk.2⟩ | simp only [hk, ne_eq, not_false_eq_true, and_self, true_and]))⟩, ⟨by (with_reducible repeat (first | apply Kd.W_alloc | apply Kd.W_drewN | apply Kd.W_drew)); exact Kd.W_mono HO175.out (fun _ hk => by first | exact ⟨hk.2, hk.1.2⟩ | simp only [hk, ne_eq, not_false_eq_true, and_self, true_and])⟩, ⟨by (with_reducible repeat (first | refine blk_drewN ?_ _ | refine blk_drew ?_ | refine blk_alloc ?_ _)); exact BK167.out⟩, ⟨by (with_reducible repeat (first | refine blk_drewN ?_ _ | refine blk_drew ?_ | refine blk_alloc ?_ _)); exact BK177.out⟩, ⟨by repeat (first | (with_reducible first | exact HB.out | apply below_alloc | apply pw_below_drewN | apply below_drew1 | refine below_set ?_ GE167.out | refine below_set ?_ GE177.out) | exact HB.out)⟩⟩
    case rest =>
      clear HC7
      try clear c1
      try clear c2
      try clear c2b0
      try clear c2b1
      try clear p2
      try clear c4
      try clear c11
      try clear c18
      try clear c20
      try clear c22
      try clear c23
      try clear c27
      try clear hcz12_0
      try clear hcz12_1
      try clear hcz12_2
      try clear hcz19_0
      try clear hcz19_1
      try clear hcz19_2
      try clear hcz24_0
      try clear hcz24_1
      try clear hcz24_2
      try clear hcz25_0
      try clear hcz25_1
      try clear hcz25_2
      try clear hcz28_0
      try clear hcz28_1
      try clear hcz28_2
      try clear hcz29_0
      try clear hcz29_1
      try clear hcz29_2
      try clear hfz12_0
      try clear hfz12_1
      try clear hfz12_2
      try clear hfz19_0
      try clear hfz19_1
      try clear hfz19_2
      try clear hfz24_0
      try clear hfz24_1
      try clear hfz24_2
      try clear hfz25_0
      try clear hfz25_1
      try clear hfz25_2
      try clear hfz28_0
      try clear hfz28_1
      try clear hfz28_2
      try clear hfz29_0
      try clear hfz29_1
      try clear hfz29_2
      obtain ⟨kq, x37_6, rfl, HA, HJ6, HO_5, HO_168002, HO_178002, BK167, BK177, HB⟩ := hcut
      cases kq with
      | zero => exact absurd HA.out (by simp [laws_FnExactReadFrame.j0])
      | succ kj6 =>
        have H := HA.out
        clear HA
        simp only [laws_FnExactReadFrame.j0] at H
        by_cases c31 : x37_6 = true
        · subst c31
          have H1 : (some false) = some r := by rw [if_pos rfl] at H; exact H
          clear H
          have H := H1
          clear H1
          obtain rfl := Option.some.inj H
          go_wp2
          go_ret
          exact ⟨by first | rfl | (simp [errW_none, errW_some] <;> rfl) | (simp [*, errW_none, errW_some] <;> rfl), by repeat (first | (with_reducible first | exact HB.out | apply below_alloc | apply pw_below_drewN | apply below_drew1 | refine below_set ?_ GE167.out | refine below_set ?_ GE177.out) | exact HB.out)⟩
        · replace c31 := Bool.eq_false_iff.mpr c31
          subst c31
          have H1 : ((laws_toByteS.f kj6 l0).bind fun t179 => ((laws_eqByteS.f kj6 t168 t179).bind fun t182 => (if t182 = true then ((laws_markByteS.f kj6 t168 1).bind fun bt183 => (if bt183.1 < 0 then (laws_FnExactReadFrame.j1 kj6 l0 t166 true t161 t162 t163 t171 t172 t173) else ((laws_eqFrame.f kj6 t171 t172 t173 t161 t162 t163).bind fun t185 => (if t185 = true then (laws_FnExactReadFrame.j1 kj6 l0 t166 (t176 != t166) t161 t162 t163 t171 t172 t173) else (laws_FnExactReadFrame.j1 kj6 l0 t166 true t161 t162 t163 t171 t172 t173))))) else (some false)))) = some r := by rw [if_neg (show ¬ (false = true) by decide)] at H; exact H
          clear H
          have H := H1
          clear H1
          replace H := Option.bind_eq_some_iff.mp H
          obtain ⟨t179, A320, H⟩ := H
          replace H : ((laws_eqByteS.f kj6 t168 t179).bind fun t182 => (if t182 = true then ((laws_markByteS.f kj6 t168 1).bind fun bt183 => (if bt183.1 < 0 then (laws_FnExactReadFrame.j1 kj6 l0 t166 true t161 t162 t163 t171 t172 t173) else ((laws_eqFrame.f kj6 t171 t172 t173 t161 t162 t163).bind fun t185 => (if t185 = true then (laws_FnExactReadFrame.j1 kj6 l0 t166 (t176 != t166) t161 t162 t163 t171 t172 t173) else (laws_FnExactReadFrame.j1 kj6 l0 t166 true t161 t162 t163 t171 t172 t173))))) else (some false))) = some r := H
          have A32 := Aside0.mk A320
          clear A320
          replace H := Option.bind_eq_some_iff.mp H
          obtain ⟨t182, A330, H⟩ := H
          replace H : (if t182 = true then ((laws_markByteS.f kj6 t168 1).bind fun bt183 => (if bt183.1 < 0 then (laws_FnExactReadFrame.j1 kj6 l0 t166 true t161 t162 t163 t171 t172 t173) else ((laws_eqFrame.f kj6 t171 t172 t173 t161 t162 t163).bind fun t185 => (if t185 = true then (laws_FnExactReadFrame.j1 kj6 l0 t166 (t176 != t166) t161 t162 t163 t171 t172 t173) else (laws_FnExactReadFrame.j1 kj6 l0 t166 true t161 t162 t163 t171 t172 t173))))) else (some false)) = some r := H
          have A33 := Aside0.mk A330
          clear A330
          by_cases c34 : t182 = true
          · subst c34
            have H1 : ((laws_markByteS.f kj6 t168 1).bind fun bt183 => (if bt183.1 < 0 then (laws_FnExactReadFrame.j1 kj6 l0 t166 true t161 t162 t163 t171 t172 t173) else ((laws_eqFrame.f kj6 t171 t172 t173 t161 t162 t163).bind fun t185 => (if t185 = true then (laws_FnExactReadFrame.j1 kj6 l0 t166 (t176 != t166) t161 t162 t163 t171 t172 t173) else (laws_FnExactReadFrame.j1 kj6 l0 t166 true t161 t162 t163 t171 t172 t173))))) = some r := by rw [if_pos rfl] at H; exact H
            clear H
            have H := H1
            clear H1
            replace H := Option.bind_eq_some_iff.mp H
            obtain ⟨⟨t183, t184⟩, A350, H⟩ := H
            replace H : (if t183 < 0 then (laws_FnExactReadFrame.j1 kj6 l0 t166 true t161 t162 t163 t171 t172 t173) else ((laws_eqFrame.f kj6 t171 t172 t173 t161 t162 t163).bind fun t185 => (if t185 = true then (laws_FnExactReadFrame.j1 kj6 l0 t166 (t176 != t166) t161 t162 t163 t171 t172 t173) else (laws_FnExactReadFrame.j1 kj6 l0 t166 true t161 t162 t163 t171 t172 t173)))) = some r := H
            have A35 := Aside0.mk A350
            clear A350
            have HC36 := Aside0.mk H
            clear H
            go_upto_region 12 with (first | ((with_reducible refine gate_callee (f := 20) rfl ?_); refine goesL_ (some 40) rfl rfl Try.func20 (by kernel_rfl) rfl #[.slice A0 l0.length c0] rfl (by (try simp only [List.map_toArray, List.map_cons, List.map_nil]); first | done | rfl | (simp only [List.length_drop, List.length_take]; rfl)) ?_; (with_reducible refine (laws_toByteS.calls kj6 _ _ l0 t179 _ ?side1 ?side2 A32.out).mono ?_); (case side1 => repeat (first | exact (Kd.C_below HR0.out HB.out) | (with_reducible refine Kd.C_alloc ?_ _) | (with_reducible refine Kd.C_drewN ?_ _) | (with_reducible refine Kd.C_drew ?_))); (case side2 => exact HC0.out); rintro e w37 ⟨v180, rfl, ho0, hb⟩; refine ⟨_, rfl, ?_⟩; have n0_ := Aside0.mk (Kd.R_elder' (by (with_reducible repeat (first | apply Kd.R_alloc | apply Kd.R_drewN | apply Kd.R_drew)); exact HO_5.out) (Kd.R_base ho0) hb); have n1_ := Aside0.mk (Kd.W_elder' (by (with_reducible repeat (first | apply Kd.W_alloc | apply Kd.W_drewN | apply Kd.W_drew)); exact HO_168002.out) (Kd.R_base ho0) hb); have n2_ := Aside0.mk (Kd.W_elder' (by (with_reducible repeat (first | apply Kd.W_alloc | apply Kd.W_drewN | apply Kd.W_drew)); exact HO_178002.out) (Kd.R_base ho0) hb); have n3_ := Aside0.mk (Kd.R_lower (Kd.R_new' (Kd.R_new' (Kd.R_new' ho0 (Kd.R_lt (by (with_reducible repeat (first | apply Kd.R_alloc | apply Kd.R_drewN | apply Kd.R_drew)); exact HO_5.out))) (Kd.W_lt (by (with_reducible repeat (first | apply Kd.W_alloc | apply Kd.W_drewN | apply Kd.W_drew)); exact HO_168002.out))) (Kd.W_lt (by (with_reducible repeat (first | apply Kd.W_alloc | apply Kd.W_drewN | apply Kd.W_drew)); exact HO_178002.out))) (below_size (by repeat (first | (with_reducible first | exact HB.out | apply below_alloc | apply pw_below_drewN | apply below_drew1 | refine below_set ?_ GE167.out | refine below_set ?_ GE177.out) | exact HB.out)))); have n4_ := Aside0.mk (blk_below (g := gb167) (o := .cells #[.int .i64 t161, .int .i64 t162, .slice Ao13 t163.length co13] 51 (0, 0)) (by (with_reducible repeat (first | refine blk_drewN ?_ _ | refine blk_drew ?_ | refine blk_alloc ?_ _)); exact BK167.out) hb); have n5_ := Aside0.mk (blk_below (g := gb177) (o := .cells #[.int .i64 t171, .int .i64 t172, .slice Ao20 t173.length co20] 51 (0, 0)) (by (with_reducible repeat (first | refine blk_drewN ?_ _ | refine blk_drew ?_ | refine blk_alloc ?_ _)); exact BK177.out) hb); have n6_ := Aside0.mk (below_step (by repeat (first | (with_reducible first | exact HB.out | apply below_alloc | apply pw_below_drewN | apply below_drew1 | refine below_set ?_ GE167.out | refine below_set ?_ GE177.out) | exact HB.out)) hb); clear HO_5; clear HO_168002; clear HO_178002; clear BK167; clear BK177; clear HB; have HO_5 := n0_; have HO_168002 := n1_; have HO_178002 := n2_; have HO181 := n3_; have BK167 := n4_; have BK177 := n5_; have HB := n6_; clear n0_ n1_ n2_ n3_ n4_ n5_ n6_; (try clear hb); (try clear hb2); (try clear hk); (try clear hi); (try clear ho0); obtain ⟨Ao38, co38, eo38⟩ := Kd.R_slice HO181.out; subst eo38) | ((with_reducible refine gate_callee (f := 22) rfl ?_); refine goesL_ (some 41) rfl rfl Try.func22 (by kernel_rfl) rfl #[.slice Ao15 t168.length co15, .slice Ao38 t179.length co38] rfl (by (try simp only [List.map_toArray, List.map_cons, List.map_nil]); first | done | rfl | (simp only [List.length_drop, List.length_take]; rfl)) ?_; (with_reducible refine (laws_eqByteS.calls kj6 _ _ t168 _ _ t179 true _ ?side1 ?side2 ?side3 ?side4 A33.out).mono ?_); (case side1 => repeat (first | exact (Kd.R_reads' HO_5.out).2.2 | (with_reducible refine Kd.C_alloc ?_ _) | (with_reducible refine Kd.C_drewN ?_ _) | (with_reducible refine Kd.C_drew ?_))); (case side2 => exact (Kd.R_reads' HO_5.out).2.1); (case side3 => repeat (first | exact (Kd.R_reads' HO181.out).2.2 | (with_reducible refine Kd.C_alloc ?_ _) | (with_reducible refine Kd.C_drewN ?_ _) | (with_reducible refine Kd.C_drew ?_))); (case side4 => exact (Kd.R_reads' HO181.out).2.1); rintro e w' ⟨rfl, ⟨nd, rfl⟩⟩; refine ⟨_, rfl, ?_⟩) | ((with_reducible refine gate_callee (f := 23) rfl ?_); refine goesL_ (some 45) rfl rfl Try.func23 (by kernel_rfl) rfl #[.slice Ao15 t168.length co15, .int .i64 1] rfl (by (try simp only [List.map_toArray, List.map_cons, List.map_nil]); first | done | rfl | (simp only [List.length_drop, List.length_take]; rfl)) ?_; (with_reducible refine (laws_markByteS.calls kj6 (fun k_ => some k_ = (.slice Ao15 t168.length co15 : Value).ownBlock) (.slice Ao15 t168.length co15) t168 1 t183 t184 w _ ?side1 ?side2 A35.out).mono ?_); (case side1 => repeat (first | (with_reducible first | exact HB.out | apply below_alloc | apply pw_below_drewN | apply below_drew1 | refine below_set ?_ GE167.out | refine below_set ?_ GE177.out) | exact HB.out)); (case side2 => exact Kd.R_tight rfl HO_5.out); rintro e w39 ⟨rfl, hy0, hb, hkp⟩; refine ⟨_, rfl, ?_⟩; have n0_ := Aside0.mk (Kd.R_reok rfl hy0 (fun k_ e_ => HO_5.out.1 k_ e_)); have n1_ := Aside0.mk (Kd.W_mono (ok' := fun k_ => some k_ ≠ (.slice Ao15 t168.length co15 : Value).ownBlock ∧ some k_ ≠ (.slice Ao20 t173.length co20 : Value).ownBlock ∧ some k_ ≠ (.slice Ao38 t179.length co38 : Value).ownBlock) (Kd.W_keptB (HO_168002.out) hkp (fun k_ hk_ hs_ => by first | exact (hk_.1.1) hs_ | (simp only [hs_, ne_eq, not_true_eq_false, and_false, false_and] at hk_))) (fun k_ hk_ => by first | exact ⟨hk_.1.1.1, hk_.1.1.2, hk_.1.2⟩ | simp only [hk_, ne_eq, not_false_eq_true, and_self, true_and])); have n2_ := Aside0.mk (Kd.W_mono (ok' := fun k_ => some k_ ≠ (.slice Ao15 t168.length co15 : Value).ownBlock ∧ some k_ ≠ (.slice Ao13 t163.length co13 : Value).ownBlock ∧ some k_ ≠ (.slice Ao38 t179.length co38 : Value).ownBlock) (Kd.W_keptB (HO_178002.out) hkp (fun k_ hk_ hs_ => by first | exact (hk_.1.1) hs_ | (simp only [hs_, ne_eq, not_true_eq_false, and_false, false_and] at hk_))) (fun k_ hk_ => by first | exact ⟨hk_.1.1.1, hk_.1.1.2, hk_.1.2⟩ | simp only [hk_, ne_eq, not_false_eq_true, and_self, true_and])); have n3_ := Aside0.mk (blk_kept (by (with_reducible repeat (first | refine blk_drewN ?_ _ | refine blk_drew ?_ | refine blk_alloc ?_ _)); exact BK167.out) hkp (fun hs_ => (fun e_ => (Kd.R_ne HO_5.out BK167.out (by decide)) e_) hs_)); have n4_ := Aside0.mk (blk_kept (by (with_reducible repeat (first | refine blk_drewN ?_ _ | refine blk_drew ?_ | refine blk_alloc ?_ _)); exact BK177.out) hkp (fun hs_ => (fun e_ => (Kd.R_ne HO_5.out BK177.out (by decide)) e_) hs_)); have n5_ := Aside0.mk (Kd.R_mono (ok' := fun k_ => some k_ ≠ (.slice Ao15 t168.length co15 : Value).ownBlock ∧ some k_ ≠ (.slice Ao13 t163.length co13 : Value).ownBlock ∧ some k_ ≠ (.slice Ao20 t173.length co20 : Value).ownBlock) (Kd.R_keptB (HO181.out) hkp (fun k_ hk_ hs_ => by first | exact (hk_.1.1.2) hs_ | (simp only [hs_, ne_eq, not_true_eq_false, and_false, false_and] at hk_))) (fun k_ hk_ => by first | exact ⟨hk_.1.1.1.2, hk_.1.1.2, hk_.1.2⟩ | simp only [hk_, ne_eq, not_false_eq_true, and_self, true_and])); have n6_ := Aside0.mk (hb); clear HO_5; clear HO_168002; clear HO_178002; clear BK167; clear BK177; clear HO181; clear HB; have HO_5 := n0_; have HO_168002 := n1_; have HO_178002 := n2_; have BK167 := n3_; have BK177 := n4_; have HO181 := n5_; have HB := n6_; clear n0_ n1_ n2_ n3_ n4_ n5_ n6_; (try clear hb); (try clear hkp); (try clear hy0)))
            (try simp only [Act.put, List.setIfInBounds_toArray, List.set_cons_zero, List.set_cons_succ])
            go_cut [58] (fun v58 wc => ∃ (kq : Nat) (x58_35 : Bool), v58 = .bool x58_35 ∧ Aside0 (laws_FnExactReadFrame.j1 kq l0 t166 x58_35 t161 t162 t163 t171 t172 t173 = some r) ∧ Aside0 (kq ≤ kj6) ∧ Aside0 (Kd.W (Kd.int .u8) 5 wc w.heap.size (fun k_ => some k_ ≠ ((.slice Ao20 t173.length co20) : Value).ownBlock) (.slice Ao13 t163.length co13) t163) ∧ Aside0 (Kd.W (Kd.int .u8) 5 wc w.heap.size (fun k_ => some k_ ≠ ((.slice Ao13 t163.length co13) : Value).ownBlock) (.slice Ao20 t173.length co20) t173) ∧ Aside0 (wc.heap[gb167]? = some (.cells #[.int .i64 t161, .int .i64 t162, (.slice Ao13 t163.length co13)] 51 (0, 0))) ∧ Aside0 (wc.heap[gb177]? = some (.cells #[.int .i64 t171, .int .i64 t172, (.slice Ao20 t173.length co20)] 51 (0, 0))) ∧ Aside0 (Below w.heap.size w wc))
            case first =>
              have H := HC36.out
              clear HC36
              by_cases c40 : t183 < 0
              · rw [if_pos c40] at H
                have c40b0 : decide (t183 < 0) = true := decide_eq_true c40
                clear c40
                (first | rw [c40b0] | (simp only [i64_w, i32_w]; rw [c40b0]) | skip)
                have H' := Aside0.mk H
                clear H
                go_wp2
                go_meet
                case rel => exact ⟨_, (true), (by first | rfl | (simp; done) | (simp [*]; done)), H', ⟨by have := HJ6.out; first | omega | exact Nat.le_refl _⟩, ⟨by (with_reducible repeat (first | apply Kd.W_alloc | apply Kd.W_drewN | apply Kd.W_drew)); exact Kd.W_mono HO_168002.out (fun _ hk => hk.2.1)⟩, ⟨by (with_reducible repeat (first | apply Kd.W_alloc | apply Kd.W_drewN | apply Kd.W_drew)); exact Kd.W_mono HO_178002.out (fun _ hk => hk.2.1)⟩, ⟨by (with_reducible repeat (first | refine blk_drewN ?_ _ | refine blk_drew ?_ | refine blk_alloc ?_ _)); exact BK167.out⟩, ⟨by (with_reducible repeat (first | refine blk_drewN ?_ _ | refine blk_drew ?_ | refine blk_alloc ?_ _)); exact BK177.out⟩, ⟨by repeat (first | (with_reducible first | exact HB.out | apply below_alloc | apply pw_below_drewN | apply below_drew1 | refine below_set ?_ GE167.out | refine below_set ?_ GE177.out) | exact HB.out)⟩⟩
              · rw [if_neg c40] at H
                have c40b0 : decide (t183 < 0) = false := decide_eq_false c40
                clear c40
                (first | rw [c40b0] | (simp only [i64_w, i32_w]; rw [c40b0]) | skip)
                replace H := Option.bind_eq_some_iff.mp H
                obtain ⟨t185, A410, H⟩ := H
                replace H : (if t185 = true then (laws_FnExactReadFrame.j1 kj6 l0 t166 (t176 != t166) t161 t162 t163 t171 t172 t173) else (laws_FnExactReadFrame.j1 kj6 l0 t166 true t161 t162 t163 t171 t172 t173)) = some r := H
                have A41 := Aside0.mk A410
                clear A410
                by_cases c42 : t185 = true
                · subst c42
                  have H1 : (laws_FnExactReadFrame.j1 kj6 l0 t166 (t176 != t166) t161 t162 t163 t171 t172 t173) = some r := by rw [if_pos rfl] at H; exact H
                  clear H
                  have H := H1
                  clear H1
                  have H' := Aside0.mk H
                  clear H
                  have hnb43 := NB177_167.out
                  have hnc43 := NB167_177.out
                  have hcz44_0 : w39.cell? ⟨gb177, 0, none⟩ = some (.int .i64 t171) := (blk_cell BK177.out 0).trans rfl
                  have hcz44_1 : w39.cell? ⟨gb177, 1, none⟩ = some (.int .i64 t172) := (blk_cell BK177.out 1).trans rfl
                  have hcz44_2 : w39.cell? ⟨gb177, 2, none⟩ = some (.slice Ao20 t173.length co20) := (blk_cell BK177.out 2).trans rfl
                  have hfz44_0 := blk_frozen BK177.out 0
                  have hfz44_1 := blk_frozen BK177.out 1
                  have hfz44_2 := blk_frozen BK177.out 2
                  have hcz45_0 : w39.cell? ⟨gb167, 0, none⟩ = some (.int .i64 t161) := (blk_cell BK167.out 0).trans rfl
                  have hcz45_1 : w39.cell? ⟨gb167, 1, none⟩ = some (.int .i64 t162) := (blk_cell BK167.out 1).trans rfl
                  have hcz45_2 : w39.cell? ⟨gb167, 2, none⟩ = some (.slice Ao13 t163.length co13) := (blk_cell BK167.out 2).trans rfl
                  have hfz45_0 := blk_frozen BK167.out 0
                  have hfz45_1 := blk_frozen BK167.out 1
                  have hfz45_2 := blk_frozen BK167.out 2
                  go_wp2_with (first | (go_at_call 43; (with_reducible refine (laws_eqFrame.calls kj6 t171 t172 _ _ t173 t161 t162 _ _ t163 true _ ?side1 ?side2 ?side3 ?side4 A41.out).mono ?_); (case side1 => repeat (first | exact (Kd.W_reads' HO_178002.out).2.2 | (with_reducible refine Kd.C_alloc ?_ _) | (with_reducible refine Kd.C_drewN ?_ _) | (with_reducible refine Kd.C_drew ?_))); (case side2 => exact (Kd.W_reads' HO_178002.out).2.1); (case side3 => repeat (first | exact (Kd.W_reads' HO_168002.out).2.2 | (with_reducible refine Kd.C_alloc ?_ _) | (with_reducible refine Kd.C_drewN ?_ _) | (with_reducible refine Kd.C_drew ?_))); (case side4 => exact (Kd.W_reads' HO_168002.out).2.1); rintro e w46 ⟨rfl, hb⟩; have n0_ := Aside0.mk (Kd.R_below (by (with_reducible repeat (first | apply Kd.R_alloc | apply Kd.R_drewN | apply Kd.R_drew)); exact HO_5.out) hb); have n1_ := Aside0.mk (Kd.W_below (by (with_reducible repeat (first | apply Kd.W_alloc | apply Kd.W_drewN | apply Kd.W_drew)); exact HO_168002.out) hb); have n2_ := Aside0.mk (Kd.W_below (by (with_reducible repeat (first | apply Kd.W_alloc | apply Kd.W_drewN | apply Kd.W_drew)); exact HO_178002.out) hb); have n3_ := Aside0.mk (Kd.R_below (by (with_reducible repeat (first | apply Kd.R_alloc | apply Kd.R_drewN | apply Kd.R_drew)); exact HO181.out) hb); have n4_ := Aside0.mk (blk_below (g := gb167) (o := .cells #[.int .i64 t161, .int .i64 t162, .slice Ao13 t163.length co13] 51 (0, 0)) (by (with_reducible repeat (first | refine blk_drewN ?_ _ | refine blk_drew ?_ | refine blk_alloc ?_ _)); exact BK167.out) hb); have n5_ := Aside0.mk (blk_below (g := gb177) (o := .cells #[.int .i64 t171, .int .i64 t172, .slice Ao20 t173.length co20] 51 (0, 0)) (by (with_reducible repeat (first | refine blk_drewN ?_ _ | refine blk_drew ?_ | refine blk_alloc ?_ _)); exact BK177.out) hb); have n6_ := Aside0.mk (below_step (by repeat (first | (with_reducible first | exact HB.out | apply below_alloc | apply pw_below_drewN | apply below_drew1 | refine below_set ?_ GE167.out | refine below_set ?_ GE177.out) | exact HB.out)) hb); clear HO_5; clear HO_168002; clear HO_178002; clear HO181; clear BK167; clear BK177; clear HB; have HO_5 := n0_; have HO_168002 := n1_; have HO_178002 := n2_; have HO181 := n3_; have BK167 := n4_; have BK177 := n5_; have HB := n6_; clear n0_ n1_ n2_ n3_ n4_ n5_ n6_; (try clear hb); (try clear hb2); (try clear hk); (try clear hi)))
                  go_meet
                  case rel => exact ⟨_, ((t176 != t166)), (by first | rfl | (simp; done) | (simp [*]; done)), H', ⟨by have := HJ6.out; first | omega | exact Nat.le_refl _⟩, ⟨by (with_reducible repeat (first | apply Kd.W_alloc | apply Kd.W_drewN | apply Kd.W_drew)); exact Kd.W_mono HO_168002.out (fun _ hk => hk.2.1)⟩, ⟨by (with_reducible repeat (first | apply Kd.W_alloc | apply Kd.W_drewN | apply Kd.W_drew)); exact Kd.W_mono HO_178002.out (fun _ hk => hk.2.1)⟩, ⟨by (with_reducible repeat (first | refine blk_drewN ?_ _ | refine blk_drew ?_ | refine blk_alloc ?_ _)); exact BK167.out⟩, ⟨by (with_reducible repeat (first | refine blk_drewN ?_ _ | refine blk_drew ?_ | refine blk_alloc ?_ _)); exact BK177.out⟩, ⟨by repeat (first | (with_reducible first | exact HB.out | apply below_alloc | apply pw_below_drewN | apply below_drew1 | refine below_set ?_ GE167.out | refine below_set ?_ GE177.out) | exact HB.out)⟩⟩
                · replace c42 := Bool.eq_false_iff.mpr c42
                  subst c42
                  have H1 : (laws_FnExactReadFrame.j1 kj6 l0 t166 true t161 t162 t163 t171 t172 t173) = some r := by rw [if_neg (show ¬ (false = true) by decide)] at H; exact H
                  clear H
                  have H := H1
                  clear H1
                  have H' := Aside0.mk H
                  clear H
                  have hnb47 := NB177_167.out
                  have hnc47 := NB167_177.out
                  have hcz48_0 : w39.cell? ⟨gb177, 0, none⟩ = some (.int .i64 t171) := (blk_cell BK177.out 0).trans rfl
                  have hcz48_1 : w39.cell? ⟨gb177, 1, none⟩ = some (.int .i64 t172) := (blk_cell BK177.out 1).trans rfl
                  have hcz48_2 : w39.cell? ⟨gb177, 2, none⟩ = some (.slice Ao20 t173.length co20) := (blk_cell BK177.out 2).trans rfl
                  have hfz48_0 := blk_frozen BK177.out 0
                  have hfz48_1 := blk_frozen BK177.out 1
                  have hfz48_2 := blk_frozen BK177.out 2
                  have hcz49_0 : w39.cell? ⟨gb167, 0, none⟩ = some (.int .i64 t161) := (blk_cell BK167.out 0).trans rfl
                  have hcz49_1 : w39.cell? ⟨gb167, 1, none⟩ = some (.int .i64 t162) := (blk_cell BK167.out 1).trans rfl
                  have hcz49_2 : w39.cell? ⟨gb167, 2, none⟩ = some (.slice Ao13 t163.length co13) := (blk_cell BK167.out 2).trans rfl
                  have hfz49_0 := blk_frozen BK167.out 0
                  have hfz49_1 := blk_frozen BK167.out 1
                  have hfz49_2 := blk_frozen BK167.out 2
                  go_wp2_with (first | (go_at_call 43; (with_reducible refine (laws_eqFrame.calls kj6 t171 t172 _ _ t173 t161 t162 _ _ t163 false _ ?side1 ?side2 ?side3 ?side4 A41.out).mono ?_); (case side1 => repeat (first | exact (Kd.W_reads' HO_178002.out).2.2 | (with_reducible refine Kd.C_alloc ?_ _) | (with_reducible refine Kd.C_drewN ?_ _) | (with_reducible refine Kd.C_drew ?_))); (case side2 => exact (Kd.W_reads' HO_178002.out).2.1); (case side3 => repeat (first | exact (Kd.W_reads' HO_168002.out).2.2 | (with_reducible refine Kd.C_alloc ?_ _) | (with_reducible refine Kd.C_drewN ?_ _) | (with_reducible refine Kd.C_drew ?_))); (case side4 => exact (Kd.W_reads' HO_168002.out).2.1); rintro e w50 ⟨rfl, hb⟩; have n0_ := Aside0.mk (Kd.R_below (by (with_reducible repeat (first | apply Kd.R_alloc | apply Kd.R_drewN | apply Kd.R_drew)); exact HO_5.out) hb); have n1_ := Aside0.mk (Kd.W_below (by (with_reducible repeat (first | apply Kd.W_alloc | apply Kd.W_drewN | apply Kd.W_drew)); exact HO_168002.out) hb); have n2_ := Aside0.mk (Kd.W_below (by (with_reducible repeat (first | apply Kd.W_alloc | apply Kd.W_drewN | apply Kd.W_drew)); exact HO_178002.out) hb); have n3_ := Aside0.mk (Kd.R_below (by (with_reducible repeat (first | apply Kd.R_alloc | apply Kd.R_drewN | apply Kd.R_drew)); exact HO181.out) hb); have n4_ := Aside0.mk (blk_below (g := gb167) (o := .cells #[.int .i64 t161, .int .i64 t162, .slice Ao13 t163.length co13] 51 (0, 0)) (by (with_reducible repeat (first | refine blk_drewN ?_ _ | refine blk_drew ?_ | refine blk_alloc ?_ _)); exact BK167.out) hb); have n5_ := Aside0.mk (blk_below (g := gb177) (o := .cells #[.int .i64 t171, .int .i64 t172, .slice Ao20 t173.length co20] 51 (0, 0)) (by (with_reducible repeat (first | refine blk_drewN ?_ _ | refine blk_drew ?_ | refine blk_alloc ?_ _)); exact BK177.out) hb); have n6_ := Aside0.mk (below_step (by repeat (first | (with_reducible first | exact HB.out | apply below_alloc | apply pw_below_drewN | apply below_drew1 | refine below_set ?_ GE167.out | refine below_set ?_ GE177.out) | exact HB.out)) hb); clear HO_5; clear HO_168002; clear HO_178002; clear HO181; clear BK167; clear BK177; clear HB; have HO_5 := n0_; have HO_168002 := n1_; have HO_178002 := n2_; have HO181 := n3_; have BK167 := n4_; have BK177 := n5_; have HB := n6_; clear n0_ n1_ n2_ n3_ n4_ n5_ n6_; (try clear hb); (try clear hb2); (try clear hk); (try clear hi)))
                  go_meet
                  case rel => exact ⟨_, (true), (by first | rfl | (simp; done) | (simp [*]; done)), H', ⟨by have := HJ6.out; first | omega | exact Nat.le_refl _⟩, ⟨by (with_reducible repeat (first | apply Kd.W_alloc | apply Kd.W_drewN | apply Kd.W_drew)); exact Kd.W_mono HO_168002.out (fun _ hk => hk.2.1)⟩, ⟨by (with_reducible repeat (first | apply Kd.W_alloc | apply Kd.W_drewN | apply Kd.W_drew)); exact Kd.W_mono HO_178002.out (fun _ hk => hk.2.1)⟩, ⟨by (with_reducible repeat (first | refine blk_drewN ?_ _ | refine blk_drew ?_ | refine blk_alloc ?_ _)); exact BK167.out⟩, ⟨by (with_reducible repeat (first | refine blk_drewN ?_ _ | refine blk_drew ?_ | refine blk_alloc ?_ _)); exact BK177.out⟩, ⟨by repeat (first | (with_reducible first | exact HB.out | apply below_alloc | apply pw_below_drewN | apply below_drew1 | refine below_set ?_ GE167.out | refine below_set ?_ GE177.out) | exact HB.out)⟩⟩
            case rest =>
              clear HC36
              try clear c1
              try clear c2
              try clear c2b0
              try clear c2b1
              try clear p2
              try clear c3
              try clear c4
              try clear c11
              try clear c18
              try clear c20
              try clear c22
              try clear c23
              try clear c27
              try clear c31
              try clear c34
              try clear c40
              try clear c40b0
              try clear c42
              try clear c43
              try clear c45
              try clear c46
              try clear c47
              try clear hcz12_0
              try clear hcz12_1
              try clear hcz12_2
              try clear hcz19_0
              try clear hcz19_1
              try clear hcz19_2
              try clear hcz24_0
              try clear hcz24_1
              try clear hcz24_2
              try clear hcz25_0
              try clear hcz25_1
              try clear hcz25_2
              try clear hcz28_0
              try clear hcz28_1
              try clear hcz28_2
              try clear hcz29_0
              try clear hcz29_1
              try clear hcz29_2
              try clear hcz44_0
              try clear hcz44_1
              try clear hcz44_2
              try clear hcz45_0
              try clear hcz45_1
              try clear hcz45_2
              try clear hcz48_0
              try clear hcz48_1
              try clear hcz48_2
              try clear hcz49_0
              try clear hcz49_1
              try clear hcz49_2
              try clear hfz12_0
              try clear hfz12_1
              try clear hfz12_2
              try clear hfz19_0
              try clear hfz19_1
              try clear hfz19_2
              try clear hfz24_0
              try clear hfz24_1
              try clear hfz24_2
              try clear hfz25_0
              try clear hfz25_1
              try clear hfz25_2
              try clear hfz28_0
              try clear hfz28_1
              try clear hfz28_2
              try clear hfz29_0
              try clear hfz29_1
              try clear hfz29_2
              try clear hfz44_0
              try clear hfz44_1
              try clear hfz44_2
              try clear hfz45_0
              try clear hfz45_1
              try clear hfz45_2
              try clear hfz48_0
              try clear hfz48_1
              try clear hfz48_2
              try clear hfz49_0
              try clear hfz49_1
              try clear hfz49_2
              try clear p2
              obtain ⟨kq, x58_35, rfl, HA, HJ35, HO_168002, HO_178002, BK167, BK177, HB⟩ := hcut
              cases kq with
              | zero => exact absurd HA.out (by simp [laws_FnExactReadFrame.j1])
              | succ kj35 =>
                have H := HA.out
                clear HA
                simp only [laws_FnExactReadFrame.j1] at H
                by_cases c51 : x58_35 = true
                · subst c51
                  have H1 : (some false) = some r := by rw [if_pos rfl] at H; exact H
                  clear H
                  have H := H1
                  clear H1
                  obtain rfl := Option.some.inj H
                  go_wp2
                  go_ret
                  exact ⟨by first | rfl | (simp [errW_none, errW_some] <;> rfl) | (simp [*, errW_none, errW_some] <;> rfl), by repeat (first | (with_reducible first | exact HB.out | apply below_alloc | apply pw_below_drewN | apply below_drew1 | refine below_set ?_ GE167.out | refine below_set ?_ GE177.out) | exact HB.out)⟩
                · replace c51 := Bool.eq_false_iff.mpr c51
                  subst c51
                  have H1 : ((laws_markFrame_w.f kj35 t171 t172 t173 1).bind fun bt186 => ((laws_heldFrame.f kj35 t171 t172 bt186.2 1).bind fun t188 => (if t188 < 0 then (some false) else (if t188 = bt186.1 then ((laws_toByteS.f kj35 l0).bind fun t189 => ((impl_ReadFrame.f kj35 t189).bind fun bt192 => ((laws_eqFrame.f kj35 bt192.1 bt192.2.1 bt192.2.2.1 t161 t162 t163).bind fun t199 => (if t199 = true then (laws_FnExactReadFrame.j2 kj35 bt186.1 (bt192.2.2.2 != t166) t171 t172 bt186.2) else (laws_FnExactReadFrame.j2 kj35 bt186.1 true t171 t172 bt186.2))))) else (some false))))) = some r := by rw [if_neg (show ¬ (false = true) by decide)] at H; exact H
                  clear H
                  have H := H1
                  clear H1
                  replace H := Option.bind_eq_some_iff.mp H
                  obtain ⟨⟨t186, t187⟩, A520, H⟩ := H
                  replace H : ((laws_heldFrame.f kj35 t171 t172 t187 1).bind fun t188 => (if t188 < 0 then (some false) else (if t188 = t186 then ((laws_toByteS.f kj35 l0).bind fun t189 => ((impl_ReadFrame.f kj35 t189).bind fun bt192 => ((laws_eqFrame.f kj35 bt192.1 bt192.2.1 bt192.2.2.1 t161 t162 t163).bind fun t199 => (if t199 = true then (laws_FnExactReadFrame.j2 kj35 t186 (bt192.2.2.2 != t166) t171 t172 t187) else (laws_FnExactReadFrame.j2 kj35 t186 true t171 t172 t187))))) else (some false)))) = some r := H
                  have A52 := Aside0.mk A520
                  clear A520
                  replace H := Option.bind_eq_some_iff.mp H
                  obtain ⟨t188, A530, H⟩ := H
                  replace H : (if t188 < 0 then (some false) else (if t188 = t186 then ((laws_toByteS.f kj35 l0).bind fun t189 => ((impl_ReadFrame.f kj35 t189).bind fun bt192 => ((laws_eqFrame.f kj35 bt192.1 bt192.2.1 bt192.2.2.1 t161 t162 t163).bind fun t199 => (if t199 = true then (laws_FnExactReadFrame.j2 kj35 t186 (bt192.2.2.2 != t166) t171 t172 t187) else (laws_FnExactReadFrame.j2 kj35 t186 true t171 t172 t187))))) else (some false))) = some r := H
                  have A53 := Aside0.mk A530
                  clear A530
                  by_cases c54 : t188 < 0
                  · rw [if_pos c54] at H
                    have c54b0 : decide (t188 < 0) = true := decide_eq_true c54
                    clear c54
                    obtain rfl := Option.some.inj H
                    have hnb55 := NB177_167.out
                    have hnc55 := NB167_177.out
                    have hcz56_0 : wc.cell? ⟨gb177, 0, none⟩ = some (.int .i64 t171) := (blk_cell BK177.out 0).trans rfl
                    have hcz56_1 : wc.cell? ⟨gb177, 1, none⟩ = some (.int .i64 t172) := (blk_cell BK177.out 1).trans rfl
                    have hcz56_2 : wc.cell? ⟨gb177, 2, none⟩ = some (.slice Ao20 t173.length co20) := (blk_cell BK177.out 2).trans rfl
                    have hfz56_0 := blk_frozen BK177.out 0
                    have hfz56_1 := blk_frozen BK177.out 1
                    have hfz56_2 := blk_frozen BK177.out 2
                    go_wp2_with (first | ((with_reducible refine gate_callee (f := 44) rfl ?_); refine goesL_ (some 61) rfl rfl Try.func44 (by kernel_rfl) rfl #[.agg #[.int .i64 t171, .int .i64 t172, .slice Ao20 t173.length co20], .int .i64 1] rfl (by (try simp only [List.map_toArray, List.map_cons, List.map_nil]); first | done | rfl | (simp only [List.length_drop, List.length_take]; rfl)) ?_; (with_reducible refine (laws_markFrame_w.calls kj35 t171 t172 (fun k_ => some k_ = (.slice Ao20 t173.length co20 : Value).ownBlock) (.slice Ao20 t173.length co20) t173 1 t186 t187 w _ ?side1 ?side2 A52.out).mono ?_); (case side1 => repeat (first | (with_reducible first | exact HB.out | apply below_alloc | apply pw_below_drewN | apply below_drew1 | refine below_set ?_ GE167.out | refine below_set ?_ GE177.out) | exact HB.out)); (case side2 => exact Kd.W_tight rfl HO_178002.out); rintro e w57 ⟨rfl, hy0, hb, hkp⟩; refine ⟨_, rfl, ?_⟩; have n0_ := Aside0.mk (Kd.W_mono (ok' := fun k_ => some k_ ≠ (.slice Ao20 t173.length co20 : Value).ownBlock) (Kd.W_keptB (HO_168002.out) hkp (fun k_ hk_ hs_ => (hk_) hs_)) (fun k_ hk_ => hk_.1)); have n1_ := Aside0.mk (Kd.W_reok rfl hy0 (fun k_ e_ => HO_178002.out.1 k_ e_)); have n2_ := Aside0.mk (blk_kept (by (with_reducible repeat (first | refine blk_drewN ?_ _ | refine blk_drew ?_ | refine blk_alloc ?_ _)); exact BK167.out) hkp (fun hs_ => (fun e_ => (Kd.W_ne HO_178002.out BK167.out (by decide)) e_) hs_)); have n3_ := Aside0.mk (blk_kept (by (with_reducible repeat (first | refine blk_drewN ?_ _ | refine blk_drew ?_ | refine blk_alloc ?_ _)); exact BK177.out) hkp (fun hs_ => (fun e_ => (Kd.W_ne HO_178002.out BK177.out (by decide)) e_) hs_)); have n4_ := Aside0.mk (hb); clear HO_168002; clear HO_178002; clear BK167; clear BK177; clear HB; have HO_168002 := n0_; have HO_178002 := n1_; have BK167 := n2_; have BK177 := n3_; have HB := n4_; clear n0_ n1_ n2_ n3_ n4_; (try clear hb); (try clear hkp); (try clear hy0); have hcz58_0 : w57.cell? ⟨gb177, 0, none⟩ = some (.int .i64 t171) := (blk_cell BK177.out 0).trans rfl; have hcz58_1 : w57.cell? ⟨gb177, 1, none⟩ = some (.int .i64 t172) := (blk_cell BK177.out 1).trans rfl; have hcz58_2 : w57.cell? ⟨gb177, 2, none⟩ = some (.slice Ao20 t173.length co20) := (blk_cell BK177.out 2).trans rfl; have hfz58_0 := blk_frozen BK177.out 0; have hfz58_1 := blk_frozen BK177.out 1; have hfz58_2 := blk_frozen BK177.out 2) | ((with_reducible refine gate_callee (f := 47) rfl ?_); refine goesL_ (some 64) rfl rfl Try.func47 (by kernel_rfl) rfl #[.agg #[.int .i64 t171, .int .i64 t172, .slice Ao20 t187.length co20], .int .i64 1] rfl (by (try simp only [List.map_toArray, List.map_cons, List.map_nil]); first | done | (rw [show t187.length = t173.length from (Kd.W_reads' HO_178002.out).1.symm] <;> rfl) | rfl | (simp only [List.length_drop, List.length_take]; rfl)) ?_; (with_reducible refine (laws_heldFrame.calls kj35 t171 t172 _ _ t187 1 t188 _ ?side1 ?side2 A53.out).mono ?_); (case side1 => repeat (first | exact (Kd.W_reads' HO_178002.out).2.2 | (with_reducible refine Kd.C_alloc ?_ _) | (with_reducible refine Kd.C_drewN ?_ _) | (with_reducible refine Kd.C_drew ?_))); (case side2 => rw [show t187.length = t173.length from (Kd.W_reads' HO_178002.out).1.symm]; exact (Kd.W_reads' HO_178002.out).2.1); rintro e w59 ⟨rfl, hb⟩; refine ⟨_, rfl, ?_⟩; have n0_ := Aside0.mk (Kd.W_below (by (with_reducible repeat (first | apply Kd.W_alloc | apply Kd.W_drewN | apply Kd.W_drew)); exact HO_168002.out) hb); have n1_ := Aside0.mk (Kd.W_below (by (with_reducible repeat (first | apply Kd.W_alloc | apply Kd.W_drewN | apply Kd.W_drew)); exact HO_178002.out) hb); have n2_ := Aside0.mk (blk_below (g := gb167) (o := .cells #[.int .i64 t161, .int .i64 t162, .slice Ao13 t163.length co13] 51 (0, 0)) (by (with_reducible repeat (first | refine blk_drewN ?_ _ | refine blk_drew ?_ | refine blk_alloc ?_ _)); exact BK167.out) hb); have n3_ := Aside0.mk (blk_below (g := gb177) (o := .cells #[.int .i64 t171, .int .i64 t172, .slice Ao20 t173.length co20] 51 (0, 0)) (by (with_reducible repeat (first | refine blk_drewN ?_ _ | refine blk_drew ?_ | refine blk_alloc ?_ _)); exact BK177.out) hb); have n4_ := Aside0.mk (below_step (by repeat (first | (with_reducible first | exact HB.out | apply below_alloc | apply pw_below_drewN | apply below_drew1 | refine below_set ?_ GE167.out | refine below_set ?_ GE177.out) | exact HB.out)) hb); clear HO_168002; clear HO_178002; clear BK167; clear BK177; clear HB; have HO_168002 := n0_; have HO_178002 := n1_; have BK167 := n2_; have BK177 := n3_; have HB := n4_; clear n0_ n1_ n2_ n3_ n4_; (try clear hb); (try clear hb2); (try clear hk); (try clear hi)))
                    go_ret
                    exact ⟨by first | rfl | (simp [errW_none, errW_some] <;> rfl) | (simp [*, errW_none, errW_some] <;> rfl), by repeat (first | (with_reducible first | exact HB.out | apply below_alloc | apply pw_below_drewN | apply below_drew1 | refine below_set ?_ GE167.out | refine below_set ?_ GE177.out) | exact HB.out)⟩
                  · rw [if_neg c54] at H
                    have c54b0 : decide (t188 < 0) = false := decide_eq_false c54
                    clear c54
                    by_cases c60 : t188 = t186
                    · rw [if_pos c60] at H
                      have c60b0 : (t188 == t186) = true := beq_iff_eq.mpr c60
                      have c60b1 : (t188 != t186) = false := bne_eq_false_iff_eq.mpr c60
                      clear c60
                      replace H := Option.bind_eq_some_iff.mp H
                      obtain ⟨t189, A610, H⟩ := H
                      replace H : ((impl_ReadFrame.f kj35 t189).bind fun bt192 => ((laws_eqFrame.f kj35 bt192.1 bt192.2.1 bt192.2.2.1 t161 t162 t163).bind fun t199 => (if t199 = true then (laws_FnExactReadFrame.j2 kj35 t186 (bt192.2.2.2 != t166) t171 t172 t187) else (laws_FnExactReadFrame.j2 kj35 t186 true t171 t172 t187)))) = some r := H
                      have A61 := Aside0.mk A610
                      clear A610
                      replace H := Option.bind_eq_some_iff.mp H
                      obtain ⟨⟨t192, t193, t194, t197⟩, A620, H⟩ := H
                      replace H : ((laws_eqFrame.f kj35 t192 t193 t194 t161 t162 t163).bind fun t199 => (if t199 = true then (laws_FnExactReadFrame.j2 kj35 t186 (t197 != t166) t171 t172 t187) else (laws_FnExactReadFrame.j2 kj35 t186 true t171 t172 t187))) = some r := H
                      have A62 := Aside0.mk A620
                      clear A620
                      have HC63 := Aside0.mk H
                      clear H
                      have hnb64 := NB177_167.out
                      have hnc64 := NB167_177.out
                      have hcz65_0 : wc.cell? ⟨gb177, 0, none⟩ = some (.int .i64 t171) := (blk_cell BK177.out 0).trans rfl
                      have hcz65_1 : wc.cell? ⟨gb177, 1, none⟩ = some (.int .i64 t172) := (blk_cell BK177.out 1).trans rfl
                      have hcz65_2 : wc.cell? ⟨gb177, 2, none⟩ = some (.slice Ao20 t173.length co20) := (blk_cell BK177.out 2).trans rfl
                      have hfz65_0 := blk_frozen BK177.out 0
                      have hfz65_1 := blk_frozen BK177.out 1
                      have hfz65_2 := blk_frozen BK177.out 2
                      go_upto_region 23 with (first | ((with_reducible refine gate_callee (f := 44) rfl ?_); refine goesL_ (some 61) rfl rfl Try.func44 (by kernel_rfl) rfl #[.agg #[.int .i64 t171, .int .i64 t172, .slice Ao20 t173.length co20], .int .i64 1] rfl (by (try simp only [List.map_toArray, List.map_cons, List.map_nil]); first | done | rfl | (simp only [List.length_drop, List.length_take]; rfl)) ?_; (with_reducible refine (laws_markFrame_w.calls kj35 t171 t172 (fun k_ => some k_ = (.slice Ao20 t173.length co20 : Value).ownBlock) (.slice Ao20 t173.length co20) t173 1 t186 t187 w _ ?side1 ?side2 A52.out).mono ?_); (case side1 => repeat (first | (with_reducible first | exact HB.out | apply below_alloc | apply pw_below_drewN | apply below_drew1 | refine below_set ?_ GE167.out | refine below_set ?_ GE177.out) | exact HB.out)); (case side2 => exact Kd.W_tight rfl HO_178002.out); rintro e w66 ⟨rfl, hy0, hb, hkp⟩; refine ⟨_, rfl, ?_⟩; have n0_ := Aside0.mk (Kd.W_mono (ok' := fun k_ => some k_ ≠ (.slice Ao20 t173.length co20 : Value).ownBlock) (Kd.W_keptB (HO_168002.out) hkp (fun k_ hk_ hs_ => (hk_) hs_)) (fun k_ hk_ => hk_.1)); have n1_ := Aside0.mk (Kd.W_reok rfl hy0 (fun k_ e_ => HO_178002.out.1 k_ e_)); have n2_ := Aside0.mk (blk_kept (by (with_reducible repeat (first | refine blk_drewN ?_ _ | refine blk_drew ?_ | refine blk_alloc ?_ _)); exact BK167.out) hkp (fun hs_ => (fun e_ => (Kd.W_ne HO_178002.out BK167.out (by decide)) e_) hs_)); have n3_ := Aside0.mk (blk_kept (by (with_reducible repeat (first | refine blk_drewN ?_ _ | refine blk_drew ?_ | refine blk_alloc ?_ _)); exact BK177.out) hkp (fun hs_ => (fun e_ => (Kd.W_ne HO_178002.out BK177.out (by decide)) e_) hs_)); have n4_ := Aside0.mk (hb); clear HO_168002; clear HO_178002; clear BK167; clear BK177; clear HB; have HO_168002 := n0_; have HO_178002 := n1_; have BK167 := n2_; have BK177 := n3_; have HB := n4_; clear n0_ n1_ n2_ n3_ n4_; (try clear hb); (try clear hkp); (try clear hy0); have hcz67_0 : w66.cell? ⟨gb177, 0, none⟩ = some (.int .i64 t171) := (blk_cell BK177.out 0).trans rfl; have hcz67_1 : w66.cell? ⟨gb177, 1, none⟩ = some (.int .i64 t172) := (blk_cell BK177.out 1).trans rfl; have hcz67_2 : w66.cell? ⟨gb177, 2, none⟩ = some (.slice Ao20 t173.length co20) := (blk_cell BK177.out 2).trans rfl; have hfz67_0 := blk_frozen BK177.out 0; have hfz67_1 := blk_frozen BK177.out 1; have hfz67_2 := blk_frozen BK177.out 2) | ((with_reducible refine gate_callee (f := 47) rfl ?_); refine goesL_ (some 64) rfl rfl Try.func47 (by kernel_rfl) rfl #[.agg #[.int .i64 t171, .int .i64 t172, .slice Ao20 t187.length co20], .int .i64 1] rfl (by (try simp only [List.map_toArray, List.map_cons, List.map_nil]); first | done | (rw [show t187.length = t173.length from (Kd.W_reads' HO_178002.out).1.symm] <;> rfl) | rfl | (simp only [List.length_drop, List.length_take]; rfl)) ?_; (with_reducible refine (laws_heldFrame.calls kj35 t171 t172 _ _ t187 1 t188 _ ?side1 ?side2 A53.out).mono ?_); (case side1 => repeat (first | exact (Kd.W_reads' HO_178002.out).2.2 | (with_reducible refine Kd.C_alloc ?_ _) | (with_reducible refine Kd.C_drewN ?_ _) | (with_reducible refine Kd.C_drew ?_))); (case side2 => rw [show t187.length = t173.length from (Kd.W_reads' HO_178002.out).1.symm]; exact (Kd.W_reads' HO_178002.out).2.1); rintro e w68 ⟨rfl, hb⟩; refine ⟨_, rfl, ?_⟩; have n0_ := Aside0.mk (Kd.W_below (by (with_reducible repeat (first | apply Kd.W_alloc | apply Kd.W_drewN | apply Kd.W_drew)); exact HO_168002.out) hb); have n1_ := Aside0.mk (Kd.W_below (by (with_reducible repeat (first | apply Kd.W_alloc | apply Kd.W_drewN | apply Kd.W_drew)); exact HO_178002.out) hb); have n2_ := Aside0.mk (blk_below (g := gb167) (o := .cells #[.int .i64 t161, .int .i64 t162, .slice Ao13 t163.length co13] 51 (0, 0)) (by (with_reducible repeat (first | refine blk_drewN ?_ _ | refine blk_drew ?_ | refine blk_alloc ?_ _)); exact BK167.out) hb); have n3_ := Aside0.mk (blk_below (g := gb177) (o := .cells #[.int .i64 t171, .int .i64 t172, .slice Ao20 t173.length co20] 51 (0, 0)) (by (with_reducible repeat (first | refine blk_drewN ?_ _ | refine blk_drew ?_ | refine blk_alloc ?_ _)); exact BK177.out) hb); have n4_ := Aside0.mk (below_step (by repeat (first | (with_reducible first | exact HB.out | apply below_alloc | apply pw_below_drewN | apply below_drew1 | refine below_set ?_ GE167.out | refine below_set ?_ GE177.out) | exact HB.out)) hb); clear HO_168002; clear HO_178002; clear BK167; clear BK177; clear HB; have HO_168002 := n0_; have HO_178002 := n1_; have BK167 := n2_; have BK177 := n3_; have HB := n4_; clear n0_ n1_ n2_ n3_ n4_; (try clear hb); (try clear hb2); (try clear hk); (try clear hi)) | ((with_reducible refine gate_callee (f := 20) rfl ?_); refine goesL_ (some 72) rfl rfl Try.func20 (by kernel_rfl) rfl #[.slice A0 l0.length c0] rfl (by (try simp only [List.map_toArray, List.map_cons, List.map_nil]); first | done | rfl | (simp only [List.length_drop, List.length_take]; rfl)) ?_; (with_reducible refine (laws_toByteS.calls kj35 _ _ l0 t189 _ ?side1 ?side2 A61.out).mono ?_); (case side1 => repeat (first | exact (Kd.C_below HR0.out HB.out) | (with_reducible refine Kd.C_alloc ?_ _) | (with_reducible refine Kd.C_drewN ?_ _) | (with_reducible refine Kd.C_drew ?_))); (case side2 => exact HC0.out); rintro e w69 ⟨v190, rfl, ho0, hb⟩; refine ⟨_, rfl, ?_⟩; have n0_ := Aside0.mk (Kd.W_elder' (by (with_reducible repeat (first | apply Kd.W_alloc | apply Kd.W_drewN | apply Kd.W_drew)); exact HO_168002.out) (Kd.R_base ho0) hb); have n1_ := Aside0.mk (Kd.W_elder' (by (with_reducible repeat (first | apply Kd.W_alloc | apply Kd.W_drewN | apply Kd.W_drew)); exact HO_178002.out) (Kd.R_base ho0) hb); have n2_ := Aside0.mk (Kd.R_lower (Kd.R_new' (Kd.R_new' ho0 (Kd.W_lt (by (with_reducible repeat (first | apply Kd.W_alloc | apply Kd.W_drewN | apply Kd.W_drew)); exact HO_168002.out))) (Kd.W_lt (by (with_reducible repeat (first | apply Kd.W_alloc | apply Kd.W_drewN | apply Kd.W_drew)); exact HO_178002.out))) (below_size (by repeat (first | (with_reducible first | exact HB.out | apply below_alloc | apply pw_below_drewN | apply below_drew1 | refine below_set ?_ GE167.out | refine below_set ?_ GE177.out) | exact HB.out)))); have n3_ := Aside0.mk (blk_below (g := gb167) (o := .cells #[.int .i64 t161, .int .i64 t162, .slice Ao13 t163.length co13] 51 (0, 0)) (by (with_reducible repeat (first | refine blk_drewN ?_ _ | refine blk_drew ?_ | refine blk_alloc ?_ _)); exact BK167.out) hb); have n4_ := Aside0.mk (blk_below (g := gb177) (o := .cells #[.int .i64 t171, .int .i64 t172, .slice Ao20 t173.length co20] 51 (0, 0)) (by (with_reducible repeat (first | refine blk_drewN ?_ _ | refine blk_drew ?_ | refine blk_alloc ?_ _)); exact BK177.out) hb); have n5_ := Aside0.mk (below_step (by repeat (first | (with_reducible first | exact HB.out | apply below_alloc | apply pw_below_drewN | apply below_drew1 | refine below_set ?_ GE167.out | refine below_set ?_ GE177.out) | exact HB.out)) hb); clear HO_168002; clear HO_178002; clear BK167; clear BK177; clear HB; have HO_168002 := n0_; have HO_178002 := n1_; have HO191 := n2_; have BK167 := n3_; have BK177 := n4_; have HB := n5_; clear n0_ n1_ n2_ n3_ n4_ n5_; (try clear hb); (try clear hb2); (try clear hk); (try clear hi); (try clear ho0); obtain ⟨Ao70, co70, eo70⟩ := Kd.R_slice HO191.out; subst eo70) | ((with_reducible refine gate_callee (f := 46) rfl ?_); refine goesL_ (some 73) rfl rfl Try.func46 (by kernel_rfl) rfl #[.slice Ao70 t189.length co70] rfl (by (try simp only [List.map_toArray, List.map_cons, List.map_nil]); first | done | rfl | (simp only [List.length_drop, List.length_take]; rfl)) ?_; (with_reducible refine (impl_ReadFrame.calls kj35 _ _ t189 t192 t193 t194 t197 _ ?side1 ?side2 A62.out).mono ?_); (case side1 => repeat (first | exact (Kd.R_reads' HO191.out).2.2 | (with_reducible refine Kd.C_alloc ?_ _) | (with_reducible refine Kd.C_drewN ?_ _) | (with_reducible refine Kd.C_drew ?_))); (case side2 => exact (Kd.R_reads' HO191.out).2.1); rintro e w71 ⟨v195, rfl, ho0, hb⟩; refine ⟨_, rfl, ?_⟩; have n0_ := Aside0.mk (Kd.W_elder' (by (with_reducible repeat (first | apply Kd.W_alloc | apply Kd.W_drewN | apply Kd.W_drew)); exact HO_168002.out) (Kd.W_base ho0) hb); have n1_ := Aside0.mk (Kd.W_elder' (by (with_reducible repeat (first | apply Kd.W_alloc | apply Kd.W_drewN | apply Kd.W_drew)); exact HO_178002.out) (Kd.W_base ho0) hb); have n2_ := Aside0.mk (Kd.R_elder' (by (with_reducible repeat (first | apply Kd.R_alloc | apply Kd.R_drewN | apply Kd.R_drew)); exact HO191.out) (Kd.W_base ho0) hb); have n3_ := Aside0.mk (Kd.W_lower (Kd.W_new' (Kd.W_new' (Kd.W_new' ho0 (Kd.W_lt (by (with_reducible repeat (first | apply Kd.W_alloc | apply Kd.W_drewN | apply Kd.W_drew)); exact HO_168002.out))) (Kd.W_lt (by (with_reducible repeat (first | apply Kd.W_alloc | apply Kd.W_drewN | apply Kd.W_drew)); exact HO_178002.out))) (Kd.R_lt (by (with_reducible repeat (first | apply Kd.R_alloc | apply Kd.R_drewN | apply Kd.R_drew)); exact HO191.out))) (below_size (by repeat (first | (with_reducible first | exact HB.out | apply below_alloc | apply pw_below_drewN | apply below_drew1 | refine below_set ?_ GE167.out | refine below_set ?_ GE177.out) | exact HB.out)))); have n4_ := Aside0.mk (blk_below (g := gb167) (o := .cells #[.int .i64 t161, .int .i64 t162, .slice Ao13 t163.length co13] 51 (0, 0)) (by (with_reducible repeat (first | refine blk_drewN ?_ _ | refine blk_drew ?_ | refine blk_alloc ?_ _)); exact BK167.out) hb); have n5_ := Aside0.mk (blk_below (g := gb177) (o := .cells #[.int .i64 t171, .int .i64 t172, .slice Ao20 t173.length co20] 51 (0, 0)) (by (with_reducible repeat (first | refine blk_drewN ?_ _ | refine blk_drew ?_ | refine blk_alloc ?_ _)); exact BK177.out) hb); have n6_ := Aside0.mk (below_step (by repeat (first | (with_reducible first | exact HB.out | apply below_alloc | apply pw_below_drewN | apply below_drew1 | refine below_set ?_ GE167.out | refine below_set ?_ GE177.out) | exact HB.out)) hb); clear HO_168002; clear HO_178002; clear HO191; clear BK167; clear BK177; clear HB; have HO_168002 := n0_; have HO_178002 := n1_; have HO191 := n2_; have HO196 := n3_; have BK167 := n4_; have BK177 := n5_; have HB := n6_; clear n0_ n1_ n2_ n3_ n4_ n5_ n6_; (try clear hb); (try clear hb2); (try clear hk); (try clear hi); (try clear ho0)) | ((with_reducible refine gate_dst (N := 11) rfl ?_); refine box_event ?hg (N := 11) ?hd (cs := #[.int .i64 0, .int .i64 0, .slice none 0 0]) (t := 51) ?hr ?_; (case hd => rfl); (case hg => rfl); (case hr => first | (go_simp; done) | (go_simp; rfl)); intro gb198 hg w72 hbox hb; have n0_ := Aside0.mk (Kd.W_below (by (with_reducible repeat (first | apply Kd.W_alloc | apply Kd.W_drewN | apply Kd.W_drew)); exact HO_168002.out) hb); have n1_ := Aside0.mk (Kd.W_below (by (with_reducible repeat (first | apply Kd.W_alloc | apply Kd.W_drewN | apply Kd.W_drew)); exact HO_178002.out) hb); have n2_ := Aside0.mk (Kd.R_below (by (with_reducible repeat (first | apply Kd.R_alloc | apply Kd.R_drewN | apply Kd.R_drew)); exact HO191.out) hb); have n3_ := Aside0.mk (Kd.W_below (by (with_reducible repeat (first | apply Kd.W_alloc | apply Kd.W_drewN | apply Kd.W_drew)); exact HO196.out) hb); have n4_ := Aside0.mk (blk_below (g := gb167) (o := .cells #[.int .i64 t161, .int .i64 t162, .slice Ao13 t163.length co13] 51 (0, 0)) (by (with_reducible repeat (first | refine blk_drewN ?_ _ | refine blk_drew ?_ | refine blk_alloc ?_ _)); exact BK167.out) hb); have n5_ := Aside0.mk (blk_below (g := gb177) (o := .cells #[.int .i64 t171, .int .i64 t172, .slice Ao20 t173.length co20] 51 (0, 0)) (by (with_reducible repeat (first | refine blk_drewN ?_ _ | refine blk_drew ?_ | refine blk_alloc ?_ _)); exact BK177.out) hb); have n6_ := Aside0.mk (below_step (by repeat (first | (with_reducible first | exact HB.out | apply below_alloc | apply pw_below_drewN | apply below_drew1 | refine below_set ?_ GE167.out | refine below_set ?_ GE177.out) | exact HB.out)) hb); have n7_ := Aside0.mk (hbox); have n8_ := Aside0.mk ((by rw [hg]; exact (below_size (by repeat (first | (with_reducible first | exact HB.out | apply below_alloc | apply pw_below_drewN | apply below_drew1 | refine below_set ?_ GE167.out | refine below_set ?_ GE177.out) | exact HB.out))) : w.heap.size ≤ gb198)); have n9_ := Aside0.mk ((by rw [hg]; exact (below_size (by repeat (first | (with_reducible first | exact HB.out | apply below_alloc | apply pw_below_drewN | apply below_drew1 | refine below_set ?_ GE167.out | refine below_set ?_ GE177.out) | exact HB.out))) : w.heap.size ≤ gb198)); have n10_ := Aside0.mk ((by rw [hg]; exact Nat.ne_of_lt (blk_lt (g := gb167) (o := .cells #[.int .i64 t161, .int .i64 t162, .slice Ao13 t163.length co13] 51 (0, 0)) (by (with_reducible repeat (first | refine blk_drewN ?_ _ | refine blk_drew ?_ | refine blk_alloc ?_ _)); exact BK167.out)) : gb167 ≠ gb198)); have n11_ := Aside0.mk ((by rw [hg]; exact Nat.ne_of_gt (blk_lt (g := gb167) (o := .cells #[.int .i64 t161, .int .i64 t162, .slice Ao13 t163.length co13] 51 (0, 0)) (by (with_reducible repeat (first | refine blk_drewN ?_ _ | refine blk_drew ?_ | refine blk_alloc ?_ _)); exact BK167.out)) : gb198 ≠ gb167)); have n12_ := Aside0.mk ((by rw [hg]; exact Nat.ne_of_lt (blk_lt (g := gb177) (o := .cells #[.int .i64 t171, .int .i64 t172, .slice Ao20 t173.length co20] 51 (0, 0)) (by (with_reducible repeat (first | refine blk_drewN ?_ _ | refine blk_drew ?_ | refine blk_alloc ?_ _)); exact BK177.out)) : gb177 ≠ gb198)); have n13_ := Aside0.mk ((by rw [hg]; exact Nat.ne_of_gt (blk_lt (g := gb177) (o := .cells #[.int .i64 t171, .int .i64 t172, .slice Ao20 t173.length co20] 51 (0, 0)) (by (with_reducible repeat (first | refine blk_drewN ?_ _ | refine blk_drew ?_ | refine blk_alloc ?_ _)); exact BK177.out)) : gb198 ≠ gb177)); clear HO_168002; clear HO_178002; clear HO191; clear HO196; clear BK167; clear BK177; clear HB; have HO_168002 := n0_; have HO_178002 := n1_; have HO191 := n2_; have HO196 := n3_; have BK167 := n4_; have BK177 := n5_; have HB := n6_; have BK198 := n7_; have GW198 := n8_; have GE198 := n9_; have NB167_198 := n10_; have NB198_167 := n11_; have NB177_198 := n12_; have NB198_177 := n13_; clear n0_ n1_ n2_ n3_ n4_ n5_ n6_ n7_ n8_ n9_ n10_ n11_ n12_ n13_; clear hb hbox hg; have hnb73 := NB198_167.out; have hnc73 := NB167_198.out; have hnb74 := NB198_177.out; have hnc74 := NB177_198.out; have hcz75_0 : w72.cell? ⟨gb198, 0, none⟩ = some (.int .i64 0) := (blk_cell BK198.out 0).trans rfl; have hcz75_1 : w72.cell? ⟨gb198, 1, none⟩ = some (.int .i64 0) := (blk_cell BK198.out 1).trans rfl; have hcz75_2 : w72.cell? ⟨gb198, 2, none⟩ = some (.slice none 0 0) := (blk_cell BK198.out 2).trans rfl; have hfz75_0 := blk_frozen BK198.out 0; have hfz75_1 := blk_frozen BK198.out 1; have hfz75_2 := blk_frozen BK198.out 2; obtain ⟨Ao76, co76, eo76, _⟩ := Kd.W_slice HO196.out; subst eo76))
                      (try simp only [Act.put, List.setIfInBounds_toArray, List.set_cons_zero, List.set_cons_succ])
                      go_cut [84] (fun v84 wc => ∃ (kq : Nat) (x84_62 : Bool), v84 = .bool x84_62 ∧ Aside0 (laws_FnExactReadFrame.j2 kq t186 x84_62 t171 t172 t187 = some r) ∧ Aside0 (kq ≤ kj35) ∧ Aside0 (Kd.W (Kd.int .u8) 5 wc w.heap.size (fun k_ => some k_ ≠ ((.slice Ao20 t173.length co20) : Value).ownBlock ∧ some k_ ≠ ((.slice Ao76 t194.length co76) : Value).ownBlock) (.slice Ao13 t163.length co13) t163) ∧ Aside0 (Kd.W (Kd.int .u8) 5 wc w.heap.size (fun k_ => some k_ ≠ ((.slice Ao13 t163.length co13) : Value).ownBlock ∧ some k_ ≠ ((.slice Ao76 t194.length co76) : Value).ownBlock) (.slice Ao20 t173.length co20) t187) ∧ Aside0 (Kd.W (Kd.int .u8) 5 wc w.heap.size (fun k_ => some k_ ≠ ((.slice Ao13 t163.length co13) : Value).ownBlock ∧ some k_ ≠ ((.slice Ao20 t173.length co20) : Value).ownBlock) (.slice Ao76 t194.length co76) t194) ∧ Aside0 (wc.heap[gb167]? = some (.cells #[.int .i64 t161, .int .i64 t162, (.slice Ao13 t163.length co13)] 51 (0, 0))) ∧ Aside0 (wc.heap[gb177]? = some (.cells #[.int .i64 t171, .int .i64 t172, (.slice Ao20 t173.length co20)] 51 (0, 0))) ∧ Aside0 (wc.heap[gb198]? = some (.cells #[.int .i64 t192, .int .i64 t193, (.slice Ao76 t194.length co76)] 51 (0, 0))) ∧ Aside0 (Below w.heap.size w wc))
                      case first =>
                        have H := HC63.out
                        clear HC63
                        replace H := Option.bind_eq_some_iff.mp H
                        obtain ⟨t199, A770, H⟩ := H
                        replace H : (if t199 = true then (laws_FnExactReadFrame.j2 kj35 t186 (t197 != t166) t171 t172 t187) else (laws_FnExactReadFrame.j2 kj35 t186 true t171 t172 t187)) = some r := H
                        have A77 := Aside0.mk A770
                        clear A770
                        by_cases c78 : t199 = true
                        · subst c78
                          have H1 : (laws_FnExactReadFrame.j2 kj35 t186 (t197 != t166) t171 t172 t187) = some r := by rw [if_pos rfl] at H; exact H
                          clear H
                          have H := H1
                          clear H1
                          have H' := Aside0.mk H
                          clear H
                          have hnb79 := NB198_167.out
                          have hnc79 := NB167_198.out
                          have hnb80 := NB198_177.out
                          have hnc80 := NB177_198.out
                          have hcz81_0 : w72.cell? ⟨gb198, 0, none⟩ = some (.int .i64 0) := (blk_cell BK198.out 0).trans rfl
                          have hcz81_1 : w72.cell? ⟨gb198, 1, none⟩ = some (.int .i64 0) := (blk_cell BK198.out 1).trans rfl
                          have hcz81_2 : w72.cell? ⟨gb198, 2, none⟩ = some (.slice none 0 0) := (blk_cell BK198.out 2).trans rfl
                          have hfz81_0 := blk_frozen BK198.out 0
                          have hfz81_1 := blk_frozen BK198.out 1
                          have hfz81_2 := blk_frozen BK198.out 2
                          have hnb82 := NB167_177.out
                          have hnc82 := NB177_167.out
                          have hcz83_0 : w72.cell? ⟨gb167, 0, none⟩ = some (.int .i64 t161) := (blk_cell BK167.out 0).trans rfl
                          have hcz83_1 : w72.cell? ⟨gb167, 1, none⟩ = some (.int .i64 t162) := (blk_cell BK167.out 1).trans rfl
                          have hcz83_2 : w72.cell? ⟨gb167, 2, none⟩ = some (.slice Ao13 t163.length co13) := (blk_cell BK167.out 2).trans rfl
                          have hfz83_0 := blk_frozen BK167.out 0
                          have hfz83_1 := blk_frozen BK167.out 1
                          have hfz83_2 := blk_frozen BK167.out 2
                          go_wp2_with (first | ((with_reducible refine gate_callee (f := 43) rfl ?_); refine goesL_ (some 78) rfl rfl Try.func43 (by kernel_rfl) rfl #[.agg #[.int .i64 t192, .int .i64 t193, .slice Ao76 t194.length co76], .agg #[.int .i64 t161, .int .i64 t162, .slice Ao13 t163.length co13]] rfl (by (try simp only [List.map_toArray, List.map_cons, List.map_nil]); first | done | rfl | (simp only [List.length_drop, List.length_take]; rfl)) ?_; (with_reducible refine (laws_eqFrame.calls kj35 t192 t193 _ _ t194 t161 t162 _ _ t163 true _ ?side1 ?side2 ?side3 ?side4 A77.out).mono ?_); (case side1 => refine (Kd.W_reads' (e := 5) (base := w.heap.size) (ok := fun k_ => (((True ∧ some k_ ≠ (.slice Ao13 t163.length co13 : Value).ownBlock) ∧ some k_ ≠ (.slice Ao20 t173.length co20 : Value).ownBlock) ∧ some k_ ≠ (.slice Ao70 t189.length co70 : Value).ownBlock)) (n := t194.length) (c := co76) ?_).2.2; exact (by (with_reducible repeat (first | apply Kd.W_alloc | apply Kd.W_drewN | apply Kd.W_drew)); exact (Kd.W_mono (Kd.W_far (p := ⟨gb198, 2, none⟩) (Kd.W_far (p := ⟨gb198, 1, none⟩) (Kd.W_far (p := ⟨gb198, 0, none⟩) (Kd.W_types HO196.out BK198.out (by decide)) (fun _ hk => by first | exact hk.2 | exact trivial) (.int .i64 t192)) (fun _ hk => by first | exact hk.2 | exact trivial) (.int .i64 t193)) (fun _ hk => by first | exact hk.2 | exact trivial) (.slice Ao76 t194.length co76)) (fun _ h_ => h_.1)))); (case side2 => exact (Kd.W_reads' HO196.out).2.1); (case side3 => refine (Kd.W_reads' (e := 5) (base := w.heap.size) (ok := fun k_ => ((some k_ ≠ (.slice Ao20 t173.length co20 : Value).ownBlock ∧ some k_ ≠ (.slice Ao70 t189.length co70 : Value).ownBlock) ∧ some k_ ≠ (.slice Ao76 t194.length co76 : Value).ownBlock)) (n := t163.length) (c := co13) ?_).2.2; exact (by (with_reducible repeat (first | apply Kd.W_alloc | apply Kd.W_drewN | apply Kd.W_drew)); exact (Kd.W_mono (Kd.W_far (p := ⟨gb198, 2, none⟩) (Kd.W_far (p := ⟨gb198, 1, none⟩) (Kd.W_far (p := ⟨gb198, 0, none⟩) (Kd.W_types HO_168002.out BK198.out (by decide)) (fun _ hk => by first | exact hk.2 | exact trivial) (.int .i64 t192)) (fun _ hk => by first | exact hk.2 | exact trivial) (.int .i64 t193)) (fun _ hk => by first | exact hk.2 | exact trivial) (.slice Ao76 t194.length co76)) (fun _ h_ => h_.1)))); (case side4 => exact (Kd.W_reads' HO_168002.out).2.1); rintro e w84 ⟨rfl, hb⟩; refine ⟨_, rfl, ?_⟩; have n0_ := Aside0.mk (Kd.W_below (by (with_reducible repeat (first | apply Kd.W_alloc | apply Kd.W_drewN | apply Kd.W_drew)); exact (Kd.W_mono (Kd.W_far (p := ⟨gb198, 2, none⟩) (Kd.W_far (p := ⟨gb198, 1, none⟩) (Kd.W_far (p := ⟨gb198, 0, none⟩) (Kd.W_types HO_168002.out BK198.out (by decide)) (fun _ hk => by first | exact hk.2 | exact trivial) (.int .i64 t192)) (fun _ hk => by first | exact hk.2 | exact trivial) (.int .i64 t193)) (fun _ hk => by first | exact hk.2 | exact trivial) (.slice Ao76 t194.length co76)) (fun _ h_ => h_.1))) hb); have n1_ := Aside0.mk (Kd.W_below (by (with_reducible repeat (first | apply Kd.W_alloc | apply Kd.W_drewN | apply Kd.W_drew)); exact (Kd.W_mono (Kd.W_far (p := ⟨gb198, 2, none⟩) (Kd.W_far (p := ⟨gb198, 1, none⟩) (Kd.W_far (p := ⟨gb198, 0, none⟩) (Kd.W_types HO_178002.out BK198.out (by decide)) (fun _ hk => by first | exact hk.2 | exact trivial) (.int .i64 t192)) (fun _ hk => by first | exact hk.2 | exact trivial) (.int .i64 t193)) (fun _ hk => by first | exact hk.2 | exact trivial) (.slice Ao76 t194.length co76)) (fun _ h_ => h_.1))) hb); have n2_ := Aside0.mk (Kd.R_below (by (with_reducible repeat (first | apply Kd.R_alloc | apply Kd.R_drewN | apply Kd.R_drew)); exact (Kd.R_mono (Kd.R_far (p := ⟨gb198, 2, none⟩) (Kd.R_far (p := ⟨gb198, 1, none⟩) (Kd.R_far (p := ⟨gb198, 0, none⟩) (Kd.R_types HO191.out BK198.out (by decide)) (fun _ hk => by first | exact hk.2 | exact trivial) (.int .i64 t192)) (fun _ hk => by first | exact hk.2 | exact trivial) (.int .i64 t193)) (fun _ hk => by first | exact hk.2 | exact trivial) (.slice Ao76 t194.length co76)) (fun _ h_ => h_.1))) hb); have n3_ := Aside0.mk (Kd.W_below (by (with_reducible repeat (first | apply Kd.W_alloc | apply Kd.W_drewN | apply Kd.W_drew)); exact (Kd.W_mono (Kd.W_far (p := ⟨gb198, 2, none⟩) (Kd.W_far (p := ⟨gb198, 1, none⟩) (Kd.W_far (p := ⟨gb198, 0, none⟩) (Kd.W_types HO196.out BK198.out (by decide)) (fun _ hk => by first | exact hk.2 | exact trivial) (.int .i64 t192)) (fun _ hk => by first | exact hk.2 | exact trivial) (.int .i64 t193)) (fun _ hk => by first | exact hk.2 | exact trivial) (.slice Ao76 t194.length co76)) (fun _ h_ => h_.1))) hb); have n4_ := Aside0.mk (blk_below (g := gb167) (o := .cells #[.int .i64 t161, .int .i64 t162, .slice Ao13 t163.length co13] 51 (0, 0)) (by (with_reducible repeat (first | refine blk_drewN ?_ _ | refine blk_drew ?_ | refine blk_alloc ?_ _)); refine blk_far ?_ NB167_198.out _; (with_reducible repeat (first | refine blk_drewN ?_ _ | refine blk_drew ?_ | refine blk_alloc ?_ _)); refine blk_far ?_ NB167_198.out _; (with_reducible repeat (first | refine blk_drewN ?_ _ | refine blk_drew ?_ | refine blk_alloc ?_ _)); refine blk_far ?_ NB167_198.out _; (with_reducible repeat (first | refine blk_drewN ?_ _ | refine blk_drew ?_ | refine blk_alloc ?_ _)); exact BK167.out) hb); have n5_ := Aside0.mk (blk_below (g := gb177) (o := .cells #[.int .i64 t171, .int .i64 t172, .slice Ao20 t173.length co20] 51 (0, 0)) (by (with_reducible repeat (first | refine blk_drewN ?_ _ | refine blk_drew ?_ | refine blk_alloc ?_ _)); refine blk_far ?_ NB177_198.out _; (with_reducible repeat (first | refine blk_drewN ?_ _ | refine blk_drew ?_ | refine blk_alloc ?_ _)); refine blk_far ?_ NB177_198.out _; (with_reducible repeat (first | refine blk_drewN ?_ _ | refine blk_drew ?_ | refine blk_alloc ?_ _)); refine blk_far ?_ NB177_198.out _; (with_reducible repeat (first | refine blk_drewN ?_ _ | refine blk_drew ?_ | refine blk_alloc ?_ _)); exact BK177.out) hb); have n6_ := Aside0.mk (blk_below (g := gb198) (o := .cells #[.int .i64 t192, .int .i64 t193, .slice Ao76 t194.length co76] 51 (0, 0)) (by (with_reducible repeat (first | refine blk_drewN ?_ _ | refine blk_drew ?_ | refine blk_alloc ?_ _)); refine blk_put (cs := #[.int .i64 t192, .int .i64 t193, .slice none 0 0]) ?_ 2 _ rfl; (with_reducible repeat (first | refine blk_drewN ?_ _ | refine blk_drew ?_ | refine blk_alloc ?_ _)); refine blk_put (cs := #[.int .i64 t192, .int .i64 0, .slice none 0 0]) ?_ 1 _ rfl; (with_reducible repeat (first | refine blk_drewN ?_ _ | refine blk_drew ?_ | refine blk_alloc ?_ _)); refine blk_put (cs := #[.int .i64 0, .int .i64 0, .slice none 0 0]) ?_ 0 _ rfl; (with_reducible repeat (first | refine blk_drewN ?_ _ | refine blk_drew ?_ | refine blk_alloc ?_ _)); exact BK198.out) hb); have n7_ := Aside0.mk (below_step (by repeat (first | (with_reducible first | exact HB.out | apply below_alloc | apply pw_below_drewN | apply below_drew1 | refine below_set ?_ GE167.out | refine below_set ?_ GE177.out | refine below_set ?_ GE198.out) | exact HB.out)) hb); clear HO_168002; clear HO_178002; clear HO191; clear HO196; clear BK167; clear BK177; clear BK198; clear HB; have HO_168002 := n0_; have HO_178002 := n1_; have HO191 := n2_; have HO196 := n3_; have BK167 := n4_; have BK177 := n5_; have BK198 := n6_; have HB := n7_; clear n0_ n1_ n2_ n3_ n4_ n5_ n6_ n7_; (try clear hb); (try clear hb2); (try clear hk); (try clear hi)))
                          go_meet
                          case rel => exact ⟨_, ((t197 != t166)), (by first | rfl | (simp; done) | (simp [*]; done)), H', ⟨by have := HJ6.out; have := HJ35.out; first | omega | exact Nat.le_refl _⟩, ⟨by (with_reducible repeat (first | apply Kd.W_alloc | apply Kd.W_drewN | apply Kd.W_drew)); exact Kd.W_mono HO_168002.out (fun _ hk => by first | exact ⟨hk.1.1, hk.2⟩ | simp only [hk, ne_eq, not_false_eq_true, and_self, true_and])⟩, ⟨by (with_reducible repeat (first | apply Kd.W_alloc | apply Kd.W_drewN | apply Kd.W_drew)); exact Kd.W_mono HO_178002.out (fun _ hk => by first | exact ⟨hk.1.1, hk.2⟩ | simp only [hk, ne_eq, not_false_eq_true, and_self, true_and])⟩, ⟨by (with_reducible repeat (first | apply Kd.W_alloc | apply Kd.W_drewN | apply Kd.W_drew)); exact Kd.W_mono HO196.out (fun _ hk => by first | exact ⟨hk.1.1.2, hk.1.2⟩ | simp only [hk, ne_eq, not_false_eq_true, and_self, true_and])⟩, ⟨by (with_reducible repeat (first | refine blk_drewN ?_ _ | refine blk_drew ?_ | refine blk_alloc ?_ _)); exact BK167.out⟩, ⟨by (with_reducible repeat (first | refine blk_drewN ?_ _ | refine blk_drew ?_ | refine blk_alloc ?_ _)); exact BK177.out⟩, ⟨by (with_reducible repeat (first | refine blk_drewN ?_ _ | refine blk_drew ?_ | refine blk_alloc ?_ _)); exact BK198.out⟩, ⟨by repeat (first | (with_reducible first | exact HB.out | apply below_alloc | apply pw_below_drewN | apply below_drew1 | refine below_set ?_ GE167.out | refine below_set ?_ GE177.out | refine below_set ?_ GE198.out) | exact HB.out)⟩⟩
                        · replace c78 := Bool.eq_false_iff.mpr c78
                          subst c78
                          have H1 : (laws_FnExactReadFrame.j2 kj35 t186 true t171 t172 t187) = some r := by rw [if_neg (show ¬ (false = true) by decide)] at H; exact H
                          clear H
                          have H := H1
                          clear H1
                          have H' := Aside0.mk H
                          clear H
                          have hnb85 := NB198_167.out
                          have hnc85 := NB167_198.out
                          have hnb86 := NB198_177.out
                          have hnc86 := NB177_198.out
                          have hcz87_0 : w72.cell? ⟨gb198, 0, none⟩ = some (.int .i64 0) := (blk_cell BK198.out 0).trans rfl
                          have hcz87_1 : w72.cell? ⟨gb198, 1, none⟩ = some (.int .i64 0) := (blk_cell BK198.out 1).trans rfl
                          have hcz87_2 : w72.cell? ⟨gb198, 2, none⟩ = some (.slice none 0 0) := (blk_cell BK198.out 2).trans rfl
                          have hfz87_0 := blk_frozen BK198.out 0
                          have hfz87_1 := blk_frozen BK198.out 1
                          have hfz87_2 := blk_frozen BK198.out 2
                          have hnb88 := NB167_177.out
                          have hnc88 := NB177_167.out
                          have hcz89_0 : w72.cell? ⟨gb167, 0, none⟩ = some (.int .i64 t161) := (blk_cell BK167.out 0).trans rfl
                          have hcz89_1 : w72.cell? ⟨gb167, 1, none⟩ = some (.int .i64 t162) := (blk_cell BK167.out 1).trans rfl
                          have hcz89_2 : w72.cell? ⟨gb167, 2, none⟩ = some (.slice Ao13 t163.length co13) := (blk_cell BK167.out 2).trans rfl
                          have hfz89_0 := blk_frozen BK167.out 0
                          have hfz89_1 := blk_frozen BK167.out 1
                          have hfz89_2 := blk_frozen BK167.out 2
                          go_wp2_with (first | ((with_reducible refine gate_callee (f := 43) rfl ?_); refine goesL_ (some 78) rfl rfl Try.func43 (by kernel_rfl) rfl #[.agg #[.int .i64 t192, .int .i64 t193, .slice Ao76 t194.length co76], .agg #[.int .i64 t161, .int .i64 t162, .slice Ao13 t163.length co13]] rfl (by (try simp only [List.map_toArray, List.map_cons, List.map_nil]); first | done | rfl | (simp only [List.length_drop, List.length_take]; rfl)) ?_; (with_reducible refine (laws_eqFrame.calls kj35 t192 t193 _ _ t194 t161 t162 _ _ t163 false _ ?side1 ?side2 ?side3 ?side4 A77.out).mono ?_); (case side1 => refine (Kd.W_reads' (e := 5) (base := w.heap.size) (ok := fun k_ => (((True ∧ some k_ ≠ (.slice Ao13 t163.length co13 : Value).ownBlock) ∧ some k_ ≠ (.slice Ao20 t173.length co20 : Value).ownBlock) ∧ some k_ ≠ (.slice Ao70 t189.length co70 : Value).ownBlock)) (n := t194.length) (c := co76) ?_).2.2; exact (by (with_reducible repeat (first | apply Kd.W_alloc | apply Kd.W_drewN | apply Kd.W_drew)); exact (Kd.W_mono (Kd.W_far (p := ⟨gb198, 2, none⟩) (Kd.W_far (p := ⟨gb198, 1, none⟩) (Kd.W_far (p := ⟨gb198, 0, none⟩) (Kd.W_types HO196.out BK198.out (by decide)) (fun _ hk => by first | exact hk.2 | exact trivial) (.int .i64 t192)) (fun _ hk => by first | exact hk.2 | exact trivial) (.int .i64 t193)) (fun _ hk => by first | exact hk.2 | exact trivial) (.slice Ao76 t194.length co76)) (fun _ h_ => h_.1)))); (case side2 => exact (Kd.W_reads' HO196.out).2.1); (case side3 => refine (Kd.W_reads' (e := 5) (base := w.heap.size) (ok := fun k_ => ((some k_ ≠ (.slice Ao20 t173.length co20 : Value).ownBlock ∧ some k_ ≠ (.slice Ao70 t189.length co70 : Value).ownBlock) ∧ some k_ ≠ (.slice Ao76 t194.length co76 : Value).ownBlock)) (n := t163.length) (c := co13) ?_).2.2; exact (by (with_reducible repeat (first | apply Kd.W_alloc | apply Kd.W_drewN | apply Kd.W_drew)); exact (Kd.W_mono (Kd.W_far (p := ⟨gb198, 2, none⟩) (Kd.W_far (p := ⟨gb198, 1, none⟩) (Kd.W_far (p := ⟨gb198, 0, none⟩) (Kd.W_types HO_168002.out BK198.out (by decide)) (fun _ hk => by first | exact hk.2 | exact trivial) (.int .i64 t192)) (fun _ hk => by first | exact hk.2 | exact trivial) (.int .i64 t193)) (fun _ hk => by first | exact hk.2 | exact trivial) (.slice Ao76 t194.length co76)) (fun _ h_ => h_.1)))); (case side4 => exact (Kd.W_reads' HO_168002.out).2.1); rintro e w90 ⟨rfl, hb⟩; refine ⟨_, rfl, ?_⟩; have n0_ := Aside0.mk (Kd.W_below (by (with_reducible repeat (first | apply Kd.W_alloc | apply Kd.W_drewN | apply Kd.W_drew)); exact (Kd.W_mono (Kd.W_far (p := ⟨gb198, 2, none⟩) (Kd.W_far (p := ⟨gb198, 1, none⟩) (Kd.W_far (p := ⟨gb198, 0, none⟩) (Kd.W_types HO_168002.out BK198.out (by decide)) (fun _ hk => by first | exact hk.2 | exact trivial) (.int .i64 t192)) (fun _ hk => by first | exact hk.2 | exact trivial) (.int .i64 t193)) (fun _ hk => by first | exact hk.2 | exact trivial) (.slice Ao76 t194.length co76)) (fun _ h_ => h_.1))) hb); have n1_ := Aside0.mk (Kd.W_below (by (with_reducible repeat (first | apply Kd.W_alloc | apply Kd.W_drewN | apply Kd.W_drew)); exact (Kd.W_mono (Kd.W_far (p := ⟨gb198, 2, none⟩) (Kd.W_far (p := ⟨gb198, 1, none⟩) (Kd.W_far (p := ⟨gb198, 0, none⟩) (Kd.W_types HO_178002.out BK198.out (by decide)) (fun _ hk => by first | exact hk.2 | exact trivial) (.int .i64 t192)) (fun _ hk => by first | exact hk.2 | exact trivial) (.int .i64 t193)) (fun _ hk => by first | exact hk.2 | exact trivial) (.slice Ao76 t194.length co76)) (fun _ h_ => h_.1))) hb); have n2_ := Aside0.mk (Kd.R_below (by (with_reducible repeat (first | apply Kd.R_alloc | apply Kd.R_drewN | apply Kd.R_drew)); exact (Kd.R_mono (Kd.R_far (p := ⟨gb198, 2, none⟩) (Kd.R_far (p := ⟨gb198, 1, none⟩) (Kd.R_far (p := ⟨gb198, 0, none⟩) (Kd.R_types HO191.out BK198.out (by decide)) (fun _ hk => by first | exact hk.2 | exact trivial) (.int .i64 t192)) (fun _ hk => by first | exact hk.2 | exact trivial) (.int .i64 t193)) (fun _ hk => by first | exact hk.2 | exact trivial) (.slice Ao76 t194.length co76)) (fun _ h_ => h_.1))) hb); have n3_ := Aside0.mk (Kd.W_below (by (with_reducible repeat (first | apply Kd.W_alloc | apply Kd.W_drewN | apply Kd.W_drew)); exact (Kd.W_mono (Kd.W_far (p := ⟨gb198, 2, none⟩) (Kd.W_far (p := ⟨gb198, 1, none⟩) (Kd.W_far (p := ⟨gb198, 0, none⟩) (Kd.W_types HO196.out BK198.out (by decide)) (fun _ hk => by first | exact hk.2 | exact trivial) (.int .i64 t192)) (fun _ hk => by first | exact hk.2 | exact trivial) (.int .i64 t193)) (fun _ hk => by first | exact hk.2 | exact trivial) (.slice Ao76 t194.length co76)) (fun _ h_ => h_.1))) hb); have n4_ := Aside0.mk (blk_below (g := gb167) (o := .cells #[.int .i64 t161, .int .i64 t162, .slice Ao13 t163.length co13] 51 (0, 0)) (by (with_reducible repeat (first | refine blk_drewN ?_ _ | refine blk_drew ?_ | refine blk_alloc ?_ _)); refine blk_far ?_ NB167_198.out _; (with_reducible repeat (first | refine blk_drewN ?_ _ | refine blk_drew ?_ | refine blk_alloc ?_ _)); refine blk_far ?_ NB167_198.out _; (with_reducible repeat (first | refine blk_drewN ?_ _ | refine blk_drew ?_ | refine blk_alloc ?_ _)); refine blk_far ?_ NB167_198.out _; (with_reducible repeat (first | refine blk_drewN ?_ _ | refine blk_drew ?_ | refine blk_alloc ?_ _)); exact BK167.out) hb); have n5_ := Aside0.mk (blk_below (g := gb177) (o := .cells #[.int .i64 t171, .int .i64 t172, .slice Ao20 t173.length co20] 51 (0, 0)) (by (with_reducible repeat (first | refine blk_drewN ?_ _ | refine blk_drew ?_ | refine blk_alloc ?_ _)); refine blk_far ?_ NB177_198.out _; (with_reducible repeat (first | refine blk_drewN ?_ _ | refine blk_drew ?_ | refine blk_alloc ?_ _)); refine blk_far ?_ NB177_198.out _; (with_reducible repeat (first | refine blk_drewN ?_ _ | refine blk_drew ?_ | refine blk_alloc ?_ _)); refine blk_far ?_ NB177_198.out _; (with_reducible repeat (first | refine blk_drewN ?_ _ | refine blk_drew ?_ | refine blk_alloc ?_ _)); exact BK177.out) hb); have n6_ := Aside0.mk (blk_below (g := gb198) (o := .cells #[.int .i64 t192, .int .i64 t193, .slice Ao76 t194.length co76] 51 (0, 0)) (by (with_reducible repeat (first | refine blk_drewN ?_ _ | refine blk_drew ?_ | refine blk_alloc ?_ _)); refine blk_put (cs := #[.int .i64 t192, .int .i64 t193, .slice none 0 0]) ?_ 2 _ rfl; (with_reducible repeat (first | refine blk_drewN ?_ _ | refine blk_drew ?_ | refine blk_alloc ?_ _)); refine blk_put (cs := #[.int .i64 t192, .int .i64 0, .slice none 0 0]) ?_ 1 _ rfl; (with_reducible repeat (first | refine blk_drewN ?_ _ | refine blk_drew ?_ | refine blk_alloc ?_ _)); refine blk_put (cs := #[.int .i64 0, .int .i64 0, .slice none 0 0]) ?_ 0 _ rfl; (with_reducible repeat (first | refine blk_drewN ?_ _ | refine blk_drew ?_ | refine blk_alloc ?_ _)); exact BK198.out) hb); have n7_ := Aside0.mk (below_step (by repeat (first | (with_reducible first | exact HB.out | apply below_alloc | apply pw_below_drewN | apply below_drew1 | refine below_set ?_ GE167.out | refine below_set ?_ GE177.out | refine below_set ?_ GE198.out) | exact HB.out)) hb); clear HO_168002; clear HO_178002; clear HO191; clear HO196; clear BK167; clear BK177; clear BK198; clear HB; have HO_168002 := n0_; have HO_178002 := n1_; have HO191 := n2_; have HO196 := n3_; have BK167 := n4_; have BK177 := n5_; have BK198 := n6_; have HB := n7_; clear n0_ n1_ n2_ n3_ n4_ n5_ n6_ n7_; (try clear hb); (try clear hb2); (try clear hk); (try clear hi)))
                          go_meet
                          case rel => exact ⟨_, (true), (by first | rfl | (simp; done) | (simp [*]; done)), H', ⟨by have := HJ6.out; have := HJ35.out; first | omega | exact Nat.le_refl _⟩, ⟨by (with_reducible repeat (first | apply Kd.W_alloc | apply Kd.W_drewN | apply Kd.W_drew)); exact Kd.W_mono HO_168002.out (fun _ hk => by first | exact ⟨hk.1.1, hk.2⟩ | simp only [hk, ne_eq, not_false_eq_true, and_self, true_and])⟩, ⟨by (with_reducible repeat (first | apply Kd.W_alloc | apply Kd.W_drewN | apply Kd.W_drew)); exact Kd.W_mono HO_178002.out (fun _ hk => by first | exact ⟨hk.1.1, hk.2⟩ | simp only [hk, ne_eq, not_false_eq_true, and_self, true_and])⟩, ⟨by (with_reducible repeat (first | apply Kd.W_alloc | apply Kd.W_drewN | apply Kd.W_drew)); exact Kd.W_mono HO196.out (fun _ hk => by first | exact ⟨hk.1.1.2, hk.1.2⟩ | simp only [hk, ne_eq, not_false_eq_true, and_self, true_and])⟩, ⟨by (with_reducible repeat (first | refine blk_drewN ?_ _ | refine blk_drew ?_ | refine blk_alloc ?_ _)); exact BK167.out⟩, ⟨by (with_reducible repeat (first | refine blk_drewN ?_ _ | refine blk_drew ?_ | refine blk_alloc ?_ _)); exact BK177.out⟩, ⟨by (with_reducible repeat (first | refine blk_drewN ?_ _ | refine blk_drew ?_ | refine blk_alloc ?_ _)); exact BK198.out⟩, ⟨by repeat (first | (with_reducible first | exact HB.out | apply below_alloc | apply pw_below_drewN | apply below_drew1 | refine below_set ?_ GE167.out | refine below_set ?_ GE177.out | refine below_set ?_ GE198.out) | exact HB.out)⟩⟩
                      case rest =>
                        clear HC63
                        try clear c1
                        try clear c2
                        try clear c2b0
                        try clear c2b1
                        try clear p2
                        try clear c3
                        try clear c4
                        try clear c5
                        try clear c6
                        try clear c7
                        try clear c8
                        try clear c11
                        try clear c18
                        try clear c20
                        try clear c22
                        try clear c23
                        try clear c27
                        try clear c31
                        try clear c34
                        try clear c40
                        try clear c40b0
                        try clear c42
                        try clear c43
                        try clear c45
                        try clear c46
                        try clear c47
                        try clear c51
                        try clear c54
                        try clear c54b0
                        try clear c55
                        try clear c60
                        try clear c60b0
                        try clear c60b1
                        try clear c64
                        try clear c73
                        try clear c74
                        try clear c77
                        try clear c78
                        try clear c79
                        try clear c80
                        try clear c82
                        try clear c85
                        try clear c86
                        try clear c88
                        try clear hcz12_0
                        try clear hcz12_1
                        try clear hcz12_2
                        try clear hcz19_0
                        try clear hcz19_1
                        try clear hcz19_2
                        try clear hcz24_0
                        try clear hcz24_1
                        try clear hcz24_2
                        try clear hcz25_0
                        try clear hcz25_1
                        try clear hcz25_2
                        try clear hcz28_0
                        try clear hcz28_1
                        try clear hcz28_2
                        try clear hcz29_0
                        try clear hcz29_1
                        try clear hcz29_2
                        try clear hcz44_0
                        try clear hcz44_1
                        try clear hcz44_2
                        try clear hcz45_0
                        try clear hcz45_1
                        try clear hcz45_2
                        try clear hcz48_0
                        try clear hcz48_1
                        try clear hcz48_2
                        try clear hcz49_0
                        try clear hcz49_1
                        try clear hcz49_2
                        try clear hcz56_0
                        try clear hcz56_1
                        try clear hcz56_2
                        try clear hcz58_0
                        try clear hcz58_1
                        try clear hcz58_2
                        try clear hcz65_0
                        try clear hcz65_1
                        try clear hcz65_2
                        try clear hcz67_0
                        try clear hcz67_1
                        try clear hcz67_2
                        try clear hcz75_0
                        try clear hcz75_1
                        try clear hcz75_2
                        try clear hcz81_0
                        try clear hcz81_1
                        try clear hcz81_2
                        try clear hcz83_0
                        try clear hcz83_1
                        try clear hcz83_2
                        try clear hcz87_0
                        try clear hcz87_1
                        try clear hcz87_2
                        try clear hcz89_0
                        try clear hcz89_1
                        try clear hcz89_2
                        try clear hfz12_0
                        try clear hfz12_1
                        try clear hfz12_2
                        try clear hfz19_0
                        try clear hfz19_1
                        try clear hfz19_2
                        try clear hfz24_0
                        try clear hfz24_1
                        try clear hfz24_2
                        try clear hfz25_0
                        try clear hfz25_1
                        try clear hfz25_2
                        try clear hfz28_0
                        try clear hfz28_1
                        try clear hfz28_2
                        try clear hfz29_0
                        try clear hfz29_1
                        try clear hfz29_2
                        try clear hfz44_0
                        try clear hfz44_1
                        try clear hfz44_2
                        try clear hfz45_0
                        try clear hfz45_1
                        try clear hfz45_2
                        try clear hfz48_0
                        try clear hfz48_1
                        try clear hfz48_2
                        try clear hfz49_0
                        try clear hfz49_1
                        try clear hfz49_2
                        try clear hfz56_0
                        try clear hfz56_1
                        try clear hfz56_2
                        try clear hfz58_0
                        try clear hfz58_1
                        try clear hfz58_2
                        try clear hfz65_0
                        try clear hfz65_1
                        try clear hfz65_2
                        try clear hfz67_0
                        try clear hfz67_1
                        try clear hfz67_2
                        try clear hfz75_0
                        try clear hfz75_1
                        try clear hfz75_2
                        try clear hfz81_0
                        try clear hfz81_1
                        try clear hfz81_2
                        try clear hfz83_0
                        try clear hfz83_1
                        try clear hfz83_2
                        try clear hfz87_0
                        try clear hfz87_1
                        try clear hfz87_2
                        try clear hfz89_0
                        try clear hfz89_1
                        try clear hfz89_2
                        try clear p2
                        obtain ⟨kq, x84_62, rfl, HA, HJ62, HO_168002, HO_178002, HO_199002, BK167, BK177, BK198, HB⟩ := hcut
                        have hl178002_62 := (Kd.W_reads' HO_178002.out).1
                        rw [hl178002_62] at HO_178002
                        (try simp only [hl178002_62])
                        (try simp only [hl178002_62] at BK167)
                        (try simp only [hl178002_62] at BK177)
                        (try simp only [hl178002_62] at BK198)
                        (try simp only [hl178002_62] at HO_168002)
                        (try simp only [hl178002_62] at HO_199002)
                        cases kq with
                        | zero => exact absurd HA.out (by simp [laws_FnExactReadFrame.j2])
                        | succ kj62 =>
                          have H := HA.out
                          clear HA
                          simp only [laws_FnExactReadFrame.j2] at H
                          by_cases c91 : x84_62 = true
                          · subst c91
                            have H1 : (some false) = some r := by rw [if_pos rfl] at H; exact H
                            clear H
                            have H := H1
                            clear H1
                            obtain rfl := Option.some.inj H
                            go_wp2
                            go_ret
                            exact ⟨by first | rfl | (simp [errW_none, errW_some] <;> rfl) | (simp [*, errW_none, errW_some] <;> rfl), by repeat (first | (with_reducible first | exact HB.out | apply below_alloc | apply pw_below_drewN | apply below_drew1 | refine below_set ?_ GE167.out | refine below_set ?_ GE177.out | refine below_set ?_ GE198.out) | exact HB.out)⟩
                          · replace c91 := Bool.eq_false_iff.mpr c91
                            subst c91
                            have H1 : ((laws_heldFrame.f kj62 t171 t172 t187 1).bind fun t200 => (if t200 < 0 then (some false) else (if t200 = t186 then (some true) else (some false)))) = some r := by rw [if_neg (show ¬ (false = true) by decide)] at H; exact H
                            clear H
                            have H := H1
                            clear H1
                            replace H := Option.bind_eq_some_iff.mp H
                            obtain ⟨t200, A920, H⟩ := H
                            replace H : (if t200 < 0 then (some false) else (if t200 = t186 then (some true) else (some false))) = some r := H
                            have A92 := Aside0.mk A920
                            clear A920
                            by_cases c93 : t200 < 0
                            · rw [if_pos c93] at H
                              have c93b0 : decide (t200 < 0) = true := decide_eq_true c93
                              clear c93
                              obtain rfl := Option.some.inj H
                              have hnb94 := NB177_167.out
                              have hnc94 := NB167_177.out
                              have hnb95 := NB177_198.out
                              have hnc95 := NB198_177.out
                              have hcz96_0 : wc.cell? ⟨gb177, 0, none⟩ = some (.int .i64 t171) := (blk_cell BK177.out 0).trans rfl
                              have hcz96_1 : wc.cell? ⟨gb177, 1, none⟩ = some (.int .i64 t172) := (blk_cell BK177.out 1).trans rfl
                              have hcz96_2 : wc.cell? ⟨gb177, 2, none⟩ = some (.slice Ao20 t187.length co20) := (blk_cell BK177.out 2).trans rfl
                              have hfz96_0 := blk_frozen BK177.out 0
                              have hfz96_1 := blk_frozen BK177.out 1
                              have hfz96_2 := blk_frozen BK177.out 2
                              go_wp2_with (first | ((with_reducible refine gate_callee (f := 47) rfl ?_); refine goesL_ (some 87) rfl rfl Try.func47 (by kernel_rfl) rfl #[.agg #[.int .i64 t171, .int .i64 t172, .slice Ao20 t187.length co20], .int .i64 1] rfl (by (try simp only [List.map_toArray, List.map_cons, List.map_nil]); first | done | rfl | (simp only [List.length_drop, List.length_take]; rfl)) ?_; (with_reducible refine (laws_heldFrame.calls kj62 t171 t172 _ _ t187 1 t200 _ ?side1 ?side2 A92.out).mono ?_); (case side1 => repeat (first | exact (Kd.W_reads' HO_178002.out).2.2 | (with_reducible refine Kd.C_alloc ?_ _) | (with_reducible refine Kd.C_drewN ?_ _) | (with_reducible refine Kd.C_drew ?_))); (case side2 => exact (Kd.W_reads' HO_178002.out).2.1); rintro e w97 ⟨rfl, hb⟩; refine ⟨_, rfl, ?_⟩; have n0_ := Aside0.mk (Kd.W_below (by (with_reducible repeat (first | apply Kd.W_alloc | apply Kd.W_drewN | apply Kd.W_drew)); exact HO_168002.out) hb); have n1_ := Aside0.mk (Kd.W_below (by (with_reducible repeat (first | apply Kd.W_alloc | apply Kd.W_drewN | apply Kd.W_drew)); exact HO_178002.out) hb); have n2_ := Aside0.mk (Kd.W_below (by (with_reducible repeat (first | apply Kd.W_alloc | apply Kd.W_drewN | apply Kd.W_drew)); exact HO_199002.out) hb); have n3_ := Aside0.mk (blk_below (g := gb167) (o := .cells #[.int .i64 t161, .int .i64 t162, .slice Ao13 t163.length co13] 51 (0, 0)) (by (with_reducible repeat (first | refine blk_drewN ?_ _ | refine blk_drew ?_ | refine blk_alloc ?_ _)); exact BK167.out) hb); have n4_ := Aside0.mk (blk_below (g := gb177) (o := .cells #[.int .i64 t171, .int .i64 t172, .slice Ao20 t187.length co20] 51 (0, 0)) (by (with_reducible repeat (first | refine blk_drewN ?_ _ | refine blk_drew ?_ | refine blk_alloc ?_ _)); exact BK177.out) hb); have n5_ := Aside0.mk (blk_below (g := gb198) (o := .cells #[.int .i64 t192, .int .i64 t193, .slice Ao76 t194.length co76] 51 (0, 0)) (by (with_reducible repeat (first | refine blk_drewN ?_ _ | refine blk_drew ?_ | refine blk_alloc ?_ _)); exact BK198.out) hb); have n6_ := Aside0.mk (below_step (by repeat (first | (with_reducible first | exact HB.out | apply below_alloc | apply pw_below_drewN | apply below_drew1 | refine below_set ?_ GE167.out | refine below_set ?_ GE177.out | refine below_set ?_ GE198.out) | exact HB.out)) hb); clear HO_168002; clear HO_178002; clear HO_199002; clear BK167; clear BK177; clear BK198; clear HB; have HO_168002 := n0_; have HO_178002 := n1_; have HO_199002 := n2_; have BK167 := n3_; have BK177 := n4_; have BK198 := n5_; have HB := n6_; clear n0_ n1_ n2_ n3_ n4_ n5_ n6_; (try clear hb); (try clear hb2); (try clear hk); (try clear hi)))
                              go_ret
                              exact ⟨by first | rfl | (simp [errW_none, errW_some] <;> rfl) | (simp [*, errW_none, errW_some] <;> rfl), by repeat (first | (with_reducible first | exact HB.out | apply below_alloc | apply pw_below_drewN | apply below_drew1 | refine below_set ?_ GE167.out | refine below_set ?_ GE177.out | refine below_set ?_ GE198.out) | exact HB.out)⟩
                            · rw [if_neg c93] at H
                              have c93b0 : decide (t200 < 0) = false := decide_eq_false c93
                              clear c93
                              by_cases c98 : t200 = t186
                              · rw [if_pos c98] at H
                                have c98b0 : (t200 == t186) = true := beq_iff_eq.mpr c98
                                have c98b1 : (t200 != t186) = false := bne_eq_false_iff_eq.mpr c98
                                clear c98
                                obtain rfl := Option.some.inj H
                                have hnb99 := NB177_167.out
                                have hnc99 := NB167_177.out
                                have hnb100 := NB177_198.out
                                have hnc100 := NB198_177.out
                                have hcz101_0 : wc.cell? ⟨gb177, 0, none⟩ = some (.int .i64 t171) := (blk_cell BK177.out 0).trans rfl
                                have hcz101_1 : wc.cell? ⟨gb177, 1, none⟩ = some (.int .i64 t172) := (blk_cell BK177.out 1).trans rfl
                                have hcz101_2 : wc.cell? ⟨gb177, 2, none⟩ = some (.slice Ao20 t187.length co20) := (blk_cell BK177.out 2).trans rfl
                                have hfz101_0 := blk_frozen BK177.out 0
                                have hfz101_1 := blk_frozen BK177.out 1
                                have hfz101_2 := blk_frozen BK177.out 2
                                go_wp2_with (first | ((with_reducible refine gate_callee (f := 47) rfl ?_); refine goesL_ (some 87) rfl rfl Try.func47 (by kernel_rfl) rfl #[.agg #[.int .i64 t171, .int .i64 t172, .slice Ao20 t187.length co20], .int .i64 1] rfl (by (try simp only [List.map_toArray, List.map_cons, List.map_nil]); first | done | rfl | (simp only [List.length_drop, List.length_take]; rfl)) ?_; (with_reducible refine (laws_heldFrame.calls kj62 t171 t172 _ _ t187 1 t200 _ ?side1 ?side2 A92.out).mono ?_); (case side1 => repeat (first | exact (Kd.W_reads' HO_178002.out).2.2 | (with_reducible refine Kd.C_alloc ?_ _) | (with_reducible refine Kd.C_drewN ?_ _) | (with_reducible refine Kd.C_drew ?_))); (case side2 => exact (Kd.W_reads' HO_178002.out).2.1); rintro e w102 ⟨rfl, hb⟩; refine ⟨_, rfl, ?_⟩; have n0_ := Aside0.mk (Kd.W_below (by (with_reducible repeat (first | apply Kd.W_alloc | apply Kd.W_drewN | apply Kd.W_drew)); exact HO_168002.out) hb); have n1_ := Aside0.mk (Kd.W_below (by (with_reducible repeat (first | apply Kd.W_alloc | apply Kd.W_drewN | apply Kd.W_drew)); exact HO_178002.out) hb); have n2_ := Aside0.mk (Kd.W_below (by (with_reducible repeat (first | apply Kd.W_alloc | apply Kd.W_drewN | apply Kd.W_drew)); exact HO_199002.out) hb); have n3_ := Aside0.mk (blk_below (g := gb167) (o := .cells #[.int .i64 t161, .int .i64 t162, .slice Ao13 t163.length co13] 51 (0, 0)) (by (with_reducible repeat (first | refine blk_drewN ?_ _ | refine blk_drew ?_ | refine blk_alloc ?_ _)); exact BK167.out) hb); have n4_ := Aside0.mk (blk_below (g := gb177) (o := .cells #[.int .i64 t171, .int .i64 t172, .slice Ao20 t187.length co20] 51 (0, 0)) (by (with_reducible repeat (first | refine blk_drewN ?_ _ | refine blk_drew ?_ | refine blk_alloc ?_ _)); exact BK177.out) hb); have n5_ := Aside0.mk (blk_below (g := gb198) (o := .cells #[.int .i64 t192, .int .i64 t193, .slice Ao76 t194.length co76] 51 (0, 0)) (by (with_reducible repeat (first | refine blk_drewN ?_ _ | refine blk_drew ?_ | refine blk_alloc ?_ _)); exact BK198.out) hb); have n6_ := Aside0.mk (below_step (by repeat (first | (with_reducible first | exact HB.out | apply below_alloc | apply pw_below_drewN | apply below_drew1 | refine below_set ?_ GE167.out | refine below_set ?_ GE177.out | refine below_set ?_ GE198.out) | exact HB.out)) hb); clear HO_168002; clear HO_178002; clear HO_199002; clear BK167; clear BK177; clear BK198; clear HB; have HO_168002 := n0_; have HO_178002 := n1_; have HO_199002 := n2_; have BK167 := n3_; have BK177 := n4_; have BK198 := n5_; have HB := n6_; clear n0_ n1_ n2_ n3_ n4_ n5_ n6_; (try clear hb); (try clear hb2); (try clear hk); (try clear hi)))
                                go_ret
                                exact ⟨by first | rfl | (simp [errW_none, errW_some] <;> rfl) | (simp [*, errW_none, errW_some] <;> rfl), by repeat (first | (with_reducible first | exact HB.out | apply below_alloc | apply pw_below_drewN | apply below_drew1 | refine below_set ?_ GE167.out | refine below_set ?_ GE177.out | refine below_set ?_ GE198.out) | exact HB.out)⟩
                              · rw [if_neg c98] at H
                                have c98b0 : (t200 == t186) = false := beq_eq_false_iff_ne.mpr c98
                                have c98b1 : (t200 != t186) = true := bne_iff_ne.mpr c98
                                obtain rfl := Option.some.inj H
                                have hnb103 := NB177_167.out
                                have hnc103 := NB167_177.out
                                have hnb104 := NB177_198.out
                                have hnc104 := NB198_177.out
                                have hcz105_0 : wc.cell? ⟨gb177, 0, none⟩ = some (.int .i64 t171) := (blk_cell BK177.out 0).trans rfl
                                have hcz105_1 : wc.cell? ⟨gb177, 1, none⟩ = some (.int .i64 t172) := (blk_cell BK177.out 1).trans rfl
                                have hcz105_2 : wc.cell? ⟨gb177, 2, none⟩ = some (.slice Ao20 t187.length co20) := (blk_cell BK177.out 2).trans rfl
                                have hfz105_0 := blk_frozen BK177.out 0
                                have hfz105_1 := blk_frozen BK177.out 1
                                have hfz105_2 := blk_frozen BK177.out 2
                                go_wp2_with (first | ((with_reducible refine gate_callee (f := 47) rfl ?_); refine goesL_ (some 87) rfl rfl Try.func47 (by kernel_rfl) rfl #[.agg #[.int .i64 t171, .int .i64 t172, .slice Ao20 t187.length co20], .int .i64 1] rfl (by (try simp only [List.map_toArray, List.map_cons, List.map_nil]); first | done | rfl | (simp only [List.length_drop, List.length_take]; rfl)) ?_; (with_reducible refine (laws_heldFrame.calls kj62 t171 t172 _ _ t187 1 t200 _ ?side1 ?side2 A92.out).mono ?_); (case side1 => repeat (first | exact (Kd.W_reads' HO_178002.out).2.2 | (with_reducible refine Kd.C_alloc ?_ _) | (with_reducible refine Kd.C_drewN ?_ _) | (with_reducible refine Kd.C_drew ?_))); (case side2 => exact (Kd.W_reads' HO_178002.out).2.1); rintro e w106 ⟨rfl, hb⟩; refine ⟨_, rfl, ?_⟩; have n0_ := Aside0.mk (Kd.W_below (by (with_reducible repeat (first | apply Kd.W_alloc | apply Kd.W_drewN | apply Kd.W_drew)); exact HO_168002.out) hb); have n1_ := Aside0.mk (Kd.W_below (by (with_reducible repeat (first | apply Kd.W_alloc | apply Kd.W_drewN | apply Kd.W_drew)); exact HO_178002.out) hb); have n2_ := Aside0.mk (Kd.W_below (by (with_reducible repeat (first | apply Kd.W_alloc | apply Kd.W_drewN | apply Kd.W_drew)); exact HO_199002.out) hb); have n3_ := Aside0.mk (blk_below (g := gb167) (o := .cells #[.int .i64 t161, .int .i64 t162, .slice Ao13 t163.length co13] 51 (0, 0)) (by (with_reducible repeat (first | refine blk_drewN ?_ _ | refine blk_drew ?_ | refine blk_alloc ?_ _)); exact BK167.out) hb); have n4_ := Aside0.mk (blk_below (g := gb177) (o := .cells #[.int .i64 t171, .int .i64 t172, .slice Ao20 t187.length co20] 51 (0, 0)) (by (with_reducible repeat (first | refine blk_drewN ?_ _ | refine blk_drew ?_ | refine blk_alloc ?_ _)); exact BK177.out) hb); have n5_ := Aside0.mk (blk_below (g := gb198) (o := .cells #[.int .i64 t192, .int .i64 t193, .slice Ao76 t194.length co76] 51 (0, 0)) (by (with_reducible repeat (first | refine blk_drewN ?_ _ | refine blk_drew ?_ | refine blk_alloc ?_ _)); exact BK198.out) hb); have n6_ := Aside0.mk (below_step (by repeat (first | (with_reducible first | exact HB.out | apply below_alloc | apply pw_below_drewN | apply below_drew1 | refine below_set ?_ GE167.out | refine below_set ?_ GE177.out | refine below_set ?_ GE198.out) | exact HB.out)) hb); clear HO_168002; clear HO_178002; clear HO_199002; clear BK167; clear BK177; clear BK198; clear HB; have HO_168002 := n0_; have HO_178002 := n1_; have HO_199002 := n2_; have BK167 := n3_; have BK177 := n4_; have BK198 := n5_; have HB := n6_; clear n0_ n1_ n2_ n3_ n4_ n5_ n6_; (try clear hb); (try clear hb2); (try clear hk); (try clear hi)))
                                go_ret
                                exact ⟨by first | rfl | (simp [errW_none, errW_some] <;> rfl) | (simp [*, errW_none, errW_some] <;> rfl), by repeat (first | (with_reducible first | exact HB.out | apply below_alloc | apply pw_below_drewN | apply below_drew1 | refine below_set ?_ GE167.out | refine below_set ?_ GE177.out | refine below_set ?_ GE198.out) | exact HB.out)⟩
                    · rw [if_neg c60] at H
                      have c60b0 : (t188 == t186) = false := beq_eq_false_iff_ne.mpr c60
                      have c60b1 : (t188 != t186) = true := bne_iff_ne.mpr c60
                      obtain rfl := Option.some.inj H
                      have hnb107 := NB177_167.out
                      have hnc107 := NB167_177.out
                      have hcz108_0 : wc.cell? ⟨gb177, 0, none⟩ = some (.int .i64 t171) := (blk_cell BK177.out 0).trans rfl
                      have hcz108_1 : wc.cell? ⟨gb177, 1, none⟩ = some (.int .i64 t172) := (blk_cell BK177.out 1).trans rfl
                      have hcz108_2 : wc.cell? ⟨gb177, 2, none⟩ = some (.slice Ao20 t173.length co20) := (blk_cell BK177.out 2).trans rfl
                      have hfz108_0 := blk_frozen BK177.out 0
                      have hfz108_1 := blk_frozen BK177.out 1
                      have hfz108_2 := blk_frozen BK177.out 2
                      go_wp2_with (first | ((with_reducible refine gate_callee (f := 44) rfl ?_); refine goesL_ (some 61) rfl rfl Try.func44 (by kernel_rfl) rfl #[.agg #[.int .i64 t171, .int .i64 t172, .slice Ao20 t173.length co20], .int .i64 1] rfl (by (try simp only [List.map_toArray, List.map_cons, List.map_nil]); first | done | rfl | (simp only [List.length_drop, List.length_take]; rfl)) ?_; (with_reducible refine (laws_markFrame_w.calls kj35 t171 t172 (fun k_ => some k_ = (.slice Ao20 t173.length co20 : Value).ownBlock) (.slice Ao20 t173.length co20) t173 1 t186 t187 w _ ?side1 ?side2 A52.out).mono ?_); (case side1 => repeat (first | (with_reducible first | exact HB.out | apply below_alloc | apply pw_below_drewN | apply below_drew1 | refine below_set ?_ GE167.out | refine below_set ?_ GE177.out) | exact HB.out)); (case side2 => exact Kd.W_tight rfl HO_178002.out); rintro e w109 ⟨rfl, hy0, hb, hkp⟩; refine ⟨_, rfl, ?_⟩; have n0_ := Aside0.mk (Kd.W_mono (ok' := fun k_ => some k_ ≠ (.slice Ao20 t173.length co20 : Value).ownBlock) (Kd.W_keptB (HO_168002.out) hkp (fun k_ hk_ hs_ => (hk_) hs_)) (fun k_ hk_ => hk_.1)); have n1_ := Aside0.mk (Kd.W_reok rfl hy0 (fun k_ e_ => HO_178002.out.1 k_ e_)); have n2_ := Aside0.mk (blk_kept (by (with_reducible repeat (first | refine blk_drewN ?_ _ | refine blk_drew ?_ | refine blk_alloc ?_ _)); exact BK167.out) hkp (fun hs_ => (fun e_ => (Kd.W_ne HO_178002.out BK167.out (by decide)) e_) hs_)); have n3_ := Aside0.mk (blk_kept (by (with_reducible repeat (first | refine blk_drewN ?_ _ | refine blk_drew ?_ | refine blk_alloc ?_ _)); exact BK177.out) hkp (fun hs_ => (fun e_ => (Kd.W_ne HO_178002.out BK177.out (by decide)) e_) hs_)); have n4_ := Aside0.mk (hb); clear HO_168002; clear HO_178002; clear BK167; clear BK177; clear HB; have HO_168002 := n0_; have HO_178002 := n1_; have BK167 := n2_; have BK177 := n3_; have HB := n4_; clear n0_ n1_ n2_ n3_ n4_; (try clear hb); (try clear hkp); (try clear hy0); have hcz110_0 : w109.cell? ⟨gb177, 0, none⟩ = some (.int .i64 t171) := (blk_cell BK177.out 0).trans rfl; have hcz110_1 : w109.cell? ⟨gb177, 1, none⟩ = some (.int .i64 t172) := (blk_cell BK177.out 1).trans rfl; have hcz110_2 : w109.cell? ⟨gb177, 2, none⟩ = some (.slice Ao20 t173.length co20) := (blk_cell BK177.out 2).trans rfl; have hfz110_0 := blk_frozen BK177.out 0; have hfz110_1 := blk_frozen BK177.out 1; have hfz110_2 := blk_frozen BK177.out 2) | ((with_reducible refine gate_callee (f := 47) rfl ?_); refine goesL_ (some 64) rfl rfl Try.func47 (by kernel_rfl) rfl #[.agg #[.int .i64 t171, .int .i64 t172, .slice Ao20 t187.length co20], .int .i64 1] rfl (by (try simp only [List.map_toArray, List.map_cons, List.map_nil]); first | done | (rw [show t187.length = t173.length from (Kd.W_reads' HO_178002.out).1.symm] <;> rfl) | rfl | (simp only [List.length_drop, List.length_take]; rfl)) ?_; (with_reducible refine (laws_heldFrame.calls kj35 t171 t172 _ _ t187 1 t188 _ ?side1 ?side2 A53.out).mono ?_); (case side1 => repeat (first | exact (Kd.W_reads' HO_178002.out).2.2 | (with_reducible refine Kd.C_alloc ?_ _) | (with_reducible refine Kd.C_drewN ?_ _) | (with_reducible refine Kd.C_drew ?_))); (case side2 => rw [show t187.length = t173.length from (Kd.W_reads' HO_178002.out).1.symm]; exact (Kd.W_reads' HO_178002.out).2.1); rintro e w111 ⟨rfl, hb⟩; refine ⟨_, rfl, ?_⟩; have n0_ := Aside0.mk (Kd.W_below (by (with_reducible repeat (first | apply Kd.W_alloc | apply Kd.W_drewN | apply Kd.W_drew)); exact HO_168002.out) hb); have n1_ := Aside0.mk (Kd.W_below (by (with_reducible repeat (first | apply Kd.W_alloc | apply Kd.W_drewN | apply Kd.W_drew)); exact HO_178002.out) hb); have n2_ := Aside0.mk (blk_below (g := gb167) (o := .cells #[.int .i64 t161, .int .i64 t162, .slice Ao13 t163.length co13] 51 (0, 0)) (by (with_reducible repeat (first | refine blk_drewN ?_ _ | refine blk_drew ?_ | refine blk_alloc ?_ _)); exact BK167.out) hb); have n3_ := Aside0.mk (blk_below (g := gb177) (o := .cells #[.int .i64 t171, .int .i64 t172, .slice Ao20 t173.length co20] 51 (0, 0)) (by (with_reducible repeat (first | refine blk_drewN ?_ _ | refine blk_drew ?_ | refine blk_alloc ?_ _)); exact BK177.out) hb); have n4_ := Aside0.mk (below_step (by repeat (first | (with_reducible first | exact HB.out | apply below_alloc | apply pw_below_drewN | apply below_drew1 | refine below_set ?_ GE167.out | refine below_set ?_ GE177.out) | exact HB.out)) hb); clear HO_168002; clear HO_178002; clear BK167; clear BK177; clear HB; have HO_168002 := n0_; have HO_178002 := n1_; have BK167 := n2_; have BK177 := n3_; have HB := n4_; clear n0_ n1_ n2_ n3_ n4_; (try clear hb); (try clear hb2); (try clear hk); (try clear hi)))
                      go_ret
                      exact ⟨by first | rfl | (simp [errW_none, errW_some] <;> rfl) | (simp [*, errW_none, errW_some] <;> rfl), by repeat (first | (with_reducible first | exact HB.out | apply below_alloc | apply pw_below_drewN | apply below_drew1 | refine below_set ?_ GE167.out | refine below_set ?_ GE177.out) | exact HB.out)⟩
          · replace c34 := Bool.eq_false_iff.mpr c34
            subst c34
            have H1 : (some false) = some r := by rw [if_neg (show ¬ (false = true) by decide)] at H; exact H
            clear H
            have H := H1
            clear H1
            obtain rfl := Option.some.inj H
            go_wp2_with (first | ((with_reducible refine gate_callee (f := 20) rfl ?_); refine goesL_ (some 40) rfl rfl Try.func20 (by kernel_rfl) rfl #[.slice A0 l0.length c0] rfl (by (try simp only [List.map_toArray, List.map_cons, List.map_nil]); first | done | rfl | (simp only [List.length_drop, List.length_take]; rfl)) ?_; (with_reducible refine (laws_toByteS.calls kj6 _ _ l0 t179 _ ?side1 ?side2 A32.out).mono ?_); (case side1 => repeat (first | exact (Kd.C_below HR0.out HB.out) | (with_reducible refine Kd.C_alloc ?_ _) | (with_reducible refine Kd.C_drewN ?_ _) | (with_reducible refine Kd.C_drew ?_))); (case side2 => exact HC0.out); rintro e w112 ⟨v180, rfl, ho0, hb⟩; refine ⟨_, rfl, ?_⟩; have n0_ := Aside0.mk (Kd.R_elder' (by (with_reducible repeat (first | apply Kd.R_alloc | apply Kd.R_drewN | apply Kd.R_drew)); exact HO_5.out) (Kd.R_base ho0) hb); have n1_ := Aside0.mk (Kd.W_elder' (by (with_reducible repeat (first | apply Kd.W_alloc | apply Kd.W_drewN | apply Kd.W_drew)); exact HO_168002.out) (Kd.R_base ho0) hb); have n2_ := Aside0.mk (Kd.W_elder' (by (with_reducible repeat (first | apply Kd.W_alloc | apply Kd.W_drewN | apply Kd.W_drew)); exact HO_178002.out) (Kd.R_base ho0) hb); have n3_ := Aside0.mk (Kd.R_lower (Kd.R_new' (Kd.R_new' (Kd.R_new' ho0 (Kd.R_lt (by (with_reducible repeat (first | apply Kd.R_alloc | apply Kd.R_drewN | apply Kd.R_drew)); exact HO_5.out))) (Kd.W_lt (by (with_reducible repeat (first | apply Kd.W_alloc | apply Kd.W_drewN | apply Kd.W_drew)); exact HO_168002.out))) (Kd.W_lt (by (with_reducible repeat (first | apply Kd.W_alloc | apply Kd.W_drewN | apply Kd.W_drew)); exact HO_178002.out))) (below_size (by repeat (first | (with_reducible first | exact HB.out | apply below_alloc | apply pw_below_drewN | apply below_drew1 | refine below_set ?_ GE167.out | refine below_set ?_ GE177.out) | exact HB.out)))); have n4_ := Aside0.mk (blk_below (g := gb167) (o := .cells #[.int .i64 t161, .int .i64 t162, .slice Ao13 t163.length co13] 51 (0, 0)) (by (with_reducible repeat (first | refine blk_drewN ?_ _ | refine blk_drew ?_ | refine blk_alloc ?_ _)); exact BK167.out) hb); have n5_ := Aside0.mk (blk_below (g := gb177) (o := .cells #[.int .i64 t171, .int .i64 t172, .slice Ao20 t173.length co20] 51 (0, 0)) (by (with_reducible repeat (first | refine blk_drewN ?_ _ | refine blk_drew ?_ | refine blk_alloc ?_ _)); exact BK177.out) hb); have n6_ := Aside0.mk (below_step (by repeat (first | (with_reducible first | exact HB.out | apply below_alloc | apply pw_below_drewN | apply below_drew1 | refine below_set ?_ GE167.out | refine below_set ?_ GE177.out) | exact HB.out)) hb); clear HO_5; clear HO_168002; clear HO_178002; clear BK167; clear BK177; clear HB; have HO_5 := n0_; have HO_168002 := n1_; have HO_178002 := n2_; have HO181 := n3_; have BK167 := n4_; have BK177 := n5_; have HB := n6_; clear n0_ n1_ n2_ n3_ n4_ n5_ n6_; (try clear hb); (try clear hb2); (try clear hk); (try clear hi); (try clear ho0); obtain ⟨Ao113, co113, eo113⟩ := Kd.R_slice HO181.out; subst eo113) | ((with_reducible refine gate_callee (f := 22) rfl ?_); refine goesL_ (some 41) rfl rfl Try.func22 (by kernel_rfl) rfl #[.slice Ao15 t168.length co15, .slice Ao113 t179.length co113] rfl (by (try simp only [List.map_toArray, List.map_cons, List.map_nil]); first | done | rfl | (simp only [List.length_drop, List.length_take]; rfl)) ?_; (with_reducible refine (laws_eqByteS.calls kj6 _ _ t168 _ _ t179 false _ ?side1 ?side2 ?side3 ?side4 A33.out).mono ?_); (case side1 => repeat (first | exact (Kd.R_reads' HO_5.out).2.2 | (with_reducible refine Kd.C_alloc ?_ _) | (with_reducible refine Kd.C_drewN ?_ _) | (with_reducible refine Kd.C_drew ?_))); (case side2 => exact (Kd.R_reads' HO_5.out).2.1); (case side3 => repeat (first | exact (Kd.R_reads' HO181.out).2.2 | (with_reducible refine Kd.C_alloc ?_ _) | (with_reducible refine Kd.C_drewN ?_ _) | (with_reducible refine Kd.C_drew ?_))); (case side4 => exact (Kd.R_reads' HO181.out).2.1); rintro e w' ⟨rfl, ⟨nd, rfl⟩⟩; refine ⟨_, rfl, ?_⟩))
            go_ret
            exact ⟨by first | rfl | (simp [errW_none, errW_some] <;> rfl) | (simp [*, errW_none, errW_some] <;> rfl), by repeat (first | (with_reducible first | exact HB.out | apply below_alloc | apply pw_below_drewN | apply below_drew1 | refine below_set ?_ GE167.out | refine below_set ?_ GE177.out) | exact HB.out)⟩

/-- THE ONE PURE STATEMENT of laws_FnExactReadFrame: yours. -/
def laws_FnExactReadFrame.Pure : Prop := ∀ (l0 : List Int), l0.length ≤ maxLen → l0.length * 1 ≤ 140737488351232 → (∀ x ∈ l0, (Lit.int .u8 x).wf = true) → ∃ k, laws_FnExactReadFrame.f k l0 = some true
theorem laws_FnExactReadFrame.walk (P : laws_FnExactReadFrame.Pure) (a0 : Option Addr) (len0 cap0 : Nat) (z0 : List Int) (w : World) (w0 : (a0 = none ∧ len0 = 0 ∧ cap0 = 0 ∧ z0 = []) ∨ ∃ x, a0 = some x ∧ len0 ≤ cap0 ∧ cap0 ≤ maxLen ∧ z0.length = cap0 ∧ (∀ i, i < z0.length → w.cell? (x.add i) = some (.int .u8 (z0.getD i 0))) ∧ ∀ n ∈ z0, (Lit.int .u8 n).wf = true) (y0 : len0 * 1 ≤ 140737488351232) :
    Calls Try.prog 11 #[.slice a0 len0 cap0] w fun e w' => e = .returned (.bool true) ∧ Below w.heap.size w w' := by
  obtain ⟨l0, rfl, hr0, hm0, hw0, hc0⟩ := ReadsInt.ofRowC w0
  obtain ⟨k, h⟩ := P l0 hm0 y0 hw0
  refine (laws_FnExactReadFrame.calls k _ _ l0 true w (Kd.C_of_reads (d := (0 : Int)) (h1 := fun _ => rfl) hr0) hc0 h).mono ?_
  rintro e w' ⟨rfl, hd⟩
  exact ⟨rfl, hd⟩
end Go.Proofs.Ytdbbdikkboppnaa.QFnExactReadFrame
