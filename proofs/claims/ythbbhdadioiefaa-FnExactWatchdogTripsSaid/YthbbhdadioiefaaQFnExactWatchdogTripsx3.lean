-- Written by wip/pr2.py: a program of this session's own, which runs the kit's print over contracts of its own.
import Derived.Test.YthbbhdadioiefaaQFnExactWatchdogTripsx2
namespace Go.Proofs.Ythbbhdadioiefaa.QFnExactWatchdogTrips
open Go.RowKit Go.Proofs.YthbbhdadioiefaaW.PrintWords Go.Proofs.YthbbhdadioiefaaW.PrintLast Go.Proofs.YthbbhdadioiefaaW.PrintMore
attribute [local go_sem] max2_int min2_int max_two min_two max_three min_three max_four min_four   -- for this text's walks alone
set_option linter.unusedVariables false
set_option linter.unusedSimpArgs false

/-! ### impl_TasksValid: function 30 (own) -/
/-! #### small words -/
def IdxPost {α : Type} (p : α → Bool) (l : List α) (e : Ending) : Prop := ∃ r : Int, e = .returned (.int .i64 r) ∧ (0 ≤ r ↔ l.any p = true)
theorem x_drawn_drew {w : World} {q q' : Nat} : (w.drewN q).drewN q' = w.drewN (q + q') := World.drewN_drewN ..
theorem C_int_cell {k : IntKind} {w : World} {A : Option Addr} {n : Nat} {l : List Int} (h : Kd.C (Kd.int k) w A n l) (i : Nat) (hi : i < n) : ∃ ad, A = some ad ∧ w.cell? (ad.add i) = some (.int k (l.getD i 0)) := by
  obtain ⟨ad, c, e, hl, hK, hc⟩ := Kd.C_get h (0 : Int) (i : Int) (by omega) (by omega)
  have hK' : c = [.int k (l.getD (i : Int).toNat 0)] := hK
  subst hK'
  have := hc 0 _ rfl
  rw [show (i : Int).toNat * (Kd.int k).sz + 0 = i from by show (i : Int).toNat * 1 + 0 = i; omega] at this
  exact ⟨ad, e, this⟩
theorem x_none {α : Type} (p : α → Bool) (l : List α) (d : α) (h : ∀ j, j < l.length → p (l.getD j d) = false) : l.any p = false := by
  rw [List.any_eq_false]
  intro x hx
  obtain ⟨j, hj, rfl⟩ := List.getElem_of_mem hx
  have := h j hj
  rw [List.getD_eq_getElem?_getD, List.getElem?_eq_getElem hj] at this
  simpa using this
theorem x_some {α : Type} (p : α → Bool) (l : List α) (d : α) (j : Nat) (hj : j < l.length) (h : p (l.getD j d) = true) : l.any p = true := by
  rw [List.any_eq_true]
  refine ⟨_, List.getElem_mem hj, ?_⟩
  rw [List.getD_eq_getElem?_getD, List.getElem?_eq_getElem hj] at h
  simpa using h
def tv_D : List Int → DataW Unit
  | [] => .map []
  | p :: ps => (tv_D ps).put (.int .i64 p) (.lit (.bool true))
theorem tv_D_map : ∀ ps, Go.Maps.IsMap (tv_D ps)
  | [] => Go.Maps.isMap_empty
  | p :: ps => (tv_D_map ps).put _ _
theorem tv_D_at (p : Int) : ∀ ps : List Int, (tv_D ps).atKey (.int .i64 p) (.lit (.bool false)) = .lit (.bool (ps.contains p))
  | [] => rfl
  | q :: ps => by
    by_cases e : p = q
    · subst e
      rw [tv_D, Go.Maps.atKey_put_same (tv_D_map ps) (k := .int .i64 p) (by simp [WideAt.IsKeyLit])]
      simp
    · rw [tv_D, Go.Maps.atKey_put_other (by simpa using e), tv_D_at p ps]
      simp [e]
section
variable {P : Program} {k : TypeId} {R : Value → Option (DataW Unit × List MemPlace)} {w w' : World} {b n : Nat} {D : DataW Unit}
theorem om_move (h : w.ownsMap P k R b n D) (e : w'.heap[b]? = w.heap[b]?) : w'.ownsMap P k R b n D := by
  obtain ⟨es, clock, hb, F, hs, hD⟩ := h
  exact ⟨es, clock, e.trans hb, F, hs, hD⟩
theorem om_below (h : w.ownsMap P k R b n D) (hb : Below w.heap.size w w') : w'.ownsMap P k R b n D := om_move h (hb.block b h.lt)
theorem om_set (h : w.ownsMap P k R b n D) {a : Addr} {v : Value} (hne : b ≠ a.block) : (w.setCell a v).ownsMap P k R b n D := om_move h (heap_setCell_other w a b v hne)
theorem om_drewN (h : w.ownsMap P k R b n D) (m : Nat) : (w.drewN m).ownsMap P k R b n D := h
theorem om_look {t e : TypeId} (h : w.ownsMap P k (plainElem P e) b n D) (K : Go.Maps.Keyed P k) (ht : P.underlying t = some (.map k e)) (he : P.underlying e = some .bool) (hz : (zeroValue e).run P w = .ok (.bool false) w)
    {key : Value} {kl : Lit} (hkey : keyOf P k key = some kl) (c : Bool) (hat : D.atKey kl (.lit (.bool false)) = .lit (.bool c)) : (Instr.lookup t (.map (some b)) key false).run P w = .ok (.bool c) w := by
  obtain ⟨v, ps, hrun, hv⟩ := h.lookup K ht hz (plainElem_bool he false) hkey
  rw [hat] at hv
  have : v = .bool c := by
    unfold plainElem at hv
    rw [he] at hv
    cases v <;> simp at hv
    rw [hv.1]
  rw [this] at hrun
  exact hrun
/-- The look-up at an operation, at elements of type bool. -/
theorem wpList_look {ops : Array Oper} {rest : List Oper} {o : Oper} {a : Act} {Q : Exit → Act → World → Prop}
    (hg : o.guard = none) (m x : Operand) (t : TypeId) (hop : o.op = Op.lookup t m x false) (mv key : Value) (hm : a.eval m = mv) (hx : a.eval x = key) (v : Value) (hrun : (Instr.lookup t mv key false).run P w = .ok v w)
    (hK : wpList P ops Q rest (a.put o.dst v) w) : wpList P ops Q (o :: rest) a w := by
  refine wpList_plain hg fun K' hK' => ?_
  unfold Oper.wp
  simp [execOp, hop, hm, hx, hrun, Result.andThen]
  exact hK' _ _ hK
end
theorem tv_zero (w : World) : (zeroValue 4).run Try.prog w = .ok (.bool false) w := by kernel_rfl

theorem tv_in0 (x a b : Int) (w : World) : Calls Try.prog 74 #[.int .i64 x, .int .i64 a, .int .i64 b] w fun e w' => e = .returned (.bool (decide (a ≤ x ∧ x ≤ b))) ∧ Drawn0 w w' := by
  by_cases c : a ≤ x
  · have c1 : decide (a ≤ x) = true := decide_eq_true c
    go_enter Try.func74, Try.ntmps74
    go_wp2
    go_ret
    exact ⟨by simp [c], Drawn0.refl _⟩
  have c1 : decide (a ≤ x) = false := decide_eq_false c
  go_enter Try.func74, Try.ntmps74
  go_wp2
  go_ret
  exact ⟨by simp [c], Drawn0.refl _⟩
theorem tv_in (x a b : Int) (r : Bool) (w : World) (h : decide (a ≤ x ∧ x ≤ b) = r) : Calls Try.prog 74 #[.int .i64 x, .int .i64 a, .int .i64 b] w fun e w' => e = .returned (.bool r) ∧ Drawn0 w w' := h ▸ tv_in0 x a b w
abbrev TVS := S96
def tv_seen (l : List TVS) (k : Nat) : List Int := ((l.take k).map fun t => t.f2).reverse
def tv_ok (l : List TVS) (k : Nat) : Bool := decide (1 ≤ (l.getD k z96).f0 ∧ (l.getD k z96).f0 ≤ 100) && decide (1 ≤ (l.getD k z96).f1 ∧ (l.getD k z96).f1 ≤ (l.getD k z96).f0) && decide (0 ≤ (l.getD k z96).f2 ∧ (l.getD k z96).f2 ≤ 9) && !((tv_seen l k).contains (l.getD k z96).f2)
def impl_TasksValid.f (l0 : List TVS) : Option Bool := some ((List.range l0.length).all (tv_ok l0) && decide (l0.length ≤ 6))
theorem tv_seen_succ (l : List TVS) (k : Nat) (h : k < l.length) : tv_seen l (k + 1) = (l.getD k z96).f2 :: tv_seen l k := by
  unfold tv_seen
  rw [List.take_add_one, List.getD_eq_getElem?_getD, List.getElem?_eq_getElem h, List.map_append, List.reverse_append]
  rfl
theorem tv_okE (l : List TVS) (k : Nat) (T : TVS) (h : l.getD k z96 = T) : tv_ok l k = (decide (1 ≤ T.f0 ∧ T.f0 ≤ 100) && decide (1 ≤ T.f1 ∧ T.f1 ≤ T.f0) && decide (0 ≤ T.f2 ∧ T.f2 ≤ 9) && !((tv_seen l k).contains T.f2)) := by
  unfold tv_ok
  rw [h]
theorem tv_all (l : List TVS) (h : ∀ j, j < l.length → tv_ok l j = true) : (List.range l.length).all (tv_ok l) = true := by
  rw [List.all_eq_true]
  intro j hj
  exact h j (by simpa using hj)
theorem tv_not (l : List TVS) (k : Nat) (hk : k < l.length) (h : tv_ok l k = false) : (List.range l.length).all (tv_ok l) = false := by
  rw [List.all_eq_false]
  exact ⟨k, by simpa using hk, by simp [h]⟩
theorem tv_rd (l : List TVS) (k : Nat) : rd_T96 l (k : Int) = l.getD k z96 := by
  simp only [rd_T96, Int.toNat_natCast]
set_option maxRecDepth 100000 in
set_option maxHeartbeats 4000000 in
theorem impl_TasksValid.calls (A0 : Option Addr) (c0 : Nat) (l0 : List TVS) (r : Bool) (w : World) (hr0 : Kd.C k96 w A0 l0.length l0) (hc0 : l0.length ≤ c0) (h : impl_TasksValid.f l0 = some r) :
    Calls Try.prog 30 #[.slice A0 l0.length c0] w fun e w' => e = .returned (.bool r) ∧ Below w.heap.size w w' := by
  have HF := Aside0.mk (Option.some.inj h)
  clear h
  have HR := Aside0.mk hr0
  have hmax := hr0.2.1
  clear hr0
  have law3 := Aside0.mk (Go.Maps.int_keyed (P := Try.prog) Try.underlying3)
  have hmm := @run_makeMap Try.prog
  go_enter Try.func30, Try.ntmps30
  go_wp2
  go_loopg [9] l0.length (fun gg s9 wr => ∃ kk : Nat, kk ≤ l0.length ∧ l0.length - kk ≤ gg ∧ s9 = .int .i64 kk ∧ Aside (wr.ownsMap Try.prog 3 (plainElem (H := Unit) Try.prog 4) w.heap.size kk (tv_D (tv_seen l0 kk))) ∧ Aside0 (Below w.heap.size w wr) ∧ Aside (∀ j, j < kk → tv_ok l0 j = true))
  case atStart => exact ⟨0, Nat.zero_le _, by omega, rfl, World.ownsMap_made _ _ _ _, ⟨below_alloc (Below.refl _ _) _⟩, fun j hj => absurd hj (Nat.not_lt_zero _)⟩
  clear hmm
  obtain ⟨kk, hkk, hg, rfl, HM, HB, HA⟩ := hrel
  by_cases hlt : kk < l0.length
  rotate_left
  · have hltz : ¬ (kk : Int) < (l0.length : Int) := by omega
    have : kk = l0.length := by omega
    subst this
    go_wp2
    go_ret
    refine ⟨?_, HB.out⟩
    rw [← HF.out, tv_all l0 HA]
    have e : decide ((l0.length : Int) ≤ 6) = decide (l0.length ≤ 6) := by
      rw [decide_eq_decide]
      omega
    first
      | rfl
      | (simp [e]; done)
      | (simp; omega)
  have hltz : (kk : Int) < (l0.length : Int) := by omega
  obtain ⟨ad, e, hx0, hx1, hx2⟩ := at_T96 HR.out kk (by omega) hltz
  cases e
  replace hx0 := (HB.out.cell (World.block_lt_of_cell? w _ hx0)).trans hx0
  replace hx1 := (HB.out.cell (World.block_lt_of_cell? w _ hx1)).trans hx1
  replace hx2 := (HB.out.cell (World.block_lt_of_cell? w _ hx2)).trans hx2
  have HX := Aside0.mk (tv_rd l0 kk)
  have HL := Aside0.mk hlt
  obtain ⟨x, hx⟩ : ∃ x : Int, (kk : Int) = x := ⟨_, rfl⟩
  have hx0i : 0 ≤ x := by omega
  have HXX := Aside0.mk hx
  rw [hx] at hx0 hx1 hx2 hltz ⊢
  clear hx
  generalize hT : rd_T96 l0 x = T at hx0 hx1 hx2
  have HT := Aside0.mk hT
  clear hT
  have hltb : decide (x < (l0.length : Int)) = true := decide_eq_true hltz
  have hx0b : decide (0 ≤ x) = true := decide_eq_true hx0i
  clear hlt
  cases c1 : decide (1 ≤ T.f0 ∧ T.f0 ≤ 100) with
  | false =>
    have C1 := Aside0.mk c1
    clear c1
    go_wp2_with (first | ((with_reducible refine gate_dst (N := 5) rfl ?_); refine box_event ?hg (N := 5) ?hd (cs := #[.int .i64 0, .int .i64 0, .int .i64 0]) (t := 96) ?hr ?_; (case hd => rfl); (case hg => rfl); (case hr => first | (go_simp; done) | (go_simp; rfl)); intro gb hg w23 hbox hb; have n0_ := Aside0.mk (below_step HB.out hb); have n1_ := Aside0.mk (hbox); have n2_ := Aside0.mk ((by rw [hg]; exact (below_size HB.out) : w.heap.size ≤ gb)); have n4_ := Aside0.mk ((by rw [hg]; exact Nat.ne_of_lt HM.lt : w.heap.size ≠ gb)); have n5_ := Aside0.mk (om_below HM hb); clear HB HM; have HB := n0_; have BK := n1_; have GE := n2_; have NE := n4_; have HM := n5_; clear n0_ n1_ n2_ n4_ n5_; clear hb hbox hg; have hcz0 : w23.cell? ⟨gb, 0, none⟩ = some (.int .i64 0) := (blk_cell BK.out 0).trans rfl; have hcz1 : w23.cell? ⟨gb, 1, none⟩ = some (.int .i64 0) := (blk_cell BK.out 1).trans rfl; have hcz2 : w23.cell? ⟨gb, 2, none⟩ = some (.int .i64 0) := (blk_cell BK.out 2).trans rfl; have hfz0 := blk_frozen BK.out 0; have hfz1 := blk_frozen BK.out 1; have hfz2 := blk_frozen BK.out 2) | (go_at_call 74; (with_reducible refine (tv_in T.f0 1 100 _ _ C1.out).mono ?_); rintro e w' ⟨rfl, ⟨nd, rfl⟩⟩))
    go_ret
    refine ⟨?_, (by repeat (first | exact HB.out | apply pw_below_drewN | refine below_set ?_ GE.out))⟩
    have hT : l0.getD kk z96 = T := HX.out.symm.trans ((congrArg (rd_T96 l0) HXX.out).trans HT.out)
    rw [← HF.out, tv_not l0 kk HL.out (by rw [tv_okE l0 kk T hT, C1.out]; simp)]
    rfl
  | true =>
    have C1 := Aside0.mk c1
    clear c1
    cases c2 : decide (1 ≤ T.f1 ∧ T.f1 ≤ T.f0) with
    | false =>
      have C2 := Aside0.mk c2
      clear c2
      go_wp2_with (first | ((with_reducible refine gate_dst (N := 5) rfl ?_); refine box_event ?hg (N := 5) ?hd (cs := #[.int .i64 0, .int .i64 0, .int .i64 0]) (t := 96) ?hr ?_; (case hd => rfl); (case hg => rfl); (case hr => first | (go_simp; done) | (go_simp; rfl)); intro gb hg w23 hbox hb; have n0_ := Aside0.mk (below_step HB.out hb); have n1_ := Aside0.mk (hbox); have n2_ := Aside0.mk ((by rw [hg]; exact (below_size HB.out) : w.heap.size ≤ gb)); have n4_ := Aside0.mk ((by rw [hg]; exact Nat.ne_of_lt HM.lt : w.heap.size ≠ gb)); have n5_ := Aside0.mk (om_below HM hb); clear HB HM; have HB := n0_; have BK := n1_; have GE := n2_; have NE := n4_; have HM := n5_; clear n0_ n1_ n2_ n4_ n5_; clear hb hbox hg; have hcz0 : w23.cell? ⟨gb, 0, none⟩ = some (.int .i64 0) := (blk_cell BK.out 0).trans rfl; have hcz1 : w23.cell? ⟨gb, 1, none⟩ = some (.int .i64 0) := (blk_cell BK.out 1).trans rfl; have hcz2 : w23.cell? ⟨gb, 2, none⟩ = some (.int .i64 0) := (blk_cell BK.out 2).trans rfl; have hfz0 := blk_frozen BK.out 0; have hfz1 := blk_frozen BK.out 1; have hfz2 := blk_frozen BK.out 2) | (go_at_call 74; (with_reducible refine (tv_in T.f0 1 100 _ _ C1.out).mono ?_); rintro e w' ⟨rfl, ⟨nd, rfl⟩⟩) | (go_at_call 74; (with_reducible refine (tv_in T.f1 1 T.f0 _ _ C2.out).mono ?_); rintro e w' ⟨rfl, ⟨nd, rfl⟩⟩))
      go_ret
      refine ⟨?_, (by repeat (first | exact HB.out | apply pw_below_drewN | refine below_set ?_ GE.out))⟩
      have hT : l0.getD kk z96 = T := HX.out.symm.trans ((congrArg (rd_T96 l0) HXX.out).trans HT.out)
      rw [← HF.out, tv_not l0 kk HL.out (by rw [tv_okE l0 kk T hT, C1.out, C2.out]; simp)]
      rfl
    | true =>
      have C2 := Aside0.mk c2
      clear c2
      cases c3 : decide (0 ≤ T.f2 ∧ T.f2 ≤ 9) with
      | false =>
        have C3 := Aside0.mk c3
        clear c3
        go_wp2_with (first | ((with_reducible refine gate_dst (N := 5) rfl ?_); refine box_event ?hg (N := 5) ?hd (cs := #[.int .i64 0, .int .i64 0, .int .i64 0]) (t := 96) ?hr ?_; (case hd => rfl); (case hg => rfl); (case hr => first | (go_simp; done) | (go_simp; rfl)); intro gb hg w23 hbox hb; have n0_ := Aside0.mk (below_step HB.out hb); have n1_ := Aside0.mk (hbox); have n2_ := Aside0.mk ((by rw [hg]; exact (below_size HB.out) : w.heap.size ≤ gb)); have n4_ := Aside0.mk ((by rw [hg]; exact Nat.ne_of_lt HM.lt : w.heap.size ≠ gb)); have n5_ := Aside0.mk (om_below HM hb); clear HB HM; have HB := n0_; have BK := n1_; have GE := n2_; have NE := n4_; have HM := n5_; clear n0_ n1_ n2_ n4_ n5_; clear hb hbox hg; have hcz0 : w23.cell? ⟨gb, 0, none⟩ = some (.int .i64 0) := (blk_cell BK.out 0).trans rfl; have hcz1 : w23.cell? ⟨gb, 1, none⟩ = some (.int .i64 0) := (blk_cell BK.out 1).trans rfl; have hcz2 : w23.cell? ⟨gb, 2, none⟩ = some (.int .i64 0) := (blk_cell BK.out 2).trans rfl; have hfz0 := blk_frozen BK.out 0; have hfz1 := blk_frozen BK.out 1; have hfz2 := blk_frozen BK.out 2) | (go_at_call 74; (with_reducible refine (tv_in T.f0 1 100 _ _ C1.out).mono ?_); rintro e w' ⟨rfl, ⟨nd, rfl⟩⟩) | (go_at_call 74; (with_reducible refine (tv_in T.f1 1 T.f0 _ _ C2.out).mono ?_); rintro e w' ⟨rfl, ⟨nd, rfl⟩⟩) | (go_at_call 74; (with_reducible refine (tv_in T.f2 0 9 _ _ C3.out).mono ?_); rintro e w' ⟨rfl, ⟨nd, rfl⟩⟩))
        go_ret
        refine ⟨?_, (by repeat (first | exact HB.out | apply pw_below_drewN | refine below_set ?_ GE.out))⟩
        have hT : l0.getD kk z96 = T := HX.out.symm.trans ((congrArg (rd_T96 l0) HXX.out).trans HT.out)
        rw [← HF.out, tv_not l0 kk HL.out (by rw [tv_okE l0 kk T hT, C1.out, C2.out, C3.out]; simp)]
        rfl
      | true =>
        have WK := Aside0.mk (Go.Maps.keyOf_int_mk (P := Try.prog) (q := .i64) (a := T.f2) Try.underlying3 (by have := of_decide_eq_true c3; simp [Lit.wf, IntKind.min, IntKind.max, IntKind.signed, IntKind.bits]; omega))
        have C3 := Aside0.mk c3
        clear c3
        have LM := Aside0.mk (show kk < maxLen from by have := HL.out; unfold maxLen; omega)
        have c4a := tv_D_at T.f2 (tv_seen l0 kk)
        cases c4 : (tv_seen l0 kk).contains T.f2 with
        | true =>
          rw [c4] at c4a
          have C4 := Aside0.mk c4a
          have C5 := Aside0.mk c4
          clear c4 c4a
          go_wp2_with (first | ((with_reducible refine gate_dst (N := 5) rfl ?_); refine box_event ?hg (N := 5) ?hd (cs := #[.int .i64 0, .int .i64 0, .int .i64 0]) (t := 96) ?hr ?_; (case hd => rfl); (case hg => rfl); (case hr => first | (go_simp; done) | (go_simp; rfl)); intro gb hg w23 hbox hb; have n0_ := Aside0.mk (below_step HB.out hb); have n1_ := Aside0.mk (hbox); have n2_ := Aside0.mk ((by rw [hg]; exact (below_size HB.out) : w.heap.size ≤ gb)); have n4_ := Aside0.mk ((by rw [hg]; exact Nat.ne_of_lt HM.lt : w.heap.size ≠ gb)); have n5_ := Aside0.mk (om_below HM hb); clear HB HM; have HB := n0_; have BK := n1_; have GE := n2_; have NE := n4_; have HM := n5_; clear n0_ n1_ n2_ n4_ n5_; clear hb hbox hg; have hcz0 : w23.cell? ⟨gb, 0, none⟩ = some (.int .i64 0) := (blk_cell BK.out 0).trans rfl; have hcz1 : w23.cell? ⟨gb, 1, none⟩ = some (.int .i64 0) := (blk_cell BK.out 1).trans rfl; have hcz2 : w23.cell? ⟨gb, 2, none⟩ = some (.int .i64 0) := (blk_cell BK.out 2).trans rfl; have hfz0 := blk_frozen BK.out 0; have hfz1 := blk_frozen BK.out 1; have hfz2 := blk_frozen BK.out 2) | (go_at_call 74; (with_reducible refine (tv_in T.f0 1 100 _ _ C1.out).mono ?_); rintro e w' ⟨rfl, ⟨nd, rfl⟩⟩) | (go_at_call 74; (with_reducible refine (tv_in T.f1 1 T.f0 _ _ C2.out).mono ?_); rintro e w' ⟨rfl, ⟨nd, rfl⟩⟩) | (go_at_call 74; (with_reducible refine (tv_in T.f2 0 9 _ _ C3.out).mono ?_); rintro e w' ⟨rfl, ⟨nd, rfl⟩⟩) | (at_lookup; refine gate_guard (by rfl) ?_; dsimp only; refine wpList_look rfl _ _ 99 rfl (.map (some w.heap.size)) (.int .i64 T.f2) rfl rfl (.bool true) (by refine om_look (D := tv_D (tv_seen l0 kk)) (n := kk) ?_ law3.out Try.underlying99 Try.underlying4 (tv_zero _) WK.out _ C4.out; (repeat (first | exact HM.out | apply om_drewN | refine om_set ?_ NE.out))) ?_))
          go_ret
          refine ⟨?_, (by repeat (first | exact HB.out | apply pw_below_drewN | refine below_set ?_ GE.out))⟩
          have hT : l0.getD kk z96 = T := HX.out.symm.trans ((congrArg (rd_T96 l0) HXX.out).trans HT.out)
          rw [← HF.out, tv_not l0 kk HL.out (by rw [tv_okE l0 kk T hT, C1.out, C2.out, C3.out, C5.out]; simp)]
          rfl
        | false =>
          rw [c4] at c4a
          have C4 := Aside0.mk c4a
          have C5 := Aside0.mk c4
          clear c4 c4a
          go_wp2_with (first | ((with_reducible refine gate_dst (N := 5) rfl ?_); refine box_event ?hg (N := 5) ?hd (cs := #[.int .i64 0, .int .i64 0, .int .i64 0]) (t := 96) ?hr ?_; (case hd => rfl); (case hg => rfl); (case hr => first | (go_simp; done) | (go_simp; rfl)); intro gb hg w23 hbox hb; have n0_ := Aside0.mk (below_step HB.out hb); have n1_ := Aside0.mk (hbox); have n2_ := Aside0.mk ((by rw [hg]; exact (below_size HB.out) : w.heap.size ≤ gb)); have n4_ := Aside0.mk ((by rw [hg]; exact Nat.ne_of_lt HM.lt : w.heap.size ≠ gb)); have n5_ := Aside0.mk (om_below HM hb); clear HB HM; have HB := n0_; have BK := n1_; have GE := n2_; have NE := n4_; have HM := n5_; clear n0_ n1_ n2_ n4_ n5_; clear hb hbox hg; have hcz0 : w23.cell? ⟨gb, 0, none⟩ = some (.int .i64 0) := (blk_cell BK.out 0).trans rfl; have hcz1 : w23.cell? ⟨gb, 1, none⟩ = some (.int .i64 0) := (blk_cell BK.out 1).trans rfl; have hcz2 : w23.cell? ⟨gb, 2, none⟩ = some (.int .i64 0) := (blk_cell BK.out 2).trans rfl; have hfz0 := blk_frozen BK.out 0; have hfz1 := blk_frozen BK.out 1; have hfz2 := blk_frozen BK.out 2) | (go_at_call 74; (with_reducible refine (tv_in T.f0 1 100 _ _ C1.out).mono ?_); rintro e w' ⟨rfl, ⟨nd, rfl⟩⟩) | (go_at_call 74; (with_reducible refine (tv_in T.f1 1 T.f0 _ _ C2.out).mono ?_); rintro e w' ⟨rfl, ⟨nd, rfl⟩⟩) | (go_at_call 74; (with_reducible refine (tv_in T.f2 0 9 _ _ C3.out).mono ?_); rintro e w' ⟨rfl, ⟨nd, rfl⟩⟩) | (at_lookup; refine gate_guard (by rfl) ?_; dsimp only; refine wpList_look rfl _ _ 99 rfl (.map (some w.heap.size)) (.int .i64 T.f2) rfl rfl (.bool false) (by refine om_look (D := tv_D (tv_seen l0 kk)) (n := kk) ?_ law3.out Try.underlying99 Try.underlying4 (tv_zero _) WK.out _ C4.out; (repeat (first | exact HM.out | apply om_drewN | refine om_set ?_ NE.out))) ?_) | (at_mapUpdate; refine wpList_mapUpdate_own _ rfl _ _ _ 99 rfl 3 4 law3.out Try.underlying99 (plainElem (H := Unit) Try.prog 4) w.heap.size kk (tv_D (tv_seen l0 kk)) rfl (by repeat (first | (with_reducible exact HM.out) | (with_reducible apply om_drewN) | (with_reducible refine om_set ?_ NE.out))) LM.out (.int .i64 T.f2) (.bool true) (.int .i64 T.f2) rfl rfl WK.out (.lit (.bool true)) [] (plainElem_bool Try.underlying4 true) ?_; intro w1 hown1 hgrow1))
          have hT : l0.getD kk z96 = T := HX.out.symm.trans ((congrArg (rd_T96 l0) HXX.out).trans HT.out)
          have HN := Aside0.mk hown1
          have HB1 := Aside0.mk (pw_below_grown (by repeat (first | exact HB.out | apply pw_below_drewN | refine below_set ?_ GE.out)) _ (below_size (by repeat (first | exact HB.out | apply pw_below_drewN | refine below_set ?_ GE.out))) hgrow1 (fun k hk => by cases hk; exact Nat.le_refl _))
          clear hown1 hgrow1
          go_roundg (l0.length - (kk + 1))
          case measure => have := HL.out; omega
          have hL := HL.out
          have hX := HXX.out
          refine ⟨kk + 1, by omega, by omega, by subst hX; go_num, ?_, HB1, fun j hj => ?_⟩
          · rw [tv_seen_succ l0 kk hL, hT]
            exact HN.out
          by_cases e : j = kk
          rotate_left
          · exact HA j (by omega)
          subst e
          rw [tv_okE l0 j T hT, C1.out, C2.out, C3.out, C5.out]
          rfl/-! ### impl_TaskSchedule: function 67 -/
mutual
def impl_TaskSchedule.j0 : Nat → List (S96) → Int → Bool → Option (List Int × List Int)
  | 0, _, _, _ => none
  | k + 1, x0, x1, x20 => if x20 = true then (some (([] : List Int), ([] : List Int))) else (if 0 ≤ x1 then (if (x1 : Int).toNat ≤ 35184372088832 then (if 0 ≤ (x0.length : Int) then (if ((x0.length : Int) : Int).toNat ≤ 35184372088832 then (impl_TaskSchedule.l0 k x0 (List.replicate (x1 : Int).toNat 0) (List.replicate ((x0.length : Int) : Int).toNat 0) (List.replicate ((x0.length : Int) : Int).toNat 0) x1 0) else (none)) else (none)) else (none)) else (none))
def impl_TaskSchedule.l0 : Nat → List (S96) → List Int → List Int → List Int → Int → Int → Option (List Int × List Int)
  | 0, _, _, _, _, _, _ => none
  | k + 1, x0, x6, x7, x8, x29, x30 => if x30 < x29 then (impl_TaskSchedule.l1 k x0 x6 x7 x8 x30 (-1) x29 x30 x0 (x0.length : Int) 0) else (some (x6, x7))
def impl_TaskSchedule.l1 : Nat → List (S96) → List Int → List Int → List Int → Int → Int → Int → Int → List (S96) → Int → Int → Option (List Int × List Int)
  | 0, _, _, _, _, _, _, _, _, _, _, _ => none
  | k + 1, x0, x6, x7, x8, x9, x10, x29, x30, x33, x34, x35 => if x35 < x34 then (if 0 ≤ x35 then (if x35 < (x33.length : Int) then (if ((rd_T96 x33 x35).f0) = 0 then (none) else (if (Int.tmod x9 ((rd_T96 x33 x35).f0)) = 0 then (if x35 < (x8.length : Int) then (if (rd x8 x35) > 0 then (if x35 < (x7.length : Int) then ((some (x7.set (x35 : Int).toNat (wrap64 ((rd x7 x35) + 1)) : List Int)).bind fun y192 => ((some (x8.set (x35 : Int).toNat ((rd_T96 x33 x35).f1) : List Int)).bind fun y193 => (if (rd y193 x35) > 0 then (if x10 < 0 then (impl_TaskSchedule.l1 k x0 x6 y192 y193 x9 x35 x29 x30 x33 x34 (wrap64 (x35 + 1))) else (if 0 ≤ x10 then (if x10 < (x0.length : Int) then (if ((rd_T96 x33 x35).f2) < ((rd_T96 x0 x10).f2) then (impl_TaskSchedule.l1 k x0 x6 y192 y193 x9 x35 x29 x30 x33 x34 (wrap64 (x35 + 1))) else (impl_TaskSchedule.l1 k x0 x6 y192 y193 x9 x10 x29 x30 x33 x34 (wrap64 (x35 + 1)))) else (none)) else (none))) else (impl_TaskSchedule.l1 k x0 x6 y192 y193 x9 x10 x29 x30 x33 x34 (wrap64 (x35 + 1)))))) else (none)) else ((some (x8.set (x35 : Int).toNat ((rd_T96 x33 x35).f1) : List Int)).bind fun y196 => (if (rd y196 x35) > 0 then (if x10 < 0 then (impl_TaskSchedule.l1 k x0 x6 x7 y196 x9 x35 x29 x30 x33 x34 (wrap64 (x35 + 1))) else (if 0 ≤ x10 then (if x10 < (x0.length : Int) then (if ((rd_T96 x33 x35).f2) < ((rd_T96 x0 x10).f2) then (impl_TaskSchedule.l1 k x0 x6 x7 y196 x9 x35 x29 x30 x33 x34 (wrap64 (x35 + 1))) else (impl_TaskSchedule.l1 k x0 x6 x7 y196 x9 x10 x29 x30 x33 x34 (wrap64 (x35 + 1)))) else (none)) else (none))) else (impl_TaskSchedule.l1 k x0 x6 x7 y196 x9 x10 x29 x30 x33 x34 (wrap64 (x35 + 1)))))) else (none)) else (if x35 < (x8.length : Int) then (if (rd x8 x35) > 0 then (if x10 < 0 then (impl_TaskSchedule.l1 k x0 x6 x7 x8 x9 x35 x29 x30 x33 x34 (wrap64 (x35 + 1))) else (if 0 ≤ x10 then (if x10 < (x0.length : Int) then (if ((rd_T96 x33 x35).f2) < ((rd_T96 x0 x10).f2) then (impl_TaskSchedule.l1 k x0 x6 x7 x8 x9 x35 x29 x30 x33 x34 (wrap64 (x35 + 1))) else (impl_TaskSchedule.l1 k x0 x6 x7 x8 x9 x10 x29 x30 x33 x34 (wrap64 (x35 + 1)))) else (none)) else (none))) else (impl_TaskSchedule.l1 k x0 x6 x7 x8 x9 x10 x29 x30 x33 x34 (wrap64 (x35 + 1)))) else (none)))) else (none)) else (none)) else (if 0 ≤ x9 then (if x9 < (x6.length : Int) then ((some (x6.set (x9 : Int).toNat x10 : List Int)).bind fun y185 => (if x10 ≥ 0 then (if 0 ≤ x10 then (if x10 < (x8.length : Int) then (impl_TaskSchedule.l0 k x0 y185 x7 (x8.set (x10 : Int).toNat (wrap64 ((rd x8 x10) - 1))) x29 (wrap64 (x30 + 1))) else (none)) else (none)) else (impl_TaskSchedule.l0 k x0 y185 x7 x8 x29 (wrap64 (x30 + 1))))) else (none)) else (none))
end
def impl_TaskSchedule.f (k : Nat) (l0 : List (S96)) (a1 : Int) : Option (List Int × List Int) := (impl_TasksValid.f l0).bind fun t174 => (if t174 = true then ((impl_in.f a1 0 1000).bind fun t175 => (impl_TaskSchedule.j0 k l0 a1 (!t175))) else (impl_TaskSchedule.j0 k l0 a1 true))
theorem impl_TaskSchedule.mono_l : ∀ k, (∀ y0 y1 y2, LeO (impl_TaskSchedule.j0 k y0 y1 y2) (impl_TaskSchedule.j0 (k + 1) y0 y1 y2)) ∧ (∀ y0 y1 y2 y3 y4 y5, LeO (impl_TaskSchedule.l0 k y0 y1 y2 y3 y4 y5) (impl_TaskSchedule.l0 (k + 1) y0 y1 y2 y3 y4 y5)) ∧ (∀ y0 y1 y2 y3 y4 y5 y6 y7 y8 y9 y10, LeO (impl_TaskSchedule.l1 k y0 y1 y2 y3 y4 y5 y6 y7 y8 y9 y10) (impl_TaskSchedule.l1 (k + 1) y0 y1 y2 y3 y4 y5 y6 y7 y8 y9 y10))
  | 0 => ⟨fun _ _ _ r h => by simp [impl_TaskSchedule.j0] at h, fun _ _ _ _ _ _ r h => by simp [impl_TaskSchedule.l0] at h, fun _ _ _ _ _ _ _ _ _ _ _ r h => by simp [impl_TaskSchedule.l1] at h⟩
  | k + 1 => by
    obtain ⟨ih0, ih1, ih2⟩ := impl_TaskSchedule.mono_l k
    refine ⟨?_, ?_, ?_⟩
    · intro y0 y1 y2
      unfold impl_TaskSchedule.j0
      repeat' first
      | (with_reducible exact ih0 _ _ _)
      | (with_reducible exact ih1 _ _ _ _ _ _)
      | (with_reducible exact ih2 _ _ _ _ _ _ _ _ _ _ _)
      | (with_reducible exact LeO.refl _)
      | (with_reducible exact LeO.none _)
      | (with_reducible refine LeO.ite ?_ ?_)
      | (with_reducible refine LeO.bind ?_ (fun _ => ?_))
      | exact ih0 _ _ _
      | exact ih1 _ _ _ _ _ _
      | exact ih2 _ _ _ _ _ _ _ _ _ _ _
      | exact LeO.none _
      | refine LeO.ite ?_ ?_
      | refine LeO.bind ?_ (fun _ => ?_)
    · intro y0 y1 y2 y3 y4 y5
      unfold impl_TaskSchedule.l0
      repeat' first
      | (with_reducible exact ih0 _ _ _)
      | (with_reducible exact ih1 _ _ _ _ _ _)
      | (with_reducible exact ih2 _ _ _ _ _ _ _ _ _ _ _)
      | (with_reducible exact LeO.refl _)
      | (with_reducible exact LeO.none _)
      | (with_reducible refine LeO.ite ?_ ?_)
      | (with_reducible refine LeO.bind ?_ (fun _ => ?_))
      | exact ih0 _ _ _
      | exact ih1 _ _ _ _ _ _
      | exact ih2 _ _ _ _ _ _ _ _ _ _ _
      | exact LeO.none _
      | refine LeO.ite ?_ ?_
      | refine LeO.bind ?_ (fun _ => ?_)
    · intro y0 y1 y2 y3 y4 y5 y6 y7 y8 y9 y10
      unfold impl_TaskSchedule.l1
      repeat' first
      | (with_reducible exact ih0 _ _ _)
      | (with_reducible exact ih1 _ _ _ _ _ _)
      | (with_reducible exact ih2 _ _ _ _ _ _ _ _ _ _ _)
      | (with_reducible exact LeO.refl _)
      | (with_reducible exact LeO.none _)
      | (with_reducible refine LeO.ite ?_ ?_)
      | (with_reducible refine LeO.bind ?_ (fun _ => ?_))
      | exact ih0 _ _ _
      | exact ih1 _ _ _ _ _ _
      | exact ih2 _ _ _ _ _ _ _ _ _ _ _
      | exact LeO.none _
      | refine LeO.ite ?_ ?_
      | refine LeO.bind ?_ (fun _ => ?_)
theorem impl_TaskSchedule.mono : ∀ a0 a1 k, LeO (impl_TaskSchedule.f k a0 a1) (impl_TaskSchedule.f (k + 1) a0 a1) := by
  intro a0 a1 k
  obtain ⟨ih0, ih1, ih2⟩ := impl_TaskSchedule.mono_l k
  unfold impl_TaskSchedule.f
  repeat' first
      | (with_reducible exact ih0 _ _ _)
      | (with_reducible exact ih1 _ _ _ _ _ _)
      | (with_reducible exact ih2 _ _ _ _ _ _ _ _ _ _ _)
      | (with_reducible exact LeO.refl _)
      | (with_reducible exact LeO.none _)
      | (with_reducible refine LeO.ite ?_ ?_)
      | (with_reducible refine LeO.bind ?_ (fun _ => ?_))
      | exact ih0 _ _ _
      | exact ih1 _ _ _ _ _ _
      | exact ih2 _ _ _ _ _ _ _ _ _ _ _
      | exact LeO.none _
      | refine LeO.ite ?_ ?_
      | refine LeO.bind ?_ (fun _ => ?_)
def impl_TaskSchedule.T16 : Bool × List (List Nat × List Nat) := (true, [([], []), ([], []), ([0, 1], [0, 1]), ([2], [2]), ([3], [3]), ([4], [4]), ([5], [5]), ([6, 5], [5, 6]), ([7, 5, 5], [5, 7]), ([8], [8]), ([9, 8], [8, 9]), ([8], [8]), ([8], [8]), ([11, 12, 8], [8, 11, 12]), ([13, 8], [8, 13]), ([14, 8], [8, 14]), ([10, 15, 8], [8, 10, 15]), ([8, 16, 5], [5, 8, 16]), ([5, 17], [5, 17])])
def impl_TaskSchedule.B16 : List Nat := [0, 0, 3, 7, 15, 31, 63, 127, 255, 511, 1023, 511, 511, 6655, 14847, 31231, 65535, 131071, 262143]
theorem impl_TaskSchedule.tab16 : rtab .any (opsOf Try.f67 16) = impl_TaskSchedule.T16 := by kernel_rfl
theorem impl_TaskSchedule.bits16 : waitsOk impl_TaskSchedule.T16.2 impl_TaskSchedule.B16 = true := by kernel_rfl
end Go.Proofs.Ythbbhdadioiefaa.QFnExactWatchdogTrips
