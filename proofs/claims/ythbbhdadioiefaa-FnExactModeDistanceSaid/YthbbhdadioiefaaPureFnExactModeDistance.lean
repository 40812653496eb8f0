/- For every two modes the law of ModeDistance answers true (no condition beyond the kinds of the arguments). -/
import Derived.Test.YthbbhdadioiefaaQFnExactModeDistancex1
namespace Go.Proofs.Ythbbhdadioiefaa.Pure
open Go.RowKit Go.Proofs.Ythbbhdadioiefaa.QFnExactModeDistance Go.Proofs.YthbbhdadioiefaaW.PrintWords Go.Proofs.YthbbhdadioiefaaW.PrintLast Go.Proofs.YthbbhdadioiefaaW.PrintMore
set_option linter.unusedVariables false
set_option linter.unusedSimpArgs false

theorem c_ev_det {α : Type} {g : Nat → Option α} {r r' : α} (h : Ev g r) (h' : Ev g r') : r = r' := by
  obtain ⟨K, h⟩ := h
  obtain ⟨K', h'⟩ := h'
  have h1 := h (max K K') (by omega)
  have h2 := h' (max K K') (by omega)
  rw [h1] at h2
  exact Option.some.inj h2
theorem c_w64 {x : Int} (h0 : -9223372036854775808 ≤ x) (h1 : x ≤ 9223372036854775807) : wrap64 x = x := by
  unfold wrap64
  omega
theorem c_succ (i : Nat) (h : i < 9223372036854775807) : wrap64 ((i : Int) + 1) = ((i + 1 : Nat) : Int) := by
  unfold wrap64
  omega
theorem c_take_set {α : Type} (x acc : List α) (v : α) (i : Nat) (hv : x[i]? = some v) (hl : acc.length = x.length) (ht : acc.take i = x.take i) : (acc.set i v).take (i + 1) = x.take (i + 1) := by
  have hi : i < x.length := (List.getElem?_eq_some_iff.1 hv).1
  apply List.ext_getElem?
  intro j
  have hj := congrArg (fun l => l[j]?) ht
  simp only [List.getElem?_take] at hj
  rw [List.getElem?_take, List.getElem?_take]
  by_cases h1 : j < i + 1
  · rw [if_pos h1, if_pos h1]
    by_cases h2 : j < i
    · rw [if_pos h2, if_pos h2] at hj
      rw [List.getElem?_set_ne (by omega)]
      exact hj
    · have : j = i := by omega
      subst this
      rw [List.getElem?_set_self (by omega), hv]
  · rw [if_neg h1, if_neg h1]
theorem c_getD {α : Type} (x : List α) (d : α) (i : Nat) (h : i < x.length) : x[i]? = some (x.getD i d) := by
  rw [List.getD_eq_getElem?_getD, List.getElem?_eq_getElem h]
  rfl
theorem c_if_pos {α : Type} {c : Prop} [Decidable c] {g f : Nat → Option α} {r : α} (h : c) (k : Ev g r) : Ev (fun n => if c then g n else f n) r := Ev.congr (fun _ => if_pos h) k
theorem c_if_neg {α : Type} {c : Prop} [Decidable c] {g f : Nat → Option α} {r : α} (h : ¬ c) (k : Ev f r) : Ev (fun n => if c then g n else f n) r := Ev.congr (fun _ => if_neg h) k
theorem c_bind {α β : Type} {g : Nat → Option α} {f : Nat → α → Option β} (a : α) {r : β} (h : Ev g a) (k : Ev (fun n => f n a) r) : Ev (fun n => (g n).bind (f n)) r := Ev.bind h k
theorem c_bind1 {α β : Type} {g : Option α} {f : Nat → α → Option β} (a : α) {r : β} (h : g = some a) (k : Ev (fun n => f n a) r) : Ev (fun n => g.bind (f n)) r := Ev.congr (fun n => by rw [h]; rfl) k

theorem c_next {α : Type} {g : Nat → Option α} {r : α} (h : Ev (fun k => g (k + 1)) r) : Ev g r := Ev.step (fun _ => rfl) h

theorem md_ev {α : Type} {g : Nat → Option α} (hm : ∀ k, LeO (g k) (g (k + 1))) {n : Nat} {r : α} (h : g n = some r) : Ev g r := ⟨n, fun k hk => by
  obtain ⟨d, rfl⟩ := Nat.exists_eq_add_of_le hk
  induction d with
  | zero => exact h
  | succ d ih => exact hm _ _ (ih (Nat.le_add_right _ _))⟩
set_option maxRecDepth 100000 in
theorem md_s00 : spec_ModeDistance.f 1500 0 0 = some ((impl_ModeDistance.f 0 0).getD 0) := by kernel_rfl
set_option maxRecDepth 100000 in
theorem md_i00 : impl_ModeDistance.f 0 0 = some ((impl_ModeDistance.f 0 0).getD 0) := by kernel_rfl
set_option maxRecDepth 100000 in
theorem md_s01 : spec_ModeDistance.f 1500 0 1 = some ((impl_ModeDistance.f 0 1).getD 0) := by kernel_rfl
set_option maxRecDepth 100000 in
theorem md_i01 : impl_ModeDistance.f 0 1 = some ((impl_ModeDistance.f 0 1).getD 0) := by kernel_rfl
set_option maxRecDepth 100000 in
theorem md_s02 : spec_ModeDistance.f 1500 0 2 = some ((impl_ModeDistance.f 0 2).getD 0) := by kernel_rfl
set_option maxRecDepth 100000 in
theorem md_i02 : impl_ModeDistance.f 0 2 = some ((impl_ModeDistance.f 0 2).getD 0) := by kernel_rfl
set_option maxRecDepth 100000 in
theorem md_s03 : spec_ModeDistance.f 1500 0 3 = some ((impl_ModeDistance.f 0 3).getD 0) := by kernel_rfl
set_option maxRecDepth 100000 in
theorem md_i03 : impl_ModeDistance.f 0 3 = some ((impl_ModeDistance.f 0 3).getD 0) := by kernel_rfl
set_option maxRecDepth 100000 in
theorem md_s04 : spec_ModeDistance.f 1500 0 4 = some ((impl_ModeDistance.f 0 4).getD 0) := by kernel_rfl
set_option maxRecDepth 100000 in
theorem md_i04 : impl_ModeDistance.f 0 4 = some ((impl_ModeDistance.f 0 4).getD 0) := by kernel_rfl
set_option maxRecDepth 100000 in
theorem md_s05 : spec_ModeDistance.f 1500 0 5 = some ((impl_ModeDistance.f 0 5).getD 0) := by kernel_rfl
set_option maxRecDepth 100000 in
theorem md_i05 : impl_ModeDistance.f 0 5 = some ((impl_ModeDistance.f 0 5).getD 0) := by kernel_rfl
set_option maxRecDepth 100000 in
theorem md_s10 : spec_ModeDistance.f 1500 1 0 = some ((impl_ModeDistance.f 1 0).getD 0) := by kernel_rfl
set_option maxRecDepth 100000 in
theorem md_i10 : impl_ModeDistance.f 1 0 = some ((impl_ModeDistance.f 1 0).getD 0) := by kernel_rfl
set_option maxRecDepth 100000 in
theorem md_s11 : spec_ModeDistance.f 1500 1 1 = some ((impl_ModeDistance.f 1 1).getD 0) := by kernel_rfl
set_option maxRecDepth 100000 in
theorem md_i11 : impl_ModeDistance.f 1 1 = some ((impl_ModeDistance.f 1 1).getD 0) := by kernel_rfl
set_option maxRecDepth 100000 in
theorem md_s12 : spec_ModeDistance.f 1500 1 2 = some ((impl_ModeDistance.f 1 2).getD 0) := by kernel_rfl
set_option maxRecDepth 100000 in
theorem md_i12 : impl_ModeDistance.f 1 2 = some ((impl_ModeDistance.f 1 2).getD 0) := by kernel_rfl
set_option maxRecDepth 100000 in
theorem md_s13 : spec_ModeDistance.f 1500 1 3 = some ((impl_ModeDistance.f 1 3).getD 0) := by kernel_rfl
set_option maxRecDepth 100000 in
theorem md_i13 : impl_ModeDistance.f 1 3 = some ((impl_ModeDistance.f 1 3).getD 0) := by kernel_rfl
set_option maxRecDepth 100000 in
theorem md_s14 : spec_ModeDistance.f 1500 1 4 = some ((impl_ModeDistance.f 1 4).getD 0) := by kernel_rfl
set_option maxRecDepth 100000 in
theorem md_i14 : impl_ModeDistance.f 1 4 = some ((impl_ModeDistance.f 1 4).getD 0) := by kernel_rfl
set_option maxRecDepth 100000 in
theorem md_s15 : spec_ModeDistance.f 1500 1 5 = some ((impl_ModeDistance.f 1 5).getD 0) := by kernel_rfl
set_option maxRecDepth 100000 in
theorem md_i15 : impl_ModeDistance.f 1 5 = some ((impl_ModeDistance.f 1 5).getD 0) := by kernel_rfl
set_option maxRecDepth 100000 in
theorem md_s20 : spec_ModeDistance.f 1500 2 0 = some ((impl_ModeDistance.f 2 0).getD 0) := by kernel_rfl
set_option maxRecDepth 100000 in
theorem md_i20 : impl_ModeDistance.f 2 0 = some ((impl_ModeDistance.f 2 0).getD 0) := by kernel_rfl
set_option maxRecDepth 100000 in
theorem md_s21 : spec_ModeDistance.f 1500 2 1 = some ((impl_ModeDistance.f 2 1).getD 0) := by kernel_rfl
set_option maxRecDepth 100000 in
theorem md_i21 : impl_ModeDistance.f 2 1 = some ((impl_ModeDistance.f 2 1).getD 0) := by kernel_rfl
set_option maxRecDepth 100000 in
theorem md_s22 : spec_ModeDistance.f 1500 2 2 = some ((impl_ModeDistance.f 2 2).getD 0) := by kernel_rfl
set_option maxRecDepth 100000 in
theorem md_i22 : impl_ModeDistance.f 2 2 = some ((impl_ModeDistance.f 2 2).getD 0) := by kernel_rfl
set_option maxRecDepth 100000 in
theorem md_s23 : spec_ModeDistance.f 1500 2 3 = some ((impl_ModeDistance.f 2 3).getD 0) := by kernel_rfl
set_option maxRecDepth 100000 in
theorem md_i23 : impl_ModeDistance.f 2 3 = some ((impl_ModeDistance.f 2 3).getD 0) := by kernel_rfl
set_option maxRecDepth 100000 in
theorem md_s24 : spec_ModeDistance.f 1500 2 4 = some ((impl_ModeDistance.f 2 4).getD 0) := by kernel_rfl
set_option maxRecDepth 100000 in
theorem md_i24 : impl_ModeDistance.f 2 4 = some ((impl_ModeDistance.f 2 4).getD 0) := by kernel_rfl
set_option maxRecDepth 100000 in
theorem md_s25 : spec_ModeDistance.f 1500 2 5 = some ((impl_ModeDistance.f 2 5).getD 0) := by kernel_rfl
set_option maxRecDepth 100000 in
theorem md_i25 : impl_ModeDistance.f 2 5 = some ((impl_ModeDistance.f 2 5).getD 0) := by kernel_rfl
set_option maxRecDepth 100000 in
theorem md_s30 : spec_ModeDistance.f 1500 3 0 = some ((impl_ModeDistance.f 3 0).getD 0) := by kernel_rfl
set_option maxRecDepth 100000 in
theorem md_i30 : impl_ModeDistance.f 3 0 = some ((impl_ModeDistance.f 3 0).getD 0) := by kernel_rfl
set_option maxRecDepth 100000 in
theorem md_s31 : spec_ModeDistance.f 1500 3 1 = some ((impl_ModeDistance.f 3 1).getD 0) := by kernel_rfl
set_option maxRecDepth 100000 in
theorem md_i31 : impl_ModeDistance.f 3 1 = some ((impl_ModeDistance.f 3 1).getD 0) := by kernel_rfl
set_option maxRecDepth 100000 in
theorem md_s32 : spec_ModeDistance.f 1500 3 2 = some ((impl_ModeDistance.f 3 2).getD 0) := by kernel_rfl
set_option maxRecDepth 100000 in
theorem md_i32 : impl_ModeDistance.f 3 2 = some ((impl_ModeDistance.f 3 2).getD 0) := by kernel_rfl
set_option maxRecDepth 100000 in
theorem md_s33 : spec_ModeDistance.f 1500 3 3 = some ((impl_ModeDistance.f 3 3).getD 0) := by kernel_rfl
set_option maxRecDepth 100000 in
theorem md_i33 : impl_ModeDistance.f 3 3 = some ((impl_ModeDistance.f 3 3).getD 0) := by kernel_rfl
set_option maxRecDepth 100000 in
theorem md_s34 : spec_ModeDistance.f 1500 3 4 = some ((impl_ModeDistance.f 3 4).getD 0) := by kernel_rfl
set_option maxRecDepth 100000 in
theorem md_i34 : impl_ModeDistance.f 3 4 = some ((impl_ModeDistance.f 3 4).getD 0) := by kernel_rfl
set_option maxRecDepth 100000 in
theorem md_s35 : spec_ModeDistance.f 1500 3 5 = some ((impl_ModeDistance.f 3 5).getD 0) := by kernel_rfl
set_option maxRecDepth 100000 in
theorem md_i35 : impl_ModeDistance.f 3 5 = some ((impl_ModeDistance.f 3 5).getD 0) := by kernel_rfl
set_option maxRecDepth 100000 in
theorem md_s40 : spec_ModeDistance.f 1500 4 0 = some ((impl_ModeDistance.f 4 0).getD 0) := by kernel_rfl
set_option maxRecDepth 100000 in
theorem md_i40 : impl_ModeDistance.f 4 0 = some ((impl_ModeDistance.f 4 0).getD 0) := by kernel_rfl
set_option maxRecDepth 100000 in
theorem md_s41 : spec_ModeDistance.f 1500 4 1 = some ((impl_ModeDistance.f 4 1).getD 0) := by kernel_rfl
set_option maxRecDepth 100000 in
theorem md_i41 : impl_ModeDistance.f 4 1 = some ((impl_ModeDistance.f 4 1).getD 0) := by kernel_rfl
set_option maxRecDepth 100000 in
theorem md_s42 : spec_ModeDistance.f 1500 4 2 = some ((impl_ModeDistance.f 4 2).getD 0) := by kernel_rfl
set_option maxRecDepth 100000 in
theorem md_i42 : impl_ModeDistance.f 4 2 = some ((impl_ModeDistance.f 4 2).getD 0) := by kernel_rfl
set_option maxRecDepth 100000 in
theorem md_s43 : spec_ModeDistance.f 1500 4 3 = some ((impl_ModeDistance.f 4 3).getD 0) := by kernel_rfl
set_option maxRecDepth 100000 in
theorem md_i43 : impl_ModeDistance.f 4 3 = some ((impl_ModeDistance.f 4 3).getD 0) := by kernel_rfl
set_option maxRecDepth 100000 in
theorem md_s44 : spec_ModeDistance.f 1500 4 4 = some ((impl_ModeDistance.f 4 4).getD 0) := by kernel_rfl
set_option maxRecDepth 100000 in
theorem md_i44 : impl_ModeDistance.f 4 4 = some ((impl_ModeDistance.f 4 4).getD 0) := by kernel_rfl
set_option maxRecDepth 100000 in
theorem md_s45 : spec_ModeDistance.f 1500 4 5 = some ((impl_ModeDistance.f 4 5).getD 0) := by kernel_rfl
set_option maxRecDepth 100000 in
theorem md_i45 : impl_ModeDistance.f 4 5 = some ((impl_ModeDistance.f 4 5).getD 0) := by kernel_rfl
set_option maxRecDepth 100000 in
theorem md_s50 : spec_ModeDistance.f 1500 5 0 = some ((impl_ModeDistance.f 5 0).getD 0) := by kernel_rfl
set_option maxRecDepth 100000 in
theorem md_i50 : impl_ModeDistance.f 5 0 = some ((impl_ModeDistance.f 5 0).getD 0) := by kernel_rfl
set_option maxRecDepth 100000 in
theorem md_s51 : spec_ModeDistance.f 1500 5 1 = some ((impl_ModeDistance.f 5 1).getD 0) := by kernel_rfl
set_option maxRecDepth 100000 in
theorem md_i51 : impl_ModeDistance.f 5 1 = some ((impl_ModeDistance.f 5 1).getD 0) := by kernel_rfl
set_option maxRecDepth 100000 in
theorem md_s52 : spec_ModeDistance.f 1500 5 2 = some ((impl_ModeDistance.f 5 2).getD 0) := by kernel_rfl
set_option maxRecDepth 100000 in
theorem md_i52 : impl_ModeDistance.f 5 2 = some ((impl_ModeDistance.f 5 2).getD 0) := by kernel_rfl
set_option maxRecDepth 100000 in
theorem md_s53 : spec_ModeDistance.f 1500 5 3 = some ((impl_ModeDistance.f 5 3).getD 0) := by kernel_rfl
set_option maxRecDepth 100000 in
theorem md_i53 : impl_ModeDistance.f 5 3 = some ((impl_ModeDistance.f 5 3).getD 0) := by kernel_rfl
set_option maxRecDepth 100000 in
theorem md_s54 : spec_ModeDistance.f 1500 5 4 = some ((impl_ModeDistance.f 5 4).getD 0) := by kernel_rfl
set_option maxRecDepth 100000 in
theorem md_i54 : impl_ModeDistance.f 5 4 = some ((impl_ModeDistance.f 5 4).getD 0) := by kernel_rfl
set_option maxRecDepth 100000 in
theorem md_s55 : spec_ModeDistance.f 1500 5 5 = some ((impl_ModeDistance.f 5 5).getD 0) := by kernel_rfl
set_option maxRecDepth 100000 in
theorem md_i55 : impl_ModeDistance.f 5 5 = some ((impl_ModeDistance.f 5 5).getD 0) := by kernel_rfl
theorem md_all (a b : Int) (ha : 0 ≤ a ∧ a ≤ 5) (hb : 0 ≤ b ∧ b ≤ 5) : ∃ r : Int, spec_ModeDistance.f 1500 a b = some r ∧ impl_ModeDistance.f a b = some r := by
  rcases (by omega : a = 0 ∨ a = 1 ∨ a = 2 ∨ a = 3 ∨ a = 4 ∨ a = 5) with rfl | rfl | rfl | rfl | rfl | rfl
  · rcases (by omega : b = 0 ∨ b = 1 ∨ b = 2 ∨ b = 3 ∨ b = 4 ∨ b = 5) with rfl | rfl | rfl | rfl | rfl | rfl
    · exact ⟨_, md_s00, md_i00⟩
    · exact ⟨_, md_s01, md_i01⟩
    · exact ⟨_, md_s02, md_i02⟩
    · exact ⟨_, md_s03, md_i03⟩
    · exact ⟨_, md_s04, md_i04⟩
    · exact ⟨_, md_s05, md_i05⟩
  · rcases (by omega : b = 0 ∨ b = 1 ∨ b = 2 ∨ b = 3 ∨ b = 4 ∨ b = 5) with rfl | rfl | rfl | rfl | rfl | rfl
    · exact ⟨_, md_s10, md_i10⟩
    · exact ⟨_, md_s11, md_i11⟩
    · exact ⟨_, md_s12, md_i12⟩
    · exact ⟨_, md_s13, md_i13⟩
    · exact ⟨_, md_s14, md_i14⟩
    · exact ⟨_, md_s15, md_i15⟩
  · rcases (by omega : b = 0 ∨ b = 1 ∨ b = 2 ∨ b = 3 ∨ b = 4 ∨ b = 5) with rfl | rfl | rfl | rfl | rfl | rfl
    · exact ⟨_, md_s20, md_i20⟩
    · exact ⟨_, md_s21, md_i21⟩
    · exact ⟨_, md_s22, md_i22⟩
    · exact ⟨_, md_s23, md_i23⟩
    · exact ⟨_, md_s24, md_i24⟩
    · exact ⟨_, md_s25, md_i25⟩
  · rcases (by omega : b = 0 ∨ b = 1 ∨ b = 2 ∨ b = 3 ∨ b = 4 ∨ b = 5) with rfl | rfl | rfl | rfl | rfl | rfl
    · exact ⟨_, md_s30, md_i30⟩
    · exact ⟨_, md_s31, md_i31⟩
    · exact ⟨_, md_s32, md_i32⟩
    · exact ⟨_, md_s33, md_i33⟩
    · exact ⟨_, md_s34, md_i34⟩
    · exact ⟨_, md_s35, md_i35⟩
  · rcases (by omega : b = 0 ∨ b = 1 ∨ b = 2 ∨ b = 3 ∨ b = 4 ∨ b = 5) with rfl | rfl | rfl | rfl | rfl | rfl
    · exact ⟨_, md_s40, md_i40⟩
    · exact ⟨_, md_s41, md_i41⟩
    · exact ⟨_, md_s42, md_i42⟩
    · exact ⟨_, md_s43, md_i43⟩
    · exact ⟨_, md_s44, md_i44⟩
    · exact ⟨_, md_s45, md_i45⟩
  · rcases (by omega : b = 0 ∨ b = 1 ∨ b = 2 ∨ b = 3 ∨ b = 4 ∨ b = 5) with rfl | rfl | rfl | rfl | rfl | rfl
    · exact ⟨_, md_s50, md_i50⟩
    · exact ⟨_, md_s51, md_i51⟩
    · exact ⟨_, md_s52, md_i52⟩
    · exact ⟨_, md_s53, md_i53⟩
    · exact ⟨_, md_s54, md_i54⟩
    · exact ⟨_, md_s55, md_i55⟩
theorem md_bad (a b : Int) (h : ¬ ((0 ≤ a ∧ a ≤ 5) ∧ (0 ≤ b ∧ b ≤ 5))) : Ev (fun k => spec_ModeDistance.f k a b) (-1) := by
  have l1 : ∀ a b c : Int, spec_l1In.f a b c = some (decide (b ≤ a ∧ a ≤ c)) := by
    intro a b c
    unfold spec_l1In.f
    by_cases h : a ≥ b
    · rw [if_pos h]
      simp [h]
    · rw [if_neg h]
      simp [h]
  have j : Ev (fun k => spec_ModeDistance.j0 k a b true) (-1) := c_next (by simp only [spec_ModeDistance.j0]; exact c_if_pos trivial (Ev.now (-1)))
  unfold spec_ModeDistance.f
  simp only [l1]
  by_cases c1 : 0 ≤ a ∧ a ≤ 5
  · have c2 : ¬ (0 ≤ b ∧ b ≤ 5) := fun g => h ⟨c1, g⟩
    refine c_bind1 true (congrArg some (decide_eq_true c1)) (c_if_pos rfl ?_)
    exact c_bind1 false (congrArg some (decide_eq_false c2)) j
  · exact c_bind1 false (congrArg some (decide_eq_false c1)) (c_if_neg (by simp) j)
theorem FnExactModeDistance : ∀ (a0 : Int) (a1 : Int), (Lit.int .i64 a0).wf = true → (Lit.int .i64 a1).wf = true → ∃ k, laws_FnExactModeDistance.f k a0 a1 = some true := by
  intro a b _ _
  refine Ev.rounds (r := true) ?_
  unfold laws_FnExactModeDistance.f
  by_cases h : (0 ≤ a ∧ a ≤ 5) ∧ (0 ≤ b ∧ b ≤ 5)
  · obtain ⟨r, hs, hi⟩ := md_all a b h.1 h.2
    exact c_bind _ (md_ev (fun k => spec_ModeDistance.mono a b k) hs) (c_bind1 _ hi (c_if_pos rfl (Ev.now true)))
  · exact c_bind _ (md_bad a b h) (c_bind1 (-1) (by unfold impl_ModeDistance.f; rw [if_neg h]) (c_if_pos rfl (Ev.now true)))

end Go.Proofs.Ythbbhdadioiefaa.Pure
