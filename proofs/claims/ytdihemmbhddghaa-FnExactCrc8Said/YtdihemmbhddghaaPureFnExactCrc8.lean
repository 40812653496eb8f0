/- For every list of bytes the law of Crc8 answers true (no condition beyond the kinds and the reach of the argument). -/
import Derived.Test.YtdihemmbhddghaaPFnExactCrc8x1
namespace Go.Proofs.Ytdihemmbhddghaa.Pure
open Go.RowKit Go.Proofs.Ytdihemmbhddghaa.PFnExactCrc8 Go.Proofs.YtdihemmbhddghaaW.PrintWords Go.Proofs.YtdihemmbhddghaaW.PrintLast Go.Proofs.YtdihemmbhddghaaW.PrintMore
set_option linter.unusedVariables false
set_option linter.unusedSimpArgs false

theorem c_ev_det {α : Type} {g : Nat → Option α} {r r' : α} (h : Ev g r) (h' : Ev g r') : r = r' := by
  obtain ⟨K, h⟩ := h
  obtain ⟨K', h'⟩ := h'
  have h1 := h (max K K') (by omega)
  have h2 := h' (max K K') (by omega)
  rw [h1] at h2
  exact Option.some.inj h2
theorem c_w64 {x : Int} (h0 : -9223372036854775808 ≤ x) (h1 : x ≤ 9223372036854775807) : wrap64 x = x := by
  unfold wrap64
  omega
theorem c_succ (i : Nat) (h : i < 9223372036854775807) : wrap64 ((i : Int) + 1) = ((i + 1 : Nat) : Int) := by
  unfold wrap64
  omega
theorem c_take_set {α : Type} (x acc : List α) (v : α) (i : Nat) (hv : x[i]? = some v) (hl : acc.length = x.length) (ht : acc.take i = x.take i) : (acc.set i v).take (i + 1) = x.take (i + 1) := by
  have hi : i < x.length := (List.getElem?_eq_some_iff.1 hv).1
  apply List.ext_getElem?
  intro j
  have hj := congrArg (fun l => l[j]?) ht
  simp only [List.getElem?_take] at hj
  rw [List.getElem?_take, List.getElem?_take]
  by_cases h1 : j < i + 1
  · rw [if_pos h1, if_pos h1]
    by_cases h2 : j < i
    · rw [if_pos h2, if_pos h2] at hj
      rw [List.getElem?_set_ne (by omega)]
      exact hj
    · have : j = i := by omega
      subst this
      rw [List.getElem?_set_self (by omega), hv]
  · rw [if_neg h1, if_neg h1]
theorem c_getD {α : Type} (x : List α) (d : α) (i : Nat) (h : i < x.length) : x[i]? = some (x.getD i d) := by
  rw [List.getD_eq_getElem?_getD, List.getElem?_eq_getElem h]
  rfl
theorem c_if_pos {α : Type} {c : Prop} [Decidable c] {g f : Nat → Option α} {r : α} (h : c) (k : Ev g r) : Ev (fun n => if c then g n else f n) r := Ev.congr (fun _ => if_pos h) k
theorem c_if_neg {α : Type} {c : Prop} [Decidable c] {g f : Nat → Option α} {r : α} (h : ¬ c) (k : Ev f r) : Ev (fun n => if c then g n else f n) r := Ev.congr (fun _ => if_neg h) k
theorem c_bind {α β : Type} {g : Nat → Option α} {f : Nat → α → Option β} (a : α) {r : β} (h : Ev g a) (k : Ev (fun n => f n a) r) : Ev (fun n => (g n).bind (f n)) r := Ev.bind h k
theorem c_bind1 {α β : Type} {g : Option α} {f : Nat → α → Option β} (a : α) {r : β} (h : g = some a) (k : Ev (fun n => f n a) r) : Ev (fun n => g.bind (f n)) r := Ev.congr (fun n => by rw [h]; rfl) k


theorem c_toByteS_l (x : List Int) (hn : x.length < 4611686018427387904) : ∀ (d : Nat) (acc : List Int) (i : Nat), acc.length = x.length → i + d = x.length → acc.take i = x.take i → Ev (fun k => laws_toByteS.l0 k x acc (i : Int)) x
  | 0, acc, i, hl, hi, ht => by
    have e : acc = x := by
      rw [List.take_of_length_le (by omega), List.take_of_length_le (by omega)] at ht
      exact ht
    subst e
    exact Ev.step (f := fun _ => some acc) (fun k => by simp only [laws_toByteS.l0]; rw [if_neg (by omega)]) (Ev.now _)
  | d + 1, acc, i, hl, hi, ht => by
    refine Ev.step (f := fun k => laws_toByteS.l0 k x (acc.set i (x.getD i 0)) ((i + 1 : Nat) : Int)) (fun k => ?_) (c_toByteS_l x hn d _ (i + 1) (by rw [List.length_set]; exact hl) (by omega) (c_take_set x acc _ i (c_getD x 0 i (by omega)) hl ht))
    simp only [laws_toByteS.l0]
    rw [if_pos (by omega), if_pos (by omega), if_pos (by omega), c_succ i (by omega)]
    simp only [rd, Int.toNat_natCast]
theorem c_toByteS_ev (x : List Int) (hn : x.length ≤ 1048576) : Ev (fun k => laws_toByteS.f k x) x := by
  unfold laws_toByteS.f
  refine c_if_pos (by omega) (c_if_pos (by omega) ?_)
  refine c_toByteS_l x (by omega) x.length _ 0 (by simp) (by omega) (by simp)


theorem c_eqByteS_l (x : List Int) (hn : x.length < 4611686018427387904) : ∀ (d : Nat) (i : Nat), i + d = x.length → Ev (fun k => laws_eqByteS.l0 k x x (i : Int)) true
  | 0, i, hi => Ev.step (f := fun _ => some true) (fun k => by simp only [laws_eqByteS.l0]; rw [if_neg (by omega)]) (Ev.now _)
  | d + 1, i, hi => by
    refine Ev.step (f := fun k => laws_eqByteS.l0 k x x ((i + 1 : Nat) : Int)) (fun k => ?_) (c_eqByteS_l x hn d (i + 1) (by omega))
    simp only [laws_eqByteS.l0]
    rw [if_pos (by omega), if_pos (by omega), if_pos (by omega), if_pos trivial, c_succ i (by omega)]
theorem c_eqByteS_ev (x : List Int) (hn : x.length < 4611686018427387904) : Ev (fun k => laws_eqByteS.f k x x) true := by
  unfold laws_eqByteS.f
  exact c_if_pos rfl (c_eqByteS_l x hn x.length 0 (by omega))

theorem cr_same (l : List Int) : ∀ k, (∀ v i, impl_Crc8.l0 k v l (l.length : Int) i = spec_Crc8.l0 k l v i) ∧ (∀ v i j, impl_Crc8.l1 k v l (l.length : Int) i j = spec_Crc8.l1 k l v i j)
  | 0 => ⟨fun _ _ => rfl, fun _ _ _ => rfl⟩
  | k + 1 => by
    obtain ⟨h0, h1⟩ := cr_same l k
    refine ⟨fun v i => ?_, fun v i j => ?_⟩
    · by_cases c : i < (l.length : Int)
      · by_cases c0 : 0 ≤ i
        · simp only [impl_Crc8.l0, spec_Crc8.l0, if_pos c, if_pos c0, h1]
        · simp only [impl_Crc8.l0, spec_Crc8.l0, if_pos c, if_neg c0]
      · simp only [impl_Crc8.l0, spec_Crc8.l0, if_neg c]
    · simp only [impl_Crc8.l1, spec_Crc8.l1]
      rw [h1, h1, h0, Int.mul_comm v 2]
theorem cr_in (l : List Int) (i : Nat) (P : ∀ v, ∃ r, Ev (fun k => spec_Crc8.l0 k l v (wrap64 (i + 1))) r) : ∀ (d : Nat) (v : Int) (j : Nat), j + d = 8 → ∃ r, Ev (fun k => spec_Crc8.l1 k l v (i : Int) (j : Int)) r
  | 0, v, j, h => by
    obtain ⟨r, hr⟩ := P v
    exact ⟨r, Ev.step (fun k => by simp only [spec_Crc8.l1]; rw [if_neg (by omega)]) hr⟩
  | d + 1, v, j, h => by
    by_cases c : v ≥ 128
    · obtain ⟨r, hr⟩ := cr_in l i P d (Go.bits .xor .i64 (wrap64 ((wrap64 (2 * v)) - 256)) 7) (j + 1) (by omega)
      exact ⟨r, Ev.step (fun k => by simp only [spec_Crc8.l1]; rw [if_pos (by omega), if_pos c, c_succ j (by omega)]) hr⟩
    · obtain ⟨r, hr⟩ := cr_in l i P d (wrap64 (2 * v)) (j + 1) (by omega)
      exact ⟨r, Ev.step (fun k => by simp only [spec_Crc8.l1]; rw [if_pos (by omega), if_neg c, c_succ j (by omega)]) hr⟩
theorem cr_out (l : List Int) (hn : l.length < 4611686018427387904) : ∀ (d : Nat) (v : Int) (i : Nat), i + d = l.length → ∃ r, Ev (fun k => spec_Crc8.l0 k l v (i : Int)) r
  | 0, v, i, h => ⟨v, Ev.step (fun k => by simp only [spec_Crc8.l0]; rw [if_neg (by omega)]) (Ev.now v)⟩
  | d + 1, v, i, h => by
    obtain ⟨r, hr⟩ := cr_in l i (fun v => by rw [c_succ i (by omega)]; exact cr_out l hn d v (i + 1) (by omega)) 8 (Go.bits .xor .i64 v (wrap64 (rd l i))) 0 (by omega)
    exact ⟨r, Ev.step (fun k => by simp only [spec_Crc8.l0]; rw [if_pos (by omega), if_pos (by omega)]; rfl) hr⟩
theorem FnExactCrc8 : ∀ (l0 : List Int), (l0.length ≤ maxLen ∧ ∀ y2 ∈ l0, (Lit.int .u8 y2).wf = true) → ∃ k, laws_FnExactCrc8.f k l0 = some true := by
  intro l hl
  refine Ev.rounds (r := true) ?_
  unfold laws_FnExactCrc8.f
  by_cases c : (l.length : Int) > 1048576
  · exact c_if_pos c (Ev.now true)
  refine c_if_neg c ?_
  have ht := c_toByteS_ev l (by omega)
  obtain ⟨r, hr⟩ := cr_out l (by omega) l.length 0 0 (by omega)
  have hi : Ev (fun k => impl_Crc8.f k l) r := Ev.congr (fun k => (cr_same l k).1 0 0) hr
  refine c_bind l ht (c_bind r hr (c_bind l ht (c_bind r hi (c_if_pos rfl (c_bind l ht (c_bind true (c_eqByteS_ev l (by omega)) (c_if_pos rfl (Ev.now true))))))))

end Go.Proofs.Ytdihemmbhddghaa.Pure
