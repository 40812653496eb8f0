/- A row of the call's own whose capacity was cut (slices.Clip): words for walks; whatever holds of the row's blocks is led back to the row before the cut. No condition. -/
import Derived.Test.YthbbhdadioiefaaWMore
import Derived.Test.YthbbhdadioiefaaWQPut
namespace Go.Proofs.YthbbhdadioiefaaW.PrintWords
open Go.RowKit
namespace Kd
/-- A row of one's own, told by another capacity. -/
def W {α : Type} (d : Kd α) (e : Nat) (w : World) (base : Nat) (ok : Nat → Prop) (v : Value) (xs : List α) : Prop :=
  (∀ k, v.ownBlock = some k → ok k) ∧ ∃ A n c c', v = .slice A n c' ∧ n ≤ c' ∧ d.R e w base ok (.slice A n c) xs
section
variable {α : Type} {d : Kd α} {e : Nat} {w w1 W' W2 : World} {base : Nat} {ok ok' S : Nat → Prop} {v u : Value} {xs : List α}
theorem clip_block {A : Option Addr} {n n' c c' : Nat} : (Value.slice A n c).ownBlock = (Value.slice A n' c').ownBlock := by cases A <;> rfl
theorem W_mk {A : Option Addr} {n c c' : Nat} (hl : n ≤ c') (h : d.R e w base ok (.slice A n c) xs) : d.W e w base ok (.slice A n c') xs := ⟨fun k hk => h.1 k (clip_block.trans hk), A, n, c, c', rfl, hl, h⟩
theorem C_relen {A : Option Addr} {n m : Nat} (h : d.C w A n xs) (hm : m = n) : d.C w A m xs := hm ▸ h
theorem W_of_R (h : d.R e w base ok v xs) : d.W e w base ok v xs := by
  obtain ⟨A, c, rfl, hl, _⟩ := R_reads h
  exact W_mk hl h
theorem W_imp (h : d.W e w base ok v xs) (hi : ∀ A n c, v.ownBlock = (Value.slice A n c).ownBlock → d.R e w base ok (.slice A n c) xs → d.R e w1 base ok' (.slice A n c) xs) : d.W e w1 base ok' v xs := by
  obtain ⟨_, A, n, c, c', rfl, hl, h⟩ := h
  exact W_mk hl (hi A n c clip_block h)
theorem W_nil (d : Kd α) (e : Nat) (w : World) (base : Nat) (ok : Nat → Prop) : d.W e w base ok (.slice none 0 0) [] := W_of_R (R_nil d e w base ok)
theorem W_mono (h : d.W e w base ok v xs) (hok : ∀ k, ok k → ok' k) : d.W e w base ok' v xs := W_imp h (fun _ _ _ _ h => R_mono h hok)
theorem W_step (h : d.W e w base ok v xs) (hm : ∀ k, ok k → k < w.heap.size → w1.heap[k]? = w.heap[k]?) : d.W e w1 base ok v xs := W_imp h (fun _ _ _ _ h => R_step h hm)
theorem W_below (h : d.W e w base ok v xs) (hb : Below w.heap.size w w1) : d.W e w1 base ok v xs := W_imp h (fun _ _ _ _ h => R_below h hb)
theorem W_alloc (h : d.W e w base ok v xs) (o : Obj) : d.W e (w.alloc o) base ok v xs := W_imp h (fun _ _ _ _ h => R_alloc h o)
theorem W_drew (h : d.W e w base ok v xs) : d.W e w.drew base ok v xs := W_imp h (fun _ _ _ _ h => R_drew h)
theorem W_drewN (h : d.W e w base ok v xs) (m : Nat) : d.W e (w.drewN m) base ok v xs := W_imp h (fun _ _ _ _ h => R_drewN h m)
theorem W_grown (h : d.W e w base ok v xs) {row : Option Nat} (hg : w.grownBy w1 row) (hok : ∀ k, ok k → some k ≠ row) : d.W e w1 base ok v xs := W_imp h (fun _ _ _ _ h => R_grown h hg hok)
theorem W_lower {base' : Nat} (h : d.W e w base ok v xs) (hb : base' ≤ base) : d.W e w base' ok v xs := by
  obtain ⟨_, A, n, c, c', rfl, hl, h⟩ := h
  exact W_mk hl (R_lower h hb)
theorem W_ok (h : d.W e w base ok v xs) : ∀ k, v.ownBlock = some k → ok k := by
  obtain ⟨_, A, n, c, c', rfl, hl, h⟩ := h
  exact fun k hk => h.1 k (clip_block.trans hk)
theorem W_bound (h : d.W e w base ok v xs) : d.W e w base (fun k => ok k ∧ base ≤ k ∧ k < w.heap.size ∧ ∃ q, q ∈ e :: d.E ∧ ∃ cells, w.heap[k]? = some (.cells cells q (0, 0))) v xs := W_imp h (fun _ _ _ _ h => R_bound h)
theorem W_lt (h : d.W e w base ok v xs) : ∀ k, v.ownBlock = some k → k < w.heap.size := by
  obtain ⟨_, A, n, c, c', rfl, hl, h⟩ := h
  exact fun k hk => R_lt h k (clip_block.trans hk)
theorem W_base (h : d.W e w base ok v xs) : ∀ k, v.ownBlock = some k → base ≤ k := by
  obtain ⟨_, A, n, c, c', rfl, hl, h⟩ := h
  exact fun k hk => R_base h k (clip_block.trans hk)
theorem W_slice (h : d.W e w base ok v xs) : ∃ A c, v = .slice A xs.length c ∧ xs.length ≤ c := by
  obtain ⟨_, A, n, c, c', rfl, hl, h⟩ := h
  obtain ⟨rfl, _⟩ := R_reads' h
  exact ⟨A, c', rfl, hl⟩
theorem W_reads' {A : Option Addr} {n c : Nat} (h : d.W e w base ok (.slice A n c) xs) : n = xs.length ∧ n ≤ c ∧ d.C w A xs.length xs := by
  obtain ⟨_, A', n', c1, c', he, hl, h⟩ := h
  injection he with h1 h2 h3
  subst h1; subst h2; subst h3
  obtain ⟨h4, _, h5⟩ := R_reads' h
  exact ⟨h4, hl, h5⟩
theorem W_reads (h : d.W e w base ok v xs) : ∃ A c, v = .slice A xs.length c ∧ xs.length ≤ c ∧ d.C w A xs.length xs := by
  obtain ⟨A, c, rfl, hl⟩ := W_slice h
  exact ⟨A, c, rfl, hl, (W_reads' h).2.2⟩
theorem W_tight (hE : d.E = []) (h : d.W e w base ok v xs) : d.W e w base (fun k => some k = v.ownBlock) v xs := by
  obtain ⟨_, A, n, c, c', rfl, hl, h⟩ := h
  exact W_mk hl (R_mono (R_tight hE h) (fun k hk => hk.trans clip_block))
theorem W_reok {ok1 : Nat → Prop} (hE : d.E = []) (h : d.W e w base ok1 v xs) (hok : ∀ k, v.ownBlock = some k → ok k) : d.W e w base ok v xs := W_mono (W_tight hE h) (fun k hk => hok k hk.symm)
theorem W_kept (h : d.W e w base ok v xs) (hk : Kept w W2 S) (hne : ∀ k, ok k → ¬ S k) : d.W e W2 base ok v xs := W_step h (fun k ho hlt => hk.2 k hlt (hne k ho))
theorem W_keptB (h : d.W e w base ok v xs) (hk : Kept w W2 S) (hne : ∀ k, ok k → ¬ S k) : d.W e W2 base (fun k => ok k ∧ (¬ S k ∧ k < w.heap.size)) v xs :=
  W_kept (W_mono (W_bound h) (fun k hk => ⟨hk.1, hne k hk.1, hk.2.2.1⟩)) hk (fun _ hk => hk.2.1)
theorem W_elder' (hu : d.W e w base ok u xs) (hbase : ∀ k, v.ownBlock = some k → w.heap.size ≤ k) (hb : Below w.heap.size w w1) : d.W e w1 base (fun k => ok k ∧ some k ≠ v.ownBlock) u xs :=
  W_mono (W_below (W_bound hu) hb) (fun k hk => ⟨hk.1, fun he => by have := hbase k he.symm; have := hk.2.2.1; omega⟩)
theorem W_new' (h : d.W e w1 w.heap.size ok v xs) (hlt : ∀ k, u.ownBlock = some k → k < w.heap.size) : d.W e w1 w.heap.size (fun k => ok k ∧ some k ≠ u.ownBlock) v xs :=
  W_mono (W_bound h) (fun k hk => ⟨hk.1, fun he => by have := hlt k he.symm; have := hk.2.1; omega⟩)
theorem W_at {m : Nat} (hq : w.drewN m = W') (h : d.W e w base ok v xs) : d.W e W' base ok v xs := by subst hq; exact W_drewN h m
theorem C_kept_ownW {A : Option Addr} {n c : Nat} (h : d.W e w base ok (.slice A n c) xs) (hok : ∀ k, ok k → ¬ S k) : ∀ W', Kept w W' S → d.C W' A n xs := fun W' hk => by
  have h2 := W_reads' (W_kept h hk hok)
  rw [h2.1]
  exact h2.2.2
theorem W_V {base' : Nat} (h : d.W e w base ok v xs) : V d e w base' ok v xs := by
  obtain ⟨_, A, n, c, c', rfl, hl, h⟩ := h
  have h4 := (R_reads' h).1
  subst h4
  obtain ⟨A1, c1, he, _, hf⟩ := R_V (base' := base') h
  injection he with h1 h2 h3
  subst h1
  exact ⟨A, c', rfl, hl, hf⟩

/-! #### more movers, each by the bound of its blocks -/
theorem W_move (h : d.W e w base ok v xs) (hm : ∀ k, ok k → w1.heap[k]? = w.heap[k]?) : d.W e w1 base ok v xs := W_step h (fun k hk _ => hm k hk)
theorem W_far (h : d.W e w base ok v xs) {p : Addr} (hok : ∀ k, ok k → k ≠ p.block) (u : Value) : d.W e (w.setCell p u) base ok v xs := W_step h (fun k ho _ => Below.heap_setCell w p u k (hok k ho))
theorem W_keep (h : d.W e w base ok v xs) {g : Nat} (hk : KeepBut w w1 g none) (hok : ∀ k, ok k → k ≠ g) : d.W e w1 base ok v xs := W_step h (fun k ho hlt => hk.2 k hlt (hok k ho) (by simp))
theorem cells_type {g t q : Nat} {c1 c2 : Array Value} (h1 : w.heap[g]? = some (.cells c1 q (0, 0))) (h2 : w.heap[g]? = some (.cells c2 t (0, 0))) : q = t := by
  rw [h1] at h2
  injection h2 with h2
  injection h2
theorem W_types (h : d.W e w base ok v xs) {g t : Nat} {cells : Array Value} (hb : w.heap[g]? = some (.cells cells t (0, 0))) (ht : ∀ q, q ∈ e :: d.E → q ≠ t) : d.W e w base (fun k => ok k ∧ k ≠ g) v xs :=
  W_mono (W_bound h) (fun k hk => ⟨hk.1, by
    obtain ⟨_, _, _, q, hq, cells', hc⟩ := hk
    rintro rfl
    exact ht q hq (cells_type hc hb)⟩)
theorem W_set (h : d.W e w base ok v xs) {g t : Nat} {cells : Array Value} (hb : w.heap[g]? = some (.cells cells t (0, 0))) (ht : ∀ q, q ∈ e :: d.E → q ≠ t) (j : Nat) (u : Value) : d.W e (w.setCell ⟨g, j, none⟩ u) base ok v xs :=
  W_mono (W_far (p := ⟨g, j, none⟩) (W_types h hb ht) (fun _ hk => hk.2) u) (fun _ hk => hk.1)
theorem W_away (h : d.W e w base ok v xs) {g : Nat} (hok : ∀ k, ok k → k ≠ g) : some g ≠ v.ownBlock := fun he => hok g (h.1 g he.symm) rfl
theorem W_typed (h : d.W e w base ok v xs) : ∀ k, v.ownBlock = some k → ∃ cells, w.heap[k]? = some (.cells cells e (0, 0)) := by
  obtain ⟨_, A, n, c, c', rfl, hl, h⟩ := h
  exact fun k hk => R_typed h k (clip_block.trans hk)
theorem W_ne (h : d.W e w base ok v xs) {g t : Nat} {cells : Array Value} (hb : w.heap[g]? = some (.cells cells t (0, 0))) (ht : e ≠ t) : some g ≠ v.ownBlock := by
  intro he
  obtain ⟨cells', hc⟩ := W_typed h g he.symm
  exact ht (cells_type hc hb)
theorem W_over' {e' : Nat} (h : d.W e w base ok u xs) (hty : ∀ k, v.ownBlock = some k → ∃ cells, w.heap[k]? = some (.cells cells e' (0, 0))) (ht : ∀ q, q ∈ e :: d.E → q ≠ e') (hg : w.grownBy w1 v.ownBlock) : d.W e w1 base ok u xs := by
  refine W_mono (W_move (W_bound h) (fun k hk => hg.block k hk.2.2.1 (fun he => ?_))) (fun _ hk => hk.1)
  obtain ⟨_, _, _, q, hq, cells, hc⟩ := hk
  obtain ⟨cells', hc'⟩ := hty k he.symm
  exact ht q hq (cells_type hc hc')
theorem W_apart' {e' : Nat} (h : d.W e w base ok u xs) (hty : ∀ k, v.ownBlock = some k → ∃ cells, w.heap[k]? = some (.cells cells e' (0, 0))) (ht : ∀ q, q ∈ e :: d.E → q ≠ e') : d.W e w base (fun k => ok k ∧ some k ≠ v.ownBlock) u xs := by
  refine W_mono (W_bound h) (fun k hk => ⟨hk.1, fun he => ?_⟩)
  obtain ⟨_, _, _, q, hq, cells, hc⟩ := hk
  obtain ⟨cells', hc'⟩ := hty k he.symm
  exact ht q hq (cells_type hc hc')
theorem W_after {v1 : Value} {ys : List α} {e' : Nat} (h : d.W e' w base (fun k => ok k ∧ some k ≠ v.ownBlock) u ys) (hg : w.grownBy w1 v.ownBlock) (hat : v1.ownBlock = v.ownBlock ∨ ∃ b, v1.ownBlock = some b ∧ w.heap.size ≤ b) : d.W e' w1 base (fun k => ok k ∧ some k ≠ v1.ownBlock) u ys := by
  refine W_mono (W_move (W_bound h) (fun k hk => hg.block k hk.2.2.1 hk.1.2)) (fun k hk => ⟨hk.1.1, ?_⟩)
  rcases hat with hat | ⟨b, hb, hle⟩
  · rw [hat]
    exact hk.1.2
  · rw [hb]
    intro he
    injection he with he
    have := hk.2.2.1
    omega
theorem W_elderB (h : d.W e w base ok v xs) (a : Nat) (ha : w.heap.size ≤ a) : d.W e w base (fun k => ok k ∧ k ≠ a) v xs := W_mono (W_bound h) (fun k hk => ⟨hk.1, by have := hk.2.2.1; omega⟩)
theorem W_newB {g : Nat} {o : Obj} (h : d.W e w1 w.heap.size ok v xs) (hb : w.heap[g]? = some o) : d.W e w1 w.heap.size (fun k => ok k ∧ k ≠ g) v xs := W_mono (W_bound h) (fun k hk => ⟨hk.1, by have := blk_lt hb; have := hk.2.1; omega⟩)
theorem W_ne_new (h : d.W e w base ok v xs) (k : Nat) : some (w.heap.size + k) ≠ v.ownBlock := fun he => by
  have := W_lt h _ he.symm
  omega
theorem W_base2 (h : d.W e w base ok v xs) : v.ownBlock = none ∨ ∃ k, v.ownBlock = some k ∧ base ≤ k := by
  cases hv : v.ownBlock with
  | none => exact .inl rfl
  | some k => exact .inr ⟨k, rfl, W_base h k hv⟩
theorem W_grown1 (h : d.W e w base ok v xs) (hE : d.E = []) {row : Option Nat} (hg : w.grownBy w1 row) (hne : row ≠ v.ownBlock) : d.W e w1 base ok v xs :=
  W_mono (W_grown (W_tight hE h) hg (fun _ hk e_ => hne (e_.symm.trans hk))) (fun k hk => h.1 k hk.symm)
theorem W_grown2 (h : d.W e w base ok v xs) (hE : d.E = []) {row : Option Nat} (hg : w.grownBy w1 row) (hne : ∀ k, row = some k → some k ≠ v.ownBlock) : d.W e w1 base ok v xs :=
  W_mono (W_grown (W_tight hE h) hg (fun k hk e_ => hne k e_.symm hk)) (fun k hk => h.1 k hk.symm)
theorem W_far1 (h : d.W e w base ok v xs) (hE : d.E = []) {g : Nat} (hne : some g ≠ v.ownBlock) : d.W e w base (fun k => ok k ∧ k ≠ g) v xs :=
  W_mono (W_tight hE h) (fun k hk => ⟨h.1 k hk.symm, fun e_ => hne (by rw [← e_]; exact hk)⟩)
theorem W_old (hu : d.W e w base ok u xs) (hb : Below w.heap.size w w1) : d.W e w1 base (fun k => ok k ∧ k < w.heap.size) u xs := W_mono (W_below (W_bound hu) hb) (fun _ h => ⟨h.1, h.2.2.1⟩)
theorem W_oldK {g : Nat} (hu : d.W e w base (fun k => ok k ∧ k ≠ g) u xs) (hk : KeepBut w w1 g none) : d.W e w1 base (fun k => ok k ∧ k < w.heap.size) u xs := W_mono (W_keep (W_bound hu) hk (fun _ h => h.1.2)) (fun _ h => ⟨h.1.1, h.2.2.1⟩)
theorem W_apart_nil (h : d.W e w base ok u xs) : d.W e w base (fun k => ok k ∧ some k ≠ (Value.slice none 0 0).ownBlock) u xs := W_mono h (fun k hk => ⟨hk, by simp [Value.ownBlock]⟩)
theorem W_told {N : Nat} (h : d.W e w1 base (fun k => ok k ∧ k < N) u xs) (hbase : ∀ k, v.ownBlock = some k → N ≤ k) : d.W e w1 base (fun k => (ok k ∧ some k ≠ v.ownBlock) ∧ k < N) u xs :=
  W_mono h (fun k hk => ⟨⟨hk.1, fun e => Nat.lt_irrefl _ (Nat.lt_of_lt_of_le hk.2 (hbase k e.symm))⟩, hk.2⟩)
theorem W_mine {w0 : World} (h : d.W e w1 w.heap.size ok v xs) (hle : w0.heap.size ≤ w.heap.size) : d.W e w1 w.heap.size (fun k => (S k ∨ w0.heap.size ≤ k) ∧ ok k) v xs := W_mono (W_bound h) (fun _ hk => ⟨.inr (Nat.le_trans hle hk.2.1), hk.1⟩)
theorem W_newM {w0 : World} {M : Nat → Prop} (h : d.W e w1 w.heap.size ok v xs) (hle : w0.heap.size ≤ w.heap.size) (hM : ∀ k, w0.heap.size ≤ k → M k) : d.W e w1 w.heap.size (fun k => M k ∧ ok k) v xs := W_mono (W_bound h) (fun k hk => ⟨hM k (Nat.le_trans hle hk.2.1), hk.1⟩)
theorem W_F {A : Option Addr} {n cc : Nat} (h : d.W e w base ok (.slice A n cc) xs) : F d w ok A n xs := fun W' hW => by
  have h2 := W_reads' (W_step h hW)
  rw [h2.1]
  exact h2.2.2

/-! #### the names that a text over R asks for, of W -/
theorem Wr_mono (h : d.W e w base ok v xs) (hok : ∀ k, ok k → ok' k) : d.W e w base ok' v xs := W_mono h hok
theorem Wr_alloc (h : d.W e w base ok v xs) (o : Obj) : d.W e (w.alloc o) base ok v xs := W_alloc h o
theorem Wr_drew (h : d.W e w base ok v xs) : d.W e w.drew base ok v xs := W_drew h
theorem Wr_drewN (h : d.W e w base ok v xs) (m : Nat) : d.W e (w.drewN m) base ok v xs := W_drewN h m
theorem Wr_slice (h : d.W e w base ok v xs) : ∃ A c, v = .slice A xs.length c := by
  obtain ⟨A, c, he, _⟩ := W_slice h
  exact ⟨A, c, he⟩
theorem Wr_reads' {A : Option Addr} {n c : Nat} (h : d.W e w base ok (.slice A n c) xs) : n = xs.length ∧ n ≤ c ∧ d.C w A xs.length xs := W_reads' h
theorem Wr_form (h : d.W e w base ok v xs) (hp : 0 < xs.length) : ∃ g cap, v = .slice (some ⟨g, 0, none⟩) xs.length cap ∧ base ≤ g ∧ g < w.heap.size ∧ ∃ cells, w.heap[g]? = some (.cells cells e (0, 0)) := by
  obtain ⟨_, A, n, c, c', rfl, hl, h⟩ := h
  obtain ⟨g, cap, he, h1, h2, h3⟩ := R_form h hp
  injection he with ha hb hc
  subst ha; subst hb
  exact ⟨g, c', rfl, h1, h2, h3⟩
theorem W_un {g n cap : Nat} (h : d.W e w base ok (.slice (some ⟨g, 0, none⟩) n cap) xs) : n ≤ cap ∧ ∃ c, d.R e w base ok (.slice (some ⟨g, 0, none⟩) n c) xs := by
  obtain ⟨_, A, n', c, c', he, hl, h⟩ := h
  injection he with h1 h2 h3
  subst h1; subst h2; subst h3
  exact ⟨hl, c, h⟩
theorem Wr_reads (h : d.W e w base ok v xs) : ∃ A c, v = .slice A xs.length c ∧ xs.length ≤ c ∧ d.C w A xs.length xs := W_reads h
theorem Wr_elem {g n cap : Nat} (h : d.W e w base ok (.slice (some ⟨g, 0, none⟩) n cap) xs) (z : α) (i : Int) (h0 : 0 ≤ i) (h1 : i < n) :
    ∃ c, c.length = d.sz ∧ d.M w base (fun k => ok k ∧ k ≠ g) (xs.getD i.toNat z) c ∧ (∀ j u, c[j]? = some u → w.cell? ⟨g, i.toNat * d.sz + j, none⟩ = some u) ∧ ∀ j, w.frozen? ⟨g, i.toNat * d.sz + j, none⟩ = false := by
  obtain ⟨hl, c1, h⟩ := W_un h
  exact R_elem h z i h0 h1
theorem Wr_ok (h : d.W e w base ok v xs) : ∀ k, v.ownBlock = some k → ok k := W_ok h
theorem Wr_seg {g n cap : Nat} {okp : Nat → Prop} (h : d.W e w base ok (.slice (some ⟨g, 0, none⟩) n cap) xs) (i : Int) (h0 : 0 ≤ i) (h1 : i < n) {c seg : List Value} {j : Nat} (hcl : c.length = d.sz) (hcc : ∀ j u, c[j]? = some u → w.cell? ⟨g, i.toNat * d.sz + j, none⟩ = some u)
    (hj : j + seg.length ≤ d.sz) {x' : α} (hM : d.M w base okp x' (c.take j ++ seg ++ c.drop (j + seg.length))) (hokp : ∀ k, okp k → ok k ∧ k ≠ g) :
    d.W e (w.setCells g (i.toNat * d.sz + j) seg) base ok (.slice (some ⟨g, 0, none⟩) n cap) (xs.set i.toNat x') ∧ w.grownBy (w.setCells g (i.toNat * d.sz + j) seg) (some g) := by
  obtain ⟨hl, c1, h⟩ := W_un h
  obtain ⟨h2, h3⟩ := R_seg h i h0 h1 hcl hcc hj hM hokp
  exact ⟨W_mk hl h2, h3⟩
end
section
variable {α : Type} {enc : α → Value} {h1 : ∀ x, (enc x).oneCell' = true} {e : Nat} {W' : World} {base : Nat} {ok : Nat → Prop} {g n cap : Nat} {xs : List α}
theorem Wr_celln (d : α) (h : (scalar enc h1).W e W' base ok (.slice (some ⟨g, 0, none⟩) n cap) xs) (i : Int) (h0 : 0 ≤ i) (hi : i < n) : W'.cell? ⟨g, i.toNat, none⟩ = some (enc (rdOf d xs i)) ∧ W'.frozen? ⟨g, i.toNat, none⟩ = false := by
  obtain ⟨hl, c, h⟩ := W_un h
  exact R_celln d h i h0 hi
theorem Wr_putg (h : (scalar enc h1).W e W' base ok (.slice (some ⟨g, 0, none⟩) n cap) xs) (i : Int) (x : α) : (scalar enc h1).W e (W'.setCell ⟨g, i.toNat, none⟩ (enc x)) base ok (.slice (some ⟨g, 0, none⟩) n cap) (xs.set i.toNat x) ∧ W'.grownBy (W'.setCell ⟨g, i.toNat, none⟩ (enc x)) (some g) := by
  obtain ⟨hl, c, h⟩ := W_un h
  obtain ⟨h2, h3⟩ := R_putg h i x
  exact ⟨W_mk hl h2, h3⟩
end
end Kd
end Go.Proofs.YthbbhdadioiefaaW.PrintWords
