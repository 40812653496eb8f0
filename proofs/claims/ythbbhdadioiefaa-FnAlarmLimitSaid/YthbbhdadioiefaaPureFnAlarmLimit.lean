/- For every code the law that alarms of limits end with the band answers true (no condition beyond the kinds and the reach of the argument). -/
import Derived.Test.YthbbhdadioiefaaQFnAlarmLimitx5
namespace Go.Proofs.Ythbbhdadioiefaa.Pure
open Go.RowKit Go.Proofs.Ythbbhdadioiefaa.QFnAlarmLimit Go.Proofs.YthbbhdadioiefaaW.PrintWords Go.Proofs.YthbbhdadioiefaaW.PrintLast Go.Proofs.YthbbhdadioiefaaW.PrintMore
set_option linter.unusedVariables false
set_option linter.unusedSimpArgs false

theorem c_ev_det {α : Type} {g : Nat → Option α} {r r' : α} (h : Ev g r) (h' : Ev g r') : r = r' := by
  obtain ⟨K, h⟩ := h
  obtain ⟨K', h'⟩ := h'
  have h1 := h (max K K') (by omega)
  have h2 := h' (max K K') (by omega)
  rw [h1] at h2
  exact Option.some.inj h2
theorem c_w64 {x : Int} (h0 : -9223372036854775808 ≤ x) (h1 : x ≤ 9223372036854775807) : wrap64 x = x := by
  unfold wrap64
  omega
theorem c_succ (i : Nat) (h : i < 9223372036854775807) : wrap64 ((i : Int) + 1) = ((i + 1 : Nat) : Int) := by
  unfold wrap64
  omega
theorem c_take_set {α : Type} (x acc : List α) (v : α) (i : Nat) (hv : x[i]? = some v) (hl : acc.length = x.length) (ht : acc.take i = x.take i) : (acc.set i v).take (i + 1) = x.take (i + 1) := by
  have hi : i < x.length := (List.getElem?_eq_some_iff.1 hv).1
  apply List.ext_getElem?
  intro j
  have hj := congrArg (fun l => l[j]?) ht
  simp only [List.getElem?_take] at hj
  rw [List.getElem?_take, List.getElem?_take]
  by_cases h1 : j < i + 1
  · rw [if_pos h1, if_pos h1]
    by_cases h2 : j < i
    · rw [if_pos h2, if_pos h2] at hj
      rw [List.getElem?_set_ne (by omega)]
      exact hj
    · have : j = i := by omega
      subst this
      rw [List.getElem?_set_self (by omega), hv]
  · rw [if_neg h1, if_neg h1]
theorem c_getD {α : Type} (x : List α) (d : α) (i : Nat) (h : i < x.length) : x[i]? = some (x.getD i d) := by
  rw [List.getD_eq_getElem?_getD, List.getElem?_eq_getElem h]
  rfl
theorem c_if_pos {α : Type} {c : Prop} [Decidable c] {g f : Nat → Option α} {r : α} (h : c) (k : Ev g r) : Ev (fun n => if c then g n else f n) r := Ev.congr (fun _ => if_pos h) k
theorem c_if_neg {α : Type} {c : Prop} [Decidable c] {g f : Nat → Option α} {r : α} (h : ¬ c) (k : Ev f r) : Ev (fun n => if c then g n else f n) r := Ev.congr (fun _ => if_neg h) k
theorem c_bind {α β : Type} {g : Nat → Option α} {f : Nat → α → Option β} (a : α) {r : β} (h : Ev g a) (k : Ev (fun n => f n a) r) : Ev (fun n => (g n).bind (f n)) r := Ev.bind h k
theorem c_bind1 {α β : Type} {g : Option α} {f : Nat → α → Option β} (a : α) {r : β} (h : g = some a) (k : Ev (fun n => f n a) r) : Ev (fun n => g.bind (f n)) r := Ev.congr (fun n => by rw [h]; rfl) k

theorem c_next {α : Type} {g : Nat → Option α} {r : α} (h : Ev (fun k => g (k + 1)) r) : Ev g r := Ev.step (fun _ => rfl) h

def bytes (l : List Int) : Prop := ∀ x ∈ l, 0 ≤ x ∧ x ≤ 255
theorem dr_xor (a b : Nat) (ha : a < 4611686018427387904) (hb : b < 4611686018427387904) : Go.bits .xor .i64 (a : Int) (b : Int) = ((a ^^^ b : Nat) : Int) := by
  have hx : a ^^^ b < 2 ^ 62 := Nat.xor_lt_two_pow (by omega) (by omega)
  have ha' : a % 2 ^ IntKind.i64.bits = a := Nat.mod_eq_of_lt (by show a < 2 ^ 64; omega)
  have hb' : b % 2 ^ IntKind.i64.bits = b := Nat.mod_eq_of_lt (by show b < 2 ^ 64; omega)
  simp only [Go.bits, BitVec.ofInt_natCast, BitVec.toNat_xor, BitVec.toNat_ofNat, ha', hb']
  rw [IntKind.wrap_i64]
  omega
theorem dr_rd (l : List Int) (hl : bytes l) (i : Int) : 0 ≤ rd l i ∧ rd l i ≤ 255 := by
  unfold rd
  rw [List.getD_eq_getElem?_getD]
  cases h : l[i.toNat]? with
  | none => exact ⟨by decide, by decide⟩
  | some v => exact hl v (List.mem_of_getElem? h)
theorem dr_tdiv (a b : Nat) : 0 ≤ Int.tdiv (a : Int) (b : Int) ∧ Int.tdiv (a : Int) (b : Int) ≤ a := by
  rw [Int.tdiv_eq_ediv_of_nonneg (by omega)]
  have h1 : ((a : Int) / (b : Int)) = ((a / b : Nat) : Int) := rfl
  rw [h1]
  have h2 := Nat.div_le_self a b
  generalize a / b = q at h2 ⊢
  omega
theorem dr_tmod (a b : Int) (ha : 0 ≤ a) (hb : 0 < b) : 0 ≤ Int.tmod a b ∧ Int.tmod a b < b := by
  rw [Int.tmod_eq_emod_of_nonneg ha]
  exact ⟨Int.emod_nonneg _ (by omega), Int.emod_lt_of_pos _ hb⟩
/-- A pick from the code: a number under the bound, and one place further. -/
theorem dr_pick (l : List Int) (hl : bytes l) (hn : l.length ≤ 2000) (p : Nat) (n : Int) (hp : p ≤ 1000000) (h1 : 1 ≤ n) (h2 : n ≤ 1000000) : ∃ v : Int, 0 ≤ v ∧ v < n ∧ Ev (fun k => spec_l20Rd_pick.f k l (p : Int) n) (v, ((p + 1 : Nat) : Int)) := by
  have e2 : wrap64 (((p + 1 : Nat) : Int) - 1) = (p : Int) := by
    rw [c_w64 (by omega) (by omega)]
    omega
  suffices h : ∃ v : Int, 0 ≤ v ∧ Ev (fun k => spec_l20Rd_pick.f k l (p : Int) n) (Int.tmod v n, ((p + 1 : Nat) : Int)) by
    obtain ⟨v, hv, he⟩ := h
    exact ⟨_, (dr_tmod v n hv (by omega)).1, (dr_tmod v n hv (by omega)).2, he⟩
  unfold spec_l20Rd_pick.f
  rw [c_succ p (by omega)]
  by_cases c0 : l.length = 0
  · refine ⟨0, Int.le_refl 0, c_if_neg (by omega) ?_⟩
    rw [show ((l.length : Int) == 0) = true from beq_iff_eq.2 (by omega)]
    refine c_next ?_
    simp only [spec_l20Rd_pick.j0, Int.zero_tmod]
    exact c_if_pos trivial (Ev.now _)
  rw [show ((l.length : Int) == 0) = false from beq_eq_false_iff_ne.2 (by omega)]
  by_cases c1 : (p : Int) < l.length
  · have hr := dr_rd l hl p
    refine ⟨rd l p, hr.1, c_if_neg (by omega) (c_next ?_)⟩
    simp only [spec_l20Rd_pick.j0]
    rw [e2, c_w64 (x := rd l p) (by omega) (by omega)]
    exact c_if_neg (by simp) (c_if_pos c1 (c_if_pos (by omega) (c_if_neg (by omega) (Ev.now _))))
  · have e3 : wrap64 (wrap64 ((p : Int) * 7) + 3) = (p : Int) * 7 + 3 := by
      rw [c_w64 (x := (p : Int) * 7) (by omega) (by omega), c_w64 (by omega) (by omega)]
    have m1 := dr_tmod p l.length (by omega) (by omega)
    have m2 := dr_tmod ((p : Int) * 7 + 3) l.length (by omega) (by omega)
    have r1 := dr_rd l hl (Int.tmod (p : Int) (l.length : Int))
    have r2 := dr_rd l hl (Int.tmod ((p : Int) * 7 + 3) (l.length : Int))
    have r3 := dr_tdiv p l.length
    obtain ⟨H, hH, hlt⟩ : ∃ H : Nat, (H : Int) = rd l (Int.tmod (p : Int) (l.length : Int)) * 131 + rd l (Int.tmod ((p : Int) * 7 + 3) (l.length : Int)) * 1117 + (p : Int) * 29 + Int.tdiv (p : Int) (l.length : Int) * 53 ∧ H < 1000000000 := by
      generalize rd l (Int.tmod (p : Int) (l.length : Int)) = A at r1 ⊢
      generalize rd l (Int.tmod ((p : Int) * 7 + 3) (l.length : Int)) = B at r2 ⊢
      generalize Int.tdiv (p : Int) (l.length : Int) = D at r3 ⊢
      exact ⟨(A * 131 + B * 1117 + (p : Int) * 29 + D * 53).toNat, by omega, by omega⟩
    have e4 : wrap64 (wrap64 (wrap64 (wrap64 (wrap64 (rd l (Int.tmod (p : Int) (l.length : Int))) * 131) + wrap64 (wrap64 (rd l (Int.tmod ((p : Int) * 7 + 3) (l.length : Int))) * 1117)) + wrap64 ((p : Int) * 29)) + wrap64 (wrap64 (Int.tdiv (p : Int) (l.length : Int)) * 53)) = (H : Int) := by
      rw [hH]
      generalize rd l (Int.tmod (p : Int) (l.length : Int)) = A at r1 ⊢
      generalize rd l (Int.tmod ((p : Int) * 7 + 3) (l.length : Int)) = B at r2 ⊢
      generalize Int.tdiv (p : Int) (l.length : Int) = D at r3 ⊢
      rw [c_w64 (x := A) (by omega) (by omega), c_w64 (x := B) (by omega) (by omega), c_w64 (x := D) (by omega) (by omega), c_w64 (x := A * 131) (by omega) (by omega), c_w64 (x := B * 1117) (by omega) (by omega), c_w64 (x := D * 53) (by omega) (by omega), c_w64 (x := (p : Int) * 29) (by omega) (by omega), c_w64 (x := A * 131 + B * 1117) (by omega) (by omega), c_w64 (x := A * 131 + B * 1117 + (p : Int) * 29) (by omega) (by omega), c_w64 (by omega) (by omega)]
    have e5 : wrap64 (Int.tdiv (H : Int) 64) = ((H / 64 : Nat) : Int) := by
      rw [show Int.tdiv (H : Int) 64 = ((H / 64 : Nat) : Int) from by rw [Int.tdiv_eq_ediv_of_nonneg (by omega)]; rfl]
      have := Nat.div_le_self H 64
      exact c_w64 (by omega) (by omega)
    have e6 := dr_xor H (H / 64) (by omega) (by have := Nat.div_le_self H 64; omega)
    refine ⟨((H ^^^ (H / 64) : Nat) : Int), by omega, c_if_neg (by omega) (c_next ?_)⟩
    simp only [spec_l20Rd_pick.j0]
    rw [e2, e3, e4, e5, e6]
    exact c_if_neg (by simp) (c_if_neg c1 (c_if_neg (by omega) (c_if_pos m1.1 (c_if_pos m1.2 (c_if_pos m2.1 (c_if_pos m2.2 (c_if_neg (by omega) (Ev.now _))))))))
theorem dr_open (l : List Int) (hl : bytes l) : ∃ m, bytes m ∧ m.length ≤ 2000 ∧ spec_l20Open.f l = some (m, 0) := by
  unfold spec_l20Open.f
  by_cases c : (l.length : Int) > 2000
  · exact ⟨l.take 2000, fun x hx => hl x (List.mem_of_mem_take hx), by rw [List.length_take]; omega, by rw [if_pos c, if_pos (by omega)]⟩
  · exact ⟨l, hl, by omega, if_neg c⟩
theorem dr_bytes (l : List Int) (h : ∀ x ∈ l, (Lit.int .u8 x).wf = true) : bytes l := by
  intro x hx
  have := h x hx
  simp only [Lit.wf, IntKind.min, IntKind.max, IntKind.signed, IntKind.bits, Bool.and_eq_true, decide_eq_true_eq] at this
  simp at this
  omega
theorem dr_odd (l : List Int) (hl : bytes l) (hn : l.length ≤ 2000) (p : Nat) (n : Int) (hp : p ≤ 1000000) (h1 : 1 ≤ n) (h2 : n ≤ 1000000) : ∃ b : Bool, Ev (fun k => spec_l20Rd_odd.f k l (p : Int) n) (b, ((p + 1 : Nat) : Int)) := by
  obtain ⟨v, _, _, hv⟩ := dr_pick l hl hn p n hp h1 h2
  unfold spec_l20Rd_odd.f
  exact ⟨_, c_if_pos (by omega) (c_bind _ hv (Ev.now _))⟩
theorem dr_odd0 (l : List Int) (p : Nat) : Ev (fun k => spec_l20Rd_odd.f k l (p : Int) 0) (false, (p : Int)) := by
  unfold spec_l20Rd_odd.f
  exact c_if_neg (by omega) (Ev.now _)
theorem dr_word1 (l : List Int) (hl : bytes l) (hn : l.length ≤ 2000) (p q : Nat) (n : Int) (b : Bool) (hp : p ≤ 1000) (hq : q ≤ 1001) (hpq : p ≤ q) (hqp : q ≤ p + 1) (hb : Ev (fun k => spec_l20Rd_odd.f k l (p : Int) n) (b, (q : Int))) : ∃ (v : Int) (r : Nat), p ≤ r ∧ r ≤ p + 6 ∧ Ev (fun k => spec_l20Word.f k l (p : Int) n) (v, (r : Int)) := by
  unfold spec_l20Word.f
  cases b with
  | true =>
    obtain ⟨v, v0, v1, hv⟩ := dr_pick l hl hn q 2 (by omega) (by omega) (by omega)
    exact ⟨_, q + 1, by omega, by omega, c_bind _ hb (c_if_pos rfl (c_bind1 _ rfl (c_bind _ hv (c_if_pos v0 (c_if_pos v1 (Ev.now _))))))⟩
  | false =>
    obtain ⟨a, a0, a1, ha⟩ := dr_pick l hl hn q 21 (by omega) (by omega) (by omega)
    obtain ⟨b, b0, b1, hb'⟩ := dr_pick l hl hn (q + 1) 256 (by omega) (by omega) (by omega)
    obtain ⟨c, c0, c1, hc⟩ := dr_pick l hl hn (q + 1 + 1) 256 (by omega) (by omega) (by omega)
    obtain ⟨d, d0, d1, hd⟩ := dr_pick l hl hn (q + 1 + 1 + 1) 400 (by omega) (by omega) (by omega)
    obtain ⟨e, e0, e1, he⟩ := dr_pick l hl hn (q + 1 + 1 + 1 + 1) 7 (by omega) (by omega) (by omega)
    have hx : 0 ≤ rd [0, 0, 1, 2, 3, 4, 4] e ∧ rd [0, 0, 1, 2, 3, 4, 4] e < 5 := by
      have : e = 0 ∨ e = 1 ∨ e = 2 ∨ e = 3 ∨ e = 4 ∨ e = 5 ∨ e = 6 := by omega
      rcases this with rfl | rfl | rfl | rfl | rfl | rfl | rfl <;> decide
    exact ⟨_, q + 1 + 1 + 1 + 1 + 1, by omega, by omega, c_bind _ hb (c_if_neg (by simp) (c_bind _ ha (c_bind _ hb' (c_bind _ hc (c_bind _ hd (c_bind1 _ rfl (c_bind1 _ rfl (c_bind _ he (c_if_pos e0 (c_if_pos e1 (c_if_pos hx.1 (c_if_pos hx.2 (Ev.now _)))))))))))))⟩
theorem dr_word (l : List Int) (hl : bytes l) (hn : l.length ≤ 2000) (p : Nat) (n : Int) (hp : p ≤ 1000) (h1 : 0 ≤ n) (h2 : n ≤ 1000000) : ∃ (v : Int) (r : Nat), p ≤ r ∧ r ≤ p + 6 ∧ Ev (fun k => spec_l20Word.f k l (p : Int) n) (v, (r : Int)) := by
  by_cases c : n = 0
  · subst c
    exact dr_word1 l hl hn p p 0 false hp (by omega) (by omega) (by omega) (dr_odd0 l p)
  · obtain ⟨b, hb⟩ := dr_odd l hl hn p n (by omega) (by omega) h2
    exact dr_word1 l hl hn p (p + 1) n b hp (by omega) (by omega) (by omega) hb
theorem al_words1 (l : List Int) (hl : bytes l) (hn : l.length ≤ 2000) (x : List Int) (hx : x.length ≤ 14) (b : Bool) (hb : b = true → 0 < x.length) (p : Nat) (hp : p ≤ 990) : ∃ (y : List Int) (q : Nat), y.length ≤ 14 ∧ q ≤ p + 8 ∧ Ev (fun k => spec_l20Words.j1 k x b l (p : Int)) (y, (q : Int)) := by
  cases b with
  | false =>
    refine ⟨x, p, by omega, by omega, c_next ?_⟩
    simp only [spec_l20Words.j1]
    exact c_if_neg (by simp) (Ev.now _)
  | true =>
    have h0 := hb rfl
    obtain ⟨a, a0, a1, ha⟩ := dr_pick l hl hn p (x.length : Int) (by omega) (by omega) (by omega)
    obtain ⟨w, q, q0, q1, hw⟩ := dr_word l hl hn (p + 1) 1 (by omega) (by omega) (by omega)
    refine ⟨x.set a.toNat w, q, by rw [List.length_set]; omega, by omega, c_next ?_⟩
    simp only [spec_l20Words.j1]
    exact c_if_pos trivial (c_bind _ ha (c_bind _ hw (c_if_pos a0 (c_if_pos a1 (Ev.now _)))))
theorem al_wordsl (l : List Int) (hl : bytes l) (hn : l.length ≤ 2000) : ∀ (d : Nat) (out : List Int) (p : Nat), out.length + d ≤ 14 → p + 6 * d ≤ 980 → ∃ (y : List Int) (q : Nat), y.length ≤ 14 ∧ q ≤ p + 6 * d + 9 ∧ Ev (fun k => spec_l20Words.l0 k 12 out (d : Int) l (p : Int)) (y, (q : Int))
  | 0, out, p, h3, h4 => by
    by_cases h : out.length = 0
    · obtain ⟨y, q, hy, hq, he⟩ := al_words1 l hl hn out (by omega) false (by simp) p (by omega)
      refine ⟨y, q, hy, by omega, c_next ?_⟩
      simp only [spec_l20Words.l0]
      exact c_if_neg (by omega) (c_if_neg (by omega) he)
    · obtain ⟨f, hf⟩ := dr_odd l hl hn p 12 (by omega) (by omega) (by omega)
      obtain ⟨y, q, hy, hq, he⟩ := al_words1 l hl hn out (by omega) f (fun _ => by omega) (p + 1) (by omega)
      refine ⟨y, q, hy, by omega, c_next ?_⟩
      simp only [spec_l20Words.l0]
      exact c_if_neg (by omega) (c_if_pos (by omega) (c_bind _ hf he))
  | d + 1, out, p, h3, h4 => by
    have ed : wrap64 (((d + 1 : Nat) : Int) - 1) = (d : Int) := by
      rw [c_w64 (by omega) (by omega)]
      omega
    obtain ⟨w, r, r0, r1, hw⟩ := dr_word l hl hn p 0 (by omega) (by omega) (by omega)
    obtain ⟨y, q, hy, hq, he⟩ := al_wordsl l hl hn d (out ++ [w]) r (by simp; omega) (by omega)
    refine ⟨y, q, hy, by omega, c_next ?_⟩
    simp only [spec_l20Words.l0]
    rw [ed]
    exact c_if_pos (by omega) (c_bind _ hw (c_if_pos (by omega) he))
theorem al_draw (l : List Int) (hl : bytes l) : ∃ (y : List Int) (t : Int), y.length ≤ 14 ∧ Ev (fun k => spec_DrawMovingAverage.f k l) (y, t) := by
  obtain ⟨m, hm, hn, ho⟩ := dr_open l hl
  obtain ⟨e, e0, e1, he⟩ := dr_pick m hm hn 0 15 (by omega) (by omega) (by omega)
  obtain ⟨E, rfl⟩ : ∃ E : Nat, e = (E : Int) := ⟨e.toNat, by omega⟩
  obtain ⟨y, q, hy, hq, ht⟩ := al_wordsl m hm hn E [] 1 (by simp; omega) (by omega)
  obtain ⟨f, f0, f1, hf⟩ := dr_pick m hm hn q 9 (by omega) (by omega) (by omega)
  have hx : 0 ≤ rd [0, 1, 2, 3, 1, 2, 3, 4, 5] f ∧ rd [0, 1, 2, 3, 1, 2, 3, 4, 5] f < 6 := by
    have : f = 0 ∨ f = 1 ∨ f = 2 ∨ f = 3 ∨ f = 4 ∨ f = 5 ∨ f = 6 ∨ f = 7 ∨ f = 8 := by omega
    rcases this with rfl | rfl | rfl | rfl | rfl | rfl | rfl | rfl | rfl <;> decide
  refine ⟨y, rd [1, 2, 3, 7, 0, 51] (rd [0, 1, 2, 3, 1, 2, 3, 4, 5] f), hy, ?_⟩
  unfold spec_DrawMovingAverage.f spec_l20Words.f
  refine c_bind1 _ ho (c_bind (y, (q : Int)) ?_ (c_bind1 _ rfl (c_bind1 _ rfl (c_bind _ hf (c_if_pos f0 (c_if_pos f1 (c_if_pos hx.1 (c_if_pos hx.2 (Ev.now _)))))))))
  rw [c_w64 (x := 14 + 1) (by omega) (by omega)]
  exact c_bind _ he ht
def oks (s : Int) : Prop := s = -1 ∨ s = 0 ∨ s = 1
theorem al_j1 (s v : Int) (b : Bool) : ∃ r, oks r ∧ Ev (fun k => impl_LimitState.j1 k s v (-5) 2 b) r := by
  cases b with
  | true =>
    refine ⟨1, Or.inr (Or.inr rfl), c_next ?_⟩
    simp only [impl_LimitState.j1]
    exact c_if_pos trivial (Ev.now _)
  | false =>
    by_cases c1 : v < -5
    · refine ⟨-1, Or.inl rfl, c_next ?_⟩
      simp only [impl_LimitState.j1]
      exact c_if_neg (by simp) (c_if_pos c1 (Ev.now _))
    · by_cases c2 : s = -1
      · by_cases c3 : v < wrap64 (-5 + 2)
        · refine ⟨-1, Or.inl rfl, c_next ?_⟩
          simp only [impl_LimitState.j1]
          exact c_if_neg (by simp) (c_if_neg c1 (c_if_pos c2 (c_if_pos c3 (Ev.now _))))
        · refine ⟨0, Or.inr (Or.inl rfl), c_next ?_⟩
          simp only [impl_LimitState.j1]
          exact c_if_neg (by simp) (c_if_neg c1 (c_if_pos c2 (c_if_neg c3 (Ev.now _))))
      · refine ⟨0, Or.inr (Or.inl rfl), c_next ?_⟩
        simp only [impl_LimitState.j1]
        exact c_if_neg (by simp) (c_if_neg c1 (c_if_neg c2 (Ev.now _)))
theorem al_limit (s v : Int) (hs : oks s) (hv : -32768 ≤ v ∧ v ≤ 32767) : ∃ r, oks r ∧ Ev (fun k => impl_LimitState.f k s v (-5) 5 2) r := by
  have hj : ∀ b, ∃ r, oks r ∧ Ev (fun k => impl_LimitState.j1 k s v (-5) 2 b) r := al_j1 s v
  have h0 : ∃ r, oks r ∧ Ev (fun k => impl_LimitState.j0 k s v (-5) 5 2 false) r := by
    by_cases c : v > 5
    · obtain ⟨r, hr, he⟩ := hj true
      refine ⟨r, hr, c_next ?_⟩
      simp only [impl_LimitState.j0]
      exact c_if_neg (by simp) (c_if_pos c he)
    · by_cases c1 : s = 1
      · obtain ⟨r, hr, he⟩ := hj (decide (v > (wrap64 (5 - 2))))
        refine ⟨r, hr, c_next ?_⟩
        simp only [impl_LimitState.j0]
        exact c_if_neg (by simp) (c_if_neg c (c_if_pos c1 he))
      · obtain ⟨r, hr, he⟩ := hj false
        refine ⟨r, hr, c_next ?_⟩
        simp only [impl_LimitState.j0]
        exact c_if_neg (by simp) (c_if_neg c (c_if_neg c1 he))
  obtain ⟨r, hr, he⟩ := h0
  refine ⟨r, hr, ?_⟩
  have ew : impl_areWords.f [v, -5, 5] = some true := by
    unfold impl_areWords.f
    simp
    omega
  have ei : impl_in.f s (-1) 1 = some true := by
    unfold impl_in.f
    rcases hs with rfl | rfl | rfl <;> rfl
  unfold impl_LimitState.f
  exact c_bind1 _ ew (c_if_pos rfl (c_if_neg (by omega) (c_bind1 true rfl (c_if_pos rfl (c_bind1 _ ei he)))))
theorem al_clip (a : Int) : ∃ v, (-32768 ≤ v ∧ v ≤ 32767) ∧ laws_clip.f a = some v := by
  refine ⟨_, ?_, rfl⟩
  unfold mx mn
  (repeat' split) <;> omega
/-- The alarm's state after i conditions, without acknowledgement. -/
def ast (x : List Bool) (i : Nat) : Int := if (x.take i).any id then (if x.getD (i - 1) false then 1 else 3) else 0
theorem ast_any (x : List Bool) (i : Nat) (h : i < x.length) : (x.take (i + 1)).any id = ((x.take i).any id || x.getD i false) := by
  rw [List.take_add_one, List.any_append, List.getD_eq_getElem?_getD]
  cases x[i]? <;> simp
theorem ast_step (x : List Bool) (i : Nat) (h : i < x.length) : ast x (i + 1) = if x.getD i false then 1 else if ast x i = 0 then 0 else 3 := by
  unfold ast
  rw [ast_any x i h, Nat.add_sub_cancel]
  cases (x.take i).any id <;> cases x.getD i false <;> simp
  split <;> omega
theorem ast_ok (x : List Bool) (i : Nat) : ast x i = 0 ∨ ast x i = 1 ∨ ast x i = 3 := by
  unfold ast
  (repeat' split) <;> simp
theorem ast_impl (s : Int) (hs : s = 0 ∨ s = 1 ∨ s = 3) (c : Bool) : Ev (fun k => impl_AlarmStep.f k s c false) (if c then 1 else if s = 0 then 0 else 3) := by
  refine ⟨5, fun k hk => ?_⟩
  obtain ⟨d, rfl⟩ : ∃ d, k = d + 5 := ⟨k - 5, by omega⟩
  rcases hs with rfl | rfl | rfl <;> cases c <;> rfl
theorem ast_spec (s : Int) (hs : s = 0 ∨ s = 1 ∨ s = 3) (c : Bool) : Ev (fun k => spec_AlarmStep.f k s c false) (if c then 1 else if s = 0 then 0 else 3) := by
  refine ⟨8, fun k hk => ?_⟩
  obtain ⟨d, rfl⟩ : ∃ d, k = d + 8 := ⟨k - 8, by omega⟩
  rcases hs with rfl | rfl | rfl <;> cases c <;> rfl
def atr (x : List Bool) : List Int := (List.range x.length).map fun i => ast x (i + 1)
theorem atr_len (x : List Bool) : (atr x).length = x.length := by simp [atr]
theorem atr_at (x : List Bool) (i : Nat) (h : i < x.length) : (atr x)[i]? = some (ast x (i + 1)) := by simp [atr, h]
theorem al_impl_l (x : List Bool) (hx : x.length ≤ 200) : ∀ (d i : Nat) (acc : List Int), i + d = x.length → acc.length = x.length → acc.take i = (atr x).take i → Ev (fun k => impl_AlarmTrace.l0 k [] acc (ast x i) x (x.length : Int) (i : Int)) (atr x)
  | 0, i, acc, h, hl, ht => by
    have e : acc = atr x := by
      rw [List.take_of_length_le (by omega), List.take_of_length_le (by rw [atr_len]; omega)] at ht
      exact ht
    subst e
    refine c_next ?_
    simp only [impl_AlarmTrace.l0]
    exact c_if_neg (by omega) (Ev.now _)
  | d + 1, i, acc, h, hl, ht => by
    have hs := ast_impl (ast x i) (ast_ok x i) (x.getD i false)
    rw [← ast_step x i (by omega)] at hs
    refine c_next ?_
    simp only [impl_AlarmTrace.l0]
    rw [c_succ i (by omega), Int.toNat_natCast]
    have er : rdOf false x (i : Int) = x.getD i false := by
      simp only [rdOf, Int.toNat_natCast]
    rw [er]
    exact c_if_pos (by omega) (c_if_pos (by omega) (c_if_pos (by omega) (c_if_neg (by simp) (c_bind _ hs (c_if_pos (by omega) (al_impl_l x hx d (i + 1) _ (by omega) (by rw [List.length_set]; exact hl) (c_take_set (atr x) acc _ i (atr_at x i (by omega)) (by rw [hl, atr_len]) ht)))))))
theorem al_impl (x : List Bool) (hx : x.length ≤ 200) : Ev (fun k => impl_AlarmTrace.f k x []) (atr x) := by
  unfold impl_AlarmTrace.f
  refine c_if_neg (by omega) (c_if_pos (by omega) (c_if_pos (by omega) ?_))
  exact al_impl_l x hx x.length 0 _ (by omega) (by simp) (by simp)
theorem al_spec_l (x : List Bool) (hx : x.length ≤ 200) : ∀ (d i : Nat), i + d = x.length → Ev (fun k => spec_AlarmTrace.l0 k x [] ((atr x).take i) (ast x i) (i : Int)) (atr x)
  | 0, i, h => by
    refine c_next ?_
    simp only [spec_AlarmTrace.l0]
    refine c_if_neg (by omega) ?_
    rw [List.take_of_length_le (by rw [atr_len]; omega)]
    exact Ev.now _
  | d + 1, i, h => by
    have hs := ast_spec (ast x i) (ast_ok x i) (x.getD i false)
    rw [← ast_step x i (by omega)] at hs
    have et : (atr x).take (i + 1) = (atr x).take i ++ [ast x (i + 1)] := by
      rw [List.take_add_one, atr_at x i (by omega)]
      rfl
    have er : rdOf false x (i : Int) = x.getD i false := by
      simp only [rdOf, Int.toNat_natCast]
    have hk := al_spec_l x hx d (i + 1) (by omega)
    rw [et] at hk
    refine c_next ?_
    simp only [spec_AlarmTrace.l0]
    rw [c_succ i (by omega), er]
    exact c_if_pos (by omega) (c_if_pos (by omega) (c_if_pos (by omega) (c_if_neg (by simp) (c_bind _ hs (c_if_pos (by rw [List.length_take, atr_len]; omega) hk)))))
theorem al_spec (x : List Bool) (hx : x.length ≤ 200) : Ev (fun k => spec_AlarmTrace.f k x []) (atr x) := al_spec_l x hx x.length 0 (by omega)
theorem al_same_l (x : List Int) (hn : x.length ≤ 1048576) : ∀ (d i : Nat), i + d = x.length → Ev (fun k => laws_sameInts.l0 k x x (i : Int)) true
  | 0, i, h => by
    refine c_next ?_
    simp only [laws_sameInts.l0]
    exact c_if_neg (by omega) (Ev.now true)
  | d + 1, i, h => by
    refine c_next ?_
    simp only [laws_sameInts.l0]
    rw [c_succ i (by omega)]
    exact c_if_pos (by omega) (c_if_pos (by omega) (c_if_pos (by omega) (c_if_pos trivial (al_same_l x hn d (i + 1) (by omega)))))
theorem al_same (x : List Int) (hn : x.length ≤ 1048576) : Ev (fun k => laws_sameInts.f k x x) true := by
  unfold laws_sameInts.f
  exact c_if_pos rfl (al_same_l x hn x.length 0 (by omega))
theorem al_loop (x : List Int) (hx : x.length ≤ 14) : ∀ (d i : Nat) (s : Int) (out : List Bool), i + d = x.length → out.length = i → oks s → Ev (fun k => laws_FnAlarmLimit.l0 k x s (out.any id) out (i : Int)) true
  | 0, i, s, out, h, ho, hs => by
    refine c_next ?_
    simp only [laws_FnAlarmLimit.l0]
    refine c_if_neg (by omega) (c_bind _ (al_impl out (by omega)) (c_bind _ (al_spec out (by omega)) (c_bind _ (al_same _ (by rw [atr_len]; omega)) (c_if_pos rfl ?_))))
    rw [atr_len]
    by_cases h0 : out.length = 0
    · exact c_if_pos (by omega) (Ev.now true)
    · have el : wrap64 ((out.length : Int) - 1) = ((out.length - 1 : Nat) : Int) := by
        rw [c_w64 (by omega) (by omega)]
        omega
      rw [el]
      refine c_if_neg (by omega) (c_if_pos (by omega) (c_if_pos (by omega) (Ev.congr (fun k => ?_) (Ev.now true))))
      have er : rd (atr out) ((out.length - 1 : Nat) : Int) = ast out out.length := by
        simp only [rd, Int.toNat_natCast]
        rw [List.getD_eq_getElem?_getD, atr_at out (out.length - 1) (by omega), show out.length - 1 + 1 = out.length from by omega]
        rfl
      rw [er]
      unfold ast
      rw [List.take_length]
      cases out.any id
      · rfl
      · simp only [if_true]
        split <;> rfl
  | d + 1, i, s, out, h, ho, hs => by
    obtain ⟨v, hv, ec⟩ := al_clip (rd x (i : Int))
    obtain ⟨r, hr, he⟩ := al_limit s v hs hv
    have hk := al_loop x hx d (i + 1) r (out ++ [r != 0]) (by omega) (by simp; omega) hr
    rw [List.any_append] at hk
    refine c_next ?_
    simp only [laws_FnAlarmLimit.l0]
    rw [c_succ i (by omega)]
    refine c_if_pos (by omega) (c_if_pos (by omega) (c_bind1 _ ec (c_bind _ he (c_if_pos (by omega) (c_bind1 _ rfl ?_)))))
    cases hb : out.any id
    · rw [hb] at hk
      refine c_if_neg (by simp) ?_
      simpa using hk
    · rw [hb] at hk
      refine c_if_pos rfl ?_
      simpa using hk
theorem FnAlarmLimit : ∀ (l0 : List Int), (l0.length ≤ maxLen ∧ ∀ y2 ∈ l0, (Lit.int .u8 y2).wf = true) → ∃ k, laws_FnAlarmLimit.f k l0 = some true := by
  intro x hx0
  have hx := hx0.1
  have hb := hx0.2
  refine Ev.rounds (r := true) ?_
  unfold laws_FnAlarmLimit.f
  by_cases cx : (x.length : Int) > 1048576
  · exact c_if_pos cx (Ev.now true)
  obtain ⟨l, t, hl, hd⟩ := al_draw x (dr_bytes x hb)
  exact c_if_neg cx (c_bind _ hd (al_loop l hl l.length 0 0 [] (by omega) rfl (Or.inr (Or.inl rfl))))

end Go.Proofs.Ythbbhdadioiefaa.Pure
