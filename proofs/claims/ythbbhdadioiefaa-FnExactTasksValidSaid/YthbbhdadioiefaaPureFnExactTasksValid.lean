/- For every list of tasks the law of TasksValid answers true (no condition beyond the kinds and the reach of the argument). -/
import Derived.Test.YthbbhdadioiefaaQFnExactTasksValidx4
namespace Go.Proofs.Ythbbhdadioiefaa.Pure
open Go.RowKit Go.Proofs.Ythbbhdadioiefaa.QFnExactTasksValid Go.Proofs.YthbbhdadioiefaaW.PrintWords Go.Proofs.YthbbhdadioiefaaW.PrintLast Go.Proofs.YthbbhdadioiefaaW.PrintMore
set_option linter.unusedVariables false
set_option linter.unusedSimpArgs false

theorem c_ev_det {α : Type} {g : Nat → Option α} {r r' : α} (h : Ev g r) (h' : Ev g r') : r = r' := by
  obtain ⟨K, h⟩ := h
  obtain ⟨K', h'⟩ := h'
  have h1 := h (max K K') (by omega)
  have h2 := h' (max K K') (by omega)
  rw [h1] at h2
  exact Option.some.inj h2
theorem c_w64 {x : Int} (h0 : -9223372036854775808 ≤ x) (h1 : x ≤ 9223372036854775807) : wrap64 x = x := by
  unfold wrap64
  omega
theorem c_succ (i : Nat) (h : i < 9223372036854775807) : wrap64 ((i : Int) + 1) = ((i + 1 : Nat) : Int) := by
  unfold wrap64
  omega
theorem c_take_set {α : Type} (x acc : List α) (v : α) (i : Nat) (hv : x[i]? = some v) (hl : acc.length = x.length) (ht : acc.take i = x.take i) : (acc.set i v).take (i + 1) = x.take (i + 1) := by
  have hi : i < x.length := (List.getElem?_eq_some_iff.1 hv).1
  apply List.ext_getElem?
  intro j
  have hj := congrArg (fun l => l[j]?) ht
  simp only [List.getElem?_take] at hj
  rw [List.getElem?_take, List.getElem?_take]
  by_cases h1 : j < i + 1
  · rw [if_pos h1, if_pos h1]
    by_cases h2 : j < i
    · rw [if_pos h2, if_pos h2] at hj
      rw [List.getElem?_set_ne (by omega)]
      exact hj
    · have : j = i := by omega
      subst this
      rw [List.getElem?_set_self (by omega), hv]
  · rw [if_neg h1, if_neg h1]
theorem c_getD {α : Type} (x : List α) (d : α) (i : Nat) (h : i < x.length) : x[i]? = some (x.getD i d) := by
  rw [List.getD_eq_getElem?_getD, List.getElem?_eq_getElem h]
  rfl
theorem c_if_pos {α : Type} {c : Prop} [Decidable c] {g f : Nat → Option α} {r : α} (h : c) (k : Ev g r) : Ev (fun n => if c then g n else f n) r := Ev.congr (fun _ => if_pos h) k
theorem c_if_neg {α : Type} {c : Prop} [Decidable c] {g f : Nat → Option α} {r : α} (h : ¬ c) (k : Ev f r) : Ev (fun n => if c then g n else f n) r := Ev.congr (fun _ => if_neg h) k
theorem c_bind {α β : Type} {g : Nat → Option α} {f : Nat → α → Option β} (a : α) {r : β} (h : Ev g a) (k : Ev (fun n => f n a) r) : Ev (fun n => (g n).bind (f n)) r := Ev.bind h k
theorem c_bind1 {α β : Type} {g : Option α} {f : Nat → α → Option β} (a : α) {r : β} (h : g = some a) (k : Ev (fun n => f n a) r) : Ev (fun n => g.bind (f n)) r := Ev.congr (fun n => by rw [h]; rfl) k

theorem c_next {α : Type} {g : Nat → Option α} {r : α} (h : Ev (fun k => g (k + 1)) r) : Ev g r := Ev.step (fun _ => rfl) h


def c_cvTask (p : S98) : S96 := ⟨p.f0, p.f1, p.f2⟩
theorem c_szTaskS (x : List S98) (n : Nat) (hx : x.length ≤ 9223372036854775807) (hn : n ≤ 1048576) : laws_szTaskS.f x (n : Int) = some (if (n : Int) - x.length < 0 then -1 else (n : Int) - x.length) := by
  unfold laws_szTaskS.f
  rw [c_w64 (x := (n : Int) - (x.length : Int)) (by omega) (by omega)]
  split <;> rfl
theorem c_toTaskS_l (x : List S98) (hn : x.length < 4611686018427387904) : ∀ (d : Nat) (acc : List S96) (i : Nat), acc.length = x.length → i + d = x.length → acc.take i = (x.map c_cvTask).take i → Ev (fun k => laws_toTaskS.l0 k x acc (i : Int)) (x.map c_cvTask)
  | 0, acc, i, hl, hi, ht => by
    have e : acc = x.map c_cvTask := by
      rw [List.take_of_length_le (by omega), List.take_of_length_le (by rw [List.length_map]; omega)] at ht
      exact ht
    subst e
    refine c_next ?_
    simp only [laws_toTaskS.l0]
    exact c_if_neg (by omega) (Ev.now _)
  | d + 1, acc, i, hl, hi, ht => by
    refine c_next ?_
    simp only [laws_toTaskS.l0, laws_toTask.f]
    rw [c_succ i (by omega), Int.toNat_natCast]
    refine c_if_pos (by omega) (c_if_pos (by omega) (c_bind1 _ rfl (c_if_pos (by omega) ?_)))
    refine c_toTaskS_l x hn d _ (i + 1) (by rw [List.length_set]; exact hl) (by omega) (c_take_set (x.map c_cvTask) acc _ i ?_ (by rw [hl, List.length_map]) ht)
    rw [List.getElem?_map, c_getD x z98 i (by omega)]
    simp only [Option.map_some, c_cvTask, rd_T98, Int.toNat_natCast]
theorem c_toTaskS_ev (x : List S98) (hn : x.length ≤ 1048576) : Ev (fun k => laws_toTaskS.f k x) (x.map c_cvTask) := by
  unfold laws_toTaskS.f
  refine c_if_pos (by omega) (c_if_pos (by omega) ?_)
  refine c_toTaskS_l x (by omega) x.length _ 0 (by simp) (by omega) (by simp)
theorem c_eqTask_same (p : S96) : laws_eqTask.f p.f0 p.f1 p.f2 p.f0 p.f1 p.f2 = some true := by simp [laws_eqTask.f]
theorem c_eqTaskS_l (x : List S96) (hn : x.length < 4611686018427387904) : ∀ (d : Nat) (i : Nat), i + d = x.length → Ev (fun k => laws_eqTaskS.l0 k x x (i : Int)) true
  | 0, i, hi => by
    refine c_next ?_
    simp only [laws_eqTaskS.l0]
    exact c_if_neg (by omega) (Ev.now true)
  | d + 1, i, hi => by
    refine c_next ?_
    simp only [laws_eqTaskS.l0]
    rw [c_succ i (by omega)]
    exact c_if_pos (by omega) (c_if_pos (by omega) (c_if_pos (by omega) (c_bind1 true (c_eqTask_same _) (c_if_pos rfl (c_eqTaskS_l x hn d (i + 1) (by omega))))))
theorem c_eqTaskS_ev (x : List S96) (hn : x.length < 4611686018427387904) : Ev (fun k => laws_eqTaskS.f k x x) true := by
  unfold laws_eqTaskS.f
  exact c_if_pos rfl (c_eqTaskS_l x hn x.length 0 (by omega))

abbrev tkf (x : List TVS) (i : Nat) : TVS := rd_T96 x (i : Int)
theorem tk_l1in (a b c : Int) : spec_l1In.f a b c = some (decide (b ≤ a ∧ a ≤ c)) := by
  unfold spec_l1In.f
  by_cases h : a ≥ b
  · rw [if_pos h]
    simp [h]
  · rw [if_neg h]
    simp [h]
theorem tk_rd (x : List TVS) (i : Nat) : x.getD i z96 = tkf x i := by
  simp only [tkf, rd_T96, Int.toNat_natCast]
theorem tk_seen (x : List TVS) (v : Int) : ∀ i, i ≤ x.length → ((tv_seen x i).contains v = true ↔ ∃ m, m < i ∧ (tkf x m).f2 = v)
  | 0, _ => by simp [tv_seen]
  | i + 1, h => by
    rw [tv_seen_succ x i (by omega), List.contains_cons, tk_rd, Bool.or_eq_true, tk_seen x v i (by omega)]
    constructor
    · rintro (e | ⟨m, hm, e⟩)
      · exact ⟨i, by omega, (beq_iff_eq.1 e).symm⟩
      · exact ⟨m, by omega, e⟩
    · rintro ⟨m, hm, e⟩
      by_cases c : m = i
      · subst c
        exact Or.inl (beq_iff_eq.2 e.symm)
      · exact Or.inr ⟨m, by omega, e⟩
theorem tk_ok (x : List TVS) (i : Nat) (hi : i < x.length) : tv_ok x i = true ↔ (1 ≤ (tkf x i).f0 ∧ (tkf x i).f0 ≤ 100) ∧ (1 ≤ (tkf x i).f1 ∧ (tkf x i).f1 ≤ (tkf x i).f0) ∧ (0 ≤ (tkf x i).f2 ∧ (tkf x i).f2 ≤ 9) ∧ ∀ m, m < i → (tkf x m).f2 ≠ (tkf x i).f2 := by
  rw [tv_okE x i (tkf x i) (tk_rd x i)]
  have hs := tk_seen x (tkf x i).f2 i (by omega)
  cases hc : (tv_seen x i).contains (tkf x i).f2
  · rw [hc] at hs
    have hn : ∀ m, m < i → (tkf x m).f2 ≠ (tkf x i).f2 := fun m hm e => by
      have := hs.2 ⟨m, hm, e⟩
      cases this
    simp only [Bool.and_eq_true, decide_eq_true_eq, Bool.not_false, and_true]
    constructor
    · rintro ⟨⟨a, b⟩, c⟩
      exact ⟨a, b, c, hn⟩
    · rintro ⟨a, b, c, _⟩
      exact ⟨⟨a, b⟩, c⟩
  · rw [hc] at hs
    obtain ⟨m, hm, e⟩ := hs.1 rfl
    simp only [Bool.not_true, Bool.and_false]
    constructor
    · intro h
      cases h
    · rintro ⟨_, _, _, h⟩
      exact absurd e (h m hm)
theorem tk_l1 (x : List TVS) (hx : x.length ≤ 1048576) (i : Nat) (hi : i < x.length) (r : Bool) (hr : Ev (fun k => spec_TasksValid.l0 k x ((i + 1 : Nat) : Int)) r) : ∀ d j, j + d = i → (∀ m, m < j → (tkf x m).f2 ≠ (tkf x i).f2) →
    ∃ b : Bool, (b = true → (∀ m, m < i → (tkf x m).f2 ≠ (tkf x i).f2) ∧ r = true) ∧ ((∀ m, m < i → (tkf x m).f2 ≠ (tkf x i).f2) → b = r) ∧ Ev (fun k => spec_TasksValid.l1 k x (i : Int) (j : Int)) b
  | 0, j, h, hj => by
    have e : j = i := by omega
    subst e
    refine ⟨r, fun h => ⟨hj, h⟩, fun _ => rfl, c_next ?_⟩
    simp only [spec_TasksValid.l1]
    rw [c_succ j (by omega)]
    exact c_if_neg (by omega) hr
  | d + 1, j, h, hj => by
    by_cases c : (tkf x j).f2 = (tkf x i).f2
    · refine ⟨false, fun h => (by cases h), fun hn => absurd c (hn j (by omega)), c_next ?_⟩
      simp only [spec_TasksValid.l1]
      exact c_if_pos (by omega) (c_if_pos (by omega) (c_if_pos (by omega) (c_if_pos (by omega) (c_if_pos (by omega) (c_if_pos c (Ev.now false))))))
    · obtain ⟨b, h1, h2, h3⟩ := tk_l1 x hx i hi r hr d (j + 1) (by omega) (fun m hm => by
        by_cases e : m = j
        · subst e
          exact c
        · exact hj m (by omega))
      refine ⟨b, h1, h2, c_next ?_⟩
      simp only [spec_TasksValid.l1]
      rw [c_succ j (by omega)]
      exact c_if_pos (by omega) (c_if_pos (by omega) (c_if_pos (by omega) (c_if_pos (by omega) (c_if_pos (by omega) (c_if_neg c h3)))))
theorem tk_l0 (x : List TVS) (hx : x.length ≤ 1048576) : ∀ d i, i + d = x.length → ∃ b : Bool, (b = true ↔ (∀ m, i ≤ m → m < x.length → tv_ok x m = true) ∧ x.length ≤ 6) ∧ Ev (fun k => spec_TasksValid.l0 k x (i : Int)) b
  | 0, i, h => by
    refine ⟨decide ((x.length : Int) ≤ 6), ?_, c_next ?_⟩
    · rw [decide_eq_true_eq]
      constructor
      · intro h'
        exact ⟨fun m h1 h2 => absurd h2 (by omega), by omega⟩
      · rintro ⟨_, h'⟩
        omega
    · simp only [spec_TasksValid.l0]
      exact c_if_neg (by omega) (Ev.now _)
  | d + 1, i, h => by
    obtain ⟨r, hr, he⟩ := tk_l0 x hx d (i + 1) (by omega)
    obtain ⟨b, h1, h2, h3⟩ := tk_l1 x hx i (by omega) r he i 0 (by omega) (fun m hm => absurd hm (by omega))
    have hok := tk_ok x i (by omega)
    have bad : ¬ ((1 ≤ (tkf x i).f0 ∧ (tkf x i).f0 ≤ 100) ∧ (1 ≤ (tkf x i).f1 ∧ (tkf x i).f1 ≤ (tkf x i).f0) ∧ (0 ≤ (tkf x i).f2 ∧ (tkf x i).f2 ≤ 9)) → (false = true ↔ (∀ m, i ≤ m → m < x.length → tv_ok x m = true) ∧ x.length ≤ 6) := by
      intro hb
      constructor
      · intro h
        cases h
      · rintro ⟨h', _⟩
        obtain ⟨a1, a2, a3, _⟩ := hok.1 (h' i (by omega) (by omega))
        exact absurd ⟨a1, a2, a3⟩ hb
    have no : Ev (fun k => spec_TasksValid.j1 k x (i : Int) true) false := c_next (by simp only [spec_TasksValid.j1]; exact c_if_pos trivial (Ev.now false))
    have go : ∀ r, Ev (fun k => (some (decide (1 ≤ (tkf x i).f0 ∧ (tkf x i).f0 ≤ 100))).bind fun t118 => (if t118 = true then ((some (decide (1 ≤ (tkf x i).f1 ∧ (tkf x i).f1 ≤ (tkf x i).f0))).bind fun t121 => (if t121 = true then ((some (decide (0 ≤ (tkf x i).f2 ∧ (tkf x i).f2 ≤ 9))).bind fun t123 => (spec_TasksValid.j1 k x (i : Int) (!t123))) else (spec_TasksValid.j1 k x (i : Int) true))) else (spec_TasksValid.j1 k x (i : Int) true))) r → Ev (fun k => spec_TasksValid.l0 k x (i : Int)) r := by
      intro r hr
      refine c_next ?_
      simp only [spec_TasksValid.l0, tk_l1in]
      exact c_if_pos (by omega) (c_if_pos (by omega) hr)
    by_cases g1 : 1 ≤ (tkf x i).f0 ∧ (tkf x i).f0 ≤ 100
    · by_cases g2 : 1 ≤ (tkf x i).f1 ∧ (tkf x i).f1 ≤ (tkf x i).f0
      · by_cases g3 : 0 ≤ (tkf x i).f2 ∧ (tkf x i).f2 ≤ 9
        · refine ⟨b, ?_, go b (c_bind1 true (congrArg some (decide_eq_true g1)) (c_if_pos rfl (c_bind1 true (congrArg some (decide_eq_true g2)) (c_if_pos rfl (c_bind1 true (congrArg some (decide_eq_true g3)) (c_next ?_))))))⟩
          · constructor
            · intro hb
              obtain ⟨a, c⟩ := h1 hb
              obtain ⟨c1, c2⟩ := hr.1 c
              refine ⟨fun m m1 m2 => ?_, c2⟩
              by_cases e : m = i
              · subst e
                exact hok.2 ⟨g1, g2, g3, a⟩
              · exact c1 m (by omega) m2
            · rintro ⟨a1, a2⟩
              have hi := (hok.1 (a1 i (by omega) (by omega))).2.2.2
              rw [h2 hi]
              exact hr.2 ⟨fun m m1 m2 => a1 m (by omega) m2, a2⟩
          · simp only [spec_TasksValid.j1]
            exact c_if_neg (by simp) h3
        · exact ⟨false, bad (fun h => g3 h.2.2), go false (c_bind1 true (congrArg some (decide_eq_true g1)) (c_if_pos rfl (c_bind1 true (congrArg some (decide_eq_true g2)) (c_if_pos rfl (c_bind1 false (congrArg some (decide_eq_false g3)) no)))))⟩
      · exact ⟨false, bad (fun h => g2 h.2.1), go false (c_bind1 true (congrArg some (decide_eq_true g1)) (c_if_pos rfl (c_bind1 false (congrArg some (decide_eq_false g2)) (c_if_neg (by simp) no))))⟩
    · exact ⟨false, bad (fun h => g1 h.1), go false (c_bind1 false (congrArg some (decide_eq_false g1)) (c_if_neg (by simp) no))⟩
theorem tk_valid (x : List TVS) (hx : x.length ≤ 1048576) : ∃ b : Bool, (b = true ↔ (∀ m, m < x.length → tv_ok x m = true) ∧ x.length ≤ 6) ∧ Ev (fun k => spec_TasksValid.f k x) b ∧ impl_TasksValid.f x = some b := by
  obtain ⟨b, hb, he⟩ := tk_l0 x hx x.length 0 (by omega)
  refine ⟨b, ⟨fun h => ⟨fun m hm => (hb.1 h).1 m (by omega) hm, (hb.1 h).2⟩, fun h => hb.2 ⟨fun m _ hm => h.1 m hm, h.2⟩⟩, he, congrArg some ?_⟩
  rw [Bool.eq_iff_iff, hb, Bool.and_eq_true, List.all_eq_true, decide_eq_true_eq]
  constructor
  · rintro ⟨h1, h2⟩
    exact ⟨fun m _ hm => h1 m (by simp [hm]), h2⟩
  · rintro ⟨h1, h2⟩
    exact ⟨fun m hm => h1 m (by omega) (by simpa using hm), h2⟩
theorem FnExactTasksValid : ∀ (l0 : List S98), (l0.length ≤ maxLen ∧ ∀ y2 ∈ l0, ((Lit.int .i64 y2.f0).wf = true) ∧ ((Lit.int .i64 y2.f1).wf = true) ∧ ((Lit.int .i64 y2.f2).wf = true)) → ∃ k, laws_FnExactTasksValid.f k l0 = some true := by
  intro x hx
  refine Ev.rounds (r := true) ?_
  unfold laws_FnExactTasksValid.f
  have hm := hx.1
  simp only [maxLen] at hm
  have hz := c_szTaskS x 1048576 (by omega) (by omega)
  by_cases cx : ((1048576 : Nat) : Int) - x.length < 0
  · rw [if_pos cx] at hz
    exact c_bind1 _ hz (c_if_pos (by omega) (Ev.now true))
  rw [if_neg cx] at hz
  obtain ⟨r, _, hs, hi⟩ := tk_valid (x.map c_cvTask) (by rw [List.length_map]; omega)
  refine c_bind1 _ (hz) ?_
  refine c_if_neg (by omega) ?_
  refine c_bind _ (c_toTaskS_ev x (by omega)) ?_
  refine c_bind _ (hs) ?_
  refine c_bind _ (c_toTaskS_ev x (by omega)) ?_
  refine c_bind1 _ (hi) ?_
  refine c_if_neg (by simp) ?_
  refine c_bind _ (c_toTaskS_ev x (by omega)) ?_
  refine c_bind _ (c_eqTaskS_ev (x.map c_cvTask) (by first | omega | (rw [List.length_map]; omega))) ?_
  refine c_if_pos rfl ?_
  exact Ev.now true

end Go.Proofs.Ythbbhdadioiefaa.Pure
