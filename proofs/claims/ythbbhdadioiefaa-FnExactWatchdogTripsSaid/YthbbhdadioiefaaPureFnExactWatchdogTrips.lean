/- For every list of tasks, length of time, task and limit the law of WatchdogTrips answers true (no condition beyond the kinds and the reach of the arguments). -/
import Derived.Test.YthbbhdadioiefaaQFnExactWatchdogTripsx5
namespace Go.Proofs.Ythbbhdadioiefaa.Pure
open Go.RowKit Go.Proofs.Ythbbhdadioiefaa.QFnExactWatchdogTrips Go.Proofs.YthbbhdadioiefaaW.PrintWords Go.Proofs.YthbbhdadioiefaaW.PrintLast Go.Proofs.YthbbhdadioiefaaW.PrintMore
set_option linter.unusedVariables false
set_option linter.unusedSimpArgs false

theorem c_ev_det {α : Type} {g : Nat → Option α} {r r' : α} (h : Ev g r) (h' : Ev g r') : r = r' := by
  obtain ⟨K, h⟩ := h
  obtain ⟨K', h'⟩ := h'
  have h1 := h (max K K') (by omega)
  have h2 := h' (max K K') (by omega)
  rw [h1] at h2
  exact Option.some.inj h2
theorem c_w64 {x : Int} (h0 : -9223372036854775808 ≤ x) (h1 : x ≤ 9223372036854775807) : wrap64 x = x := by
  unfold wrap64
  omega
theorem c_succ (i : Nat) (h : i < 9223372036854775807) : wrap64 ((i : Int) + 1) = ((i + 1 : Nat) : Int) := by
  unfold wrap64
  omega
theorem c_take_set {α : Type} (x acc : List α) (v : α) (i : Nat) (hv : x[i]? = some v) (hl : acc.length = x.length) (ht : acc.take i = x.take i) : (acc.set i v).take (i + 1) = x.take (i + 1) := by
  have hi : i < x.length := (List.getElem?_eq_some_iff.1 hv).1
  apply List.ext_getElem?
  intro j
  have hj := congrArg (fun l => l[j]?) ht
  simp only [List.getElem?_take] at hj
  rw [List.getElem?_take, List.getElem?_take]
  by_cases h1 : j < i + 1
  · rw [if_pos h1, if_pos h1]
    by_cases h2 : j < i
    · rw [if_pos h2, if_pos h2] at hj
      rw [List.getElem?_set_ne (by omega)]
      exact hj
    · have : j = i := by omega
      subst this
      rw [List.getElem?_set_self (by omega), hv]
  · rw [if_neg h1, if_neg h1]
theorem c_getD {α : Type} (x : List α) (d : α) (i : Nat) (h : i < x.length) : x[i]? = some (x.getD i d) := by
  rw [List.getD_eq_getElem?_getD, List.getElem?_eq_getElem h]
  rfl
theorem c_if_pos {α : Type} {c : Prop} [Decidable c] {g f : Nat → Option α} {r : α} (h : c) (k : Ev g r) : Ev (fun n => if c then g n else f n) r := Ev.congr (fun _ => if_pos h) k
theorem c_if_neg {α : Type} {c : Prop} [Decidable c] {g f : Nat → Option α} {r : α} (h : ¬ c) (k : Ev f r) : Ev (fun n => if c then g n else f n) r := Ev.congr (fun _ => if_neg h) k
theorem c_bind {α β : Type} {g : Nat → Option α} {f : Nat → α → Option β} (a : α) {r : β} (h : Ev g a) (k : Ev (fun n => f n a) r) : Ev (fun n => (g n).bind (f n)) r := Ev.bind h k
theorem c_bind1 {α β : Type} {g : Option α} {f : Nat → α → Option β} (a : α) {r : β} (h : g = some a) (k : Ev (fun n => f n a) r) : Ev (fun n => g.bind (f n)) r := Ev.congr (fun n => by rw [h]; rfl) k

theorem c_next {α : Type} {g : Nat → Option α} {r : α} (h : Ev (fun k => g (k + 1)) r) : Ev g r := Ev.step (fun _ => rfl) h


def c_cvTask (p : S98) : S96 := ⟨p.f0, p.f1, p.f2⟩
theorem c_szTaskS (x : List S98) (n : Nat) (hx : x.length ≤ 9223372036854775807) (hn : n ≤ 1048576) : laws_szTaskS.f x (n : Int) = some (if (n : Int) - x.length < 0 then -1 else (n : Int) - x.length) := by
  unfold laws_szTaskS.f
  rw [c_w64 (x := (n : Int) - (x.length : Int)) (by omega) (by omega)]
  split <;> rfl
theorem c_toTaskS_l (x : List S98) (hn : x.length < 4611686018427387904) : ∀ (d : Nat) (acc : List S96) (i : Nat), acc.length = x.length → i + d = x.length → acc.take i = (x.map c_cvTask).take i → Ev (fun k => laws_toTaskS.l0 k x acc (i : Int)) (x.map c_cvTask)
  | 0, acc, i, hl, hi, ht => by
    have e : acc = x.map c_cvTask := by
      rw [List.take_of_length_le (by omega), List.take_of_length_le (by rw [List.length_map]; omega)] at ht
      exact ht
    subst e
    refine c_next ?_
    simp only [laws_toTaskS.l0]
    exact c_if_neg (by omega) (Ev.now _)
  | d + 1, acc, i, hl, hi, ht => by
    refine c_next ?_
    simp only [laws_toTaskS.l0, laws_toTask.f]
    rw [c_succ i (by omega), Int.toNat_natCast]
    refine c_if_pos (by omega) (c_if_pos (by omega) (c_bind1 _ rfl (c_if_pos (by omega) ?_)))
    refine c_toTaskS_l x hn d _ (i + 1) (by rw [List.length_set]; exact hl) (by omega) (c_take_set (x.map c_cvTask) acc _ i ?_ (by rw [hl, List.length_map]) ht)
    rw [List.getElem?_map, c_getD x z98 i (by omega)]
    simp only [Option.map_some, c_cvTask, rd_T98, Int.toNat_natCast]
theorem c_toTaskS_ev (x : List S98) (hn : x.length ≤ 1048576) : Ev (fun k => laws_toTaskS.f k x) (x.map c_cvTask) := by
  unfold laws_toTaskS.f
  refine c_if_pos (by omega) (c_if_pos (by omega) ?_)
  refine c_toTaskS_l x (by omega) x.length _ 0 (by simp) (by omega) (by simp)
theorem c_eqTask_same (p : S96) : laws_eqTask.f p.f0 p.f1 p.f2 p.f0 p.f1 p.f2 = some true := by simp [laws_eqTask.f]
theorem c_eqTaskS_l (x : List S96) (hn : x.length < 4611686018427387904) : ∀ (d : Nat) (i : Nat), i + d = x.length → Ev (fun k => laws_eqTaskS.l0 k x x (i : Int)) true
  | 0, i, hi => by
    refine c_next ?_
    simp only [laws_eqTaskS.l0]
    exact c_if_neg (by omega) (Ev.now true)
  | d + 1, i, hi => by
    refine c_next ?_
    simp only [laws_eqTaskS.l0]
    rw [c_succ i (by omega)]
    exact c_if_pos (by omega) (c_if_pos (by omega) (c_if_pos (by omega) (c_bind1 true (c_eqTask_same _) (c_if_pos rfl (c_eqTaskS_l x hn d (i + 1) (by omega))))))
theorem c_eqTaskS_ev (x : List S96) (hn : x.length < 4611686018427387904) : Ev (fun k => laws_eqTaskS.f k x x) true := by
  unfold laws_eqTaskS.f
  exact c_if_pos rfl (c_eqTaskS_l x hn x.length 0 (by omega))

/-- Both come to one answer, which has P. -/
def Both {α : Type} (P : α → Prop) (g h : Nat → Option α) : Prop := ∃ r, P r ∧ Ev g r ∧ Ev h r
theorem b_now {α : Type} {P : α → Prop} (a : α) (h : P a) : Both P (fun _ => some a) (fun _ => some a) := ⟨a, h, Ev.now a, Ev.now a⟩
theorem b_nextL {α : Type} {P : α → Prop} {g h : Nat → Option α} (k : Both P (fun n => g (n + 1)) h) : Both P g h := by
  obtain ⟨r, hp, h1, h2⟩ := k
  exact ⟨r, hp, c_next h1, h2⟩
theorem b_nextR {α : Type} {P : α → Prop} {g h : Nat → Option α} (k : Both P g (fun n => h (n + 1))) : Both P g h := by
  obtain ⟨r, hp, h1, h2⟩ := k
  exact ⟨r, hp, h1, c_next h2⟩
theorem b_next {α : Type} {P : α → Prop} {g h : Nat → Option α} (k : Both P (fun n => g (n + 1)) (fun n => h (n + 1))) : Both P g h := b_nextL (b_nextR k)
theorem b_posL {α : Type} {P : α → Prop} {c : Prop} [Decidable c] {g f h : Nat → Option α} (hc : c) (k : Both P g h) : Both P (fun n => if c then g n else f n) h := by
  obtain ⟨r, hp, h1, h2⟩ := k
  exact ⟨r, hp, c_if_pos hc h1, h2⟩
theorem b_negL {α : Type} {P : α → Prop} {c : Prop} [Decidable c] {g f h : Nat → Option α} (hc : ¬ c) (k : Both P f h) : Both P (fun n => if c then g n else f n) h := by
  obtain ⟨r, hp, h1, h2⟩ := k
  exact ⟨r, hp, c_if_neg hc h1, h2⟩
theorem b_posR {α : Type} {P : α → Prop} {c : Prop} [Decidable c] {g f h : Nat → Option α} (hc : c) (k : Both P h g) : Both P h (fun n => if c then g n else f n) := by
  obtain ⟨r, hp, h1, h2⟩ := k
  exact ⟨r, hp, h1, c_if_pos hc h2⟩
theorem b_negR {α : Type} {P : α → Prop} {c : Prop} [Decidable c] {g f h : Nat → Option α} (hc : ¬ c) (k : Both P h f) : Both P h (fun n => if c then g n else f n) := by
  obtain ⟨r, hp, h1, h2⟩ := k
  exact ⟨r, hp, h1, c_if_neg hc h2⟩
theorem b_if {α : Type} {P : α → Prop} {c : Prop} [Decidable c] {g f g' f' : Nat → Option α} (hp : c → Both P g g') (hn : ¬ c → Both P f f') : Both P (fun n => if c then g n else f n) (fun n => if c then g' n else f' n) := by
  by_cases hc : c
  · exact b_posL hc (b_posR hc (hp hc))
  · exact b_negL hc (b_negR hc (hn hc))
theorem b_iff {α : Type} {P : α → Prop} {c d : Prop} [Decidable c] [Decidable d] {g f g' f' : Nat → Option α} (e : c ↔ d) (hp : c → Both P g g') (hn : ¬ c → Both P f f') : Both P (fun n => if c then g n else f n) (fun n => if d then g' n else f' n) := by
  by_cases hc : c
  · exact b_posL hc (b_posR (e.1 hc) (hp hc))
  · exact b_negL hc (b_negR (fun h => hc (e.2 h)) (hn hc))
theorem b_bind {α β : Type} {Q : α → Prop} {P : β → Prop} {g h : Nat → Option α} {f f' : Nat → α → Option β} (k : Both Q g h) (l : ∀ a, Q a → Both P (fun n => f n a) (fun n => f' n a)) : Both P (fun n => (g n).bind (f n)) (fun n => (h n).bind (f' n)) := by
  obtain ⟨a, ha, h1, h2⟩ := k
  obtain ⟨r, hp, h3, h4⟩ := l a ha
  exact ⟨r, hp, c_bind a h1 h3, c_bind a h2 h4⟩
theorem b_bindL {α β : Type} {P : β → Prop} {g : Nat → Option α} {f : Nat → α → Option β} {h : Nat → Option β} (a : α) (e : Ev g a) (k : Both P (fun n => f n a) h) : Both P (fun n => (g n).bind (f n)) h := by
  obtain ⟨r, hp, h1, h2⟩ := k
  exact ⟨r, hp, c_bind a e h1, h2⟩
theorem b_bindR {α β : Type} {P : β → Prop} {g : Nat → Option α} {f : Nat → α → Option β} {h : Nat → Option β} (a : α) (e : Ev g a) (k : Both P h (fun n => f n a)) : Both P h (fun n => (g n).bind (f n)) := by
  obtain ⟨r, hp, h1, h2⟩ := k
  exact ⟨r, hp, h1, c_bind a e h2⟩
theorem b_bindL1 {α β : Type} {P : β → Prop} {g : Option α} {f : Nat → α → Option β} {h : Nat → Option β} (a : α) (e : g = some a) (k : Both P (fun n => f n a) h) : Both P (fun n => g.bind (f n)) h := by
  obtain ⟨r, hp, h1, h2⟩ := k
  exact ⟨r, hp, c_bind1 a e h1, h2⟩
theorem b_bindR1 {α β : Type} {P : β → Prop} {g : Option α} {f : Nat → α → Option β} {h : Nat → Option β} (a : α) (e : g = some a) (k : Both P h (fun n => f n a)) : Both P h (fun n => g.bind (f n)) := by
  obtain ⟨r, hp, h1, h2⟩ := k
  exact ⟨r, hp, h1, c_bind1 a e h2⟩
theorem b_mono {α : Type} {P Q : α → Prop} {g h : Nat → Option α} (k : Both P g h) (i : ∀ a, P a → Q a) : Both Q g h := by
  obtain ⟨r, hp, h1, h2⟩ := k
  exact ⟨r, i r hp, h1, h2⟩
abbrev tkf (x : List TVS) (i : Nat) : TVS := rd_T96 x (i : Int)
theorem tk_l1in (a b c : Int) : spec_l1In.f a b c = some (decide (b ≤ a ∧ a ≤ c)) := by
  unfold spec_l1In.f
  by_cases h : a ≥ b
  · rw [if_pos h]
    simp [h]
  · rw [if_neg h]
    simp [h]
theorem tk_rd (x : List TVS) (i : Nat) : x.getD i z96 = tkf x i := by
  simp only [tkf, rd_T96, Int.toNat_natCast]
theorem tk_seen (x : List TVS) (v : Int) : ∀ i, i ≤ x.length → ((tv_seen x i).contains v = true ↔ ∃ m, m < i ∧ (tkf x m).f2 = v)
  | 0, _ => by simp [tv_seen]
  | i + 1, h => by
    rw [tv_seen_succ x i (by omega), List.contains_cons, tk_rd, Bool.or_eq_true, tk_seen x v i (by omega)]
    constructor
    · rintro (e | ⟨m, hm, e⟩)
      · exact ⟨i, by omega, (beq_iff_eq.1 e).symm⟩
      · exact ⟨m, by omega, e⟩
    · rintro ⟨m, hm, e⟩
      by_cases c : m = i
      · subst c
        exact Or.inl (beq_iff_eq.2 e.symm)
      · exact Or.inr ⟨m, by omega, e⟩
theorem tk_ok (x : List TVS) (i : Nat) (hi : i < x.length) : tv_ok x i = true ↔ (1 ≤ (tkf x i).f0 ∧ (tkf x i).f0 ≤ 100) ∧ (1 ≤ (tkf x i).f1 ∧ (tkf x i).f1 ≤ (tkf x i).f0) ∧ (0 ≤ (tkf x i).f2 ∧ (tkf x i).f2 ≤ 9) ∧ ∀ m, m < i → (tkf x m).f2 ≠ (tkf x i).f2 := by
  rw [tv_okE x i (tkf x i) (tk_rd x i)]
  have hs := tk_seen x (tkf x i).f2 i (by omega)
  cases hc : (tv_seen x i).contains (tkf x i).f2
  · rw [hc] at hs
    have hn : ∀ m, m < i → (tkf x m).f2 ≠ (tkf x i).f2 := fun m hm e => by
      have := hs.2 ⟨m, hm, e⟩
      cases this
    simp only [Bool.and_eq_true, decide_eq_true_eq, Bool.not_false, and_true]
    constructor
    · rintro ⟨⟨a, b⟩, c⟩
      exact ⟨a, b, c, hn⟩
    · rintro ⟨a, b, c, _⟩
      exact ⟨⟨a, b⟩, c⟩
  · rw [hc] at hs
    obtain ⟨m, hm, e⟩ := hs.1 rfl
    simp only [Bool.not_true, Bool.and_false]
    constructor
    · intro h
      cases h
    · rintro ⟨_, _, _, h⟩
      exact absurd e (h m hm)
theorem tk_l1 (x : List TVS) (hx : x.length ≤ 1048576) (i : Nat) (hi : i < x.length) (r : Bool) (hr : Ev (fun k => spec_TasksValid.l0 k x ((i + 1 : Nat) : Int)) r) : ∀ d j, j + d = i → (∀ m, m < j → (tkf x m).f2 ≠ (tkf x i).f2) →
    ∃ b : Bool, (b = true → (∀ m, m < i → (tkf x m).f2 ≠ (tkf x i).f2) ∧ r = true) ∧ ((∀ m, m < i → (tkf x m).f2 ≠ (tkf x i).f2) → b = r) ∧ Ev (fun k => spec_TasksValid.l1 k x (i : Int) (j : Int)) b
  | 0, j, h, hj => by
    have e : j = i := by omega
    subst e
    refine ⟨r, fun h => ⟨hj, h⟩, fun _ => rfl, c_next ?_⟩
    simp only [spec_TasksValid.l1]
    rw [c_succ j (by omega)]
    exact c_if_neg (by omega) hr
  | d + 1, j, h, hj => by
    by_cases c : (tkf x j).f2 = (tkf x i).f2
    · refine ⟨false, fun h => (by cases h), fun hn => absurd c (hn j (by omega)), c_next ?_⟩
      simp only [spec_TasksValid.l1]
      exact c_if_pos (by omega) (c_if_pos (by omega) (c_if_pos (by omega) (c_if_pos (by omega) (c_if_pos (by omega) (c_if_pos c (Ev.now false))))))
    · obtain ⟨b, h1, h2, h3⟩ := tk_l1 x hx i hi r hr d (j + 1) (by omega) (fun m hm => by
        by_cases e : m = j
        · subst e
          exact c
        · exact hj m (by omega))
      refine ⟨b, h1, h2, c_next ?_⟩
      simp only [spec_TasksValid.l1]
      rw [c_succ j (by omega)]
      exact c_if_pos (by omega) (c_if_pos (by omega) (c_if_pos (by omega) (c_if_pos (by omega) (c_if_pos (by omega) (c_if_neg c h3)))))
theorem tk_l0 (x : List TVS) (hx : x.length ≤ 1048576) : ∀ d i, i + d = x.length → ∃ b : Bool, (b = true ↔ (∀ m, i ≤ m → m < x.length → tv_ok x m = true) ∧ x.length ≤ 6) ∧ Ev (fun k => spec_TasksValid.l0 k x (i : Int)) b
  | 0, i, h => by
    refine ⟨decide ((x.length : Int) ≤ 6), ?_, c_next ?_⟩
    · rw [decide_eq_true_eq]
      constructor
      · intro h'
        exact ⟨fun m h1 h2 => absurd h2 (by omega), by omega⟩
      · rintro ⟨_, h'⟩
        omega
    · simp only [spec_TasksValid.l0]
      exact c_if_neg (by omega) (Ev.now _)
  | d + 1, i, h => by
    obtain ⟨r, hr, he⟩ := tk_l0 x hx d (i + 1) (by omega)
    obtain ⟨b, h1, h2, h3⟩ := tk_l1 x hx i (by omega) r he i 0 (by omega) (fun m hm => absurd hm (by omega))
    have hok := tk_ok x i (by omega)
    have bad : ¬ ((1 ≤ (tkf x i).f0 ∧ (tkf x i).f0 ≤ 100) ∧ (1 ≤ (tkf x i).f1 ∧ (tkf x i).f1 ≤ (tkf x i).f0) ∧ (0 ≤ (tkf x i).f2 ∧ (tkf x i).f2 ≤ 9)) → (false = true ↔ (∀ m, i ≤ m → m < x.length → tv_ok x m = true) ∧ x.length ≤ 6) := by
      intro hb
      constructor
      · intro h
        cases h
      · rintro ⟨h', _⟩
        obtain ⟨a1, a2, a3, _⟩ := hok.1 (h' i (by omega) (by omega))
        exact absurd ⟨a1, a2, a3⟩ hb
    have no : Ev (fun k => spec_TasksValid.j1 k x (i : Int) true) false := c_next (by simp only [spec_TasksValid.j1]; exact c_if_pos trivial (Ev.now false))
    have go : ∀ r, Ev (fun k => (some (decide (1 ≤ (tkf x i).f0 ∧ (tkf x i).f0 ≤ 100))).bind fun t118 => (if t118 = true then ((some (decide (1 ≤ (tkf x i).f1 ∧ (tkf x i).f1 ≤ (tkf x i).f0))).bind fun t121 => (if t121 = true then ((some (decide (0 ≤ (tkf x i).f2 ∧ (tkf x i).f2 ≤ 9))).bind fun t123 => (spec_TasksValid.j1 k x (i : Int) (!t123))) else (spec_TasksValid.j1 k x (i : Int) true))) else (spec_TasksValid.j1 k x (i : Int) true))) r → Ev (fun k => spec_TasksValid.l0 k x (i : Int)) r := by
      intro r hr
      refine c_next ?_
      simp only [spec_TasksValid.l0, tk_l1in]
      exact c_if_pos (by omega) (c_if_pos (by omega) hr)
    by_cases g1 : 1 ≤ (tkf x i).f0 ∧ (tkf x i).f0 ≤ 100
    · by_cases g2 : 1 ≤ (tkf x i).f1 ∧ (tkf x i).f1 ≤ (tkf x i).f0
      · by_cases g3 : 0 ≤ (tkf x i).f2 ∧ (tkf x i).f2 ≤ 9
        · refine ⟨b, ?_, go b (c_bind1 true (congrArg some (decide_eq_true g1)) (c_if_pos rfl (c_bind1 true (congrArg some (decide_eq_true g2)) (c_if_pos rfl (c_bind1 true (congrArg some (decide_eq_true g3)) (c_next ?_))))))⟩
          · constructor
            · intro hb
              obtain ⟨a, c⟩ := h1 hb
              obtain ⟨c1, c2⟩ := hr.1 c
              refine ⟨fun m m1 m2 => ?_, c2⟩
              by_cases e : m = i
              · subst e
                exact hok.2 ⟨g1, g2, g3, a⟩
              · exact c1 m (by omega) m2
            · rintro ⟨a1, a2⟩
              have hi := (hok.1 (a1 i (by omega) (by omega))).2.2.2
              rw [h2 hi]
              exact hr.2 ⟨fun m m1 m2 => a1 m (by omega) m2, a2⟩
          · simp only [spec_TasksValid.j1]
            exact c_if_neg (by simp) h3
        · exact ⟨false, bad (fun h => g3 h.2.2), go false (c_bind1 true (congrArg some (decide_eq_true g1)) (c_if_pos rfl (c_bind1 true (congrArg some (decide_eq_true g2)) (c_if_pos rfl (c_bind1 false (congrArg some (decide_eq_false g3)) no)))))⟩
      · exact ⟨false, bad (fun h => g2 h.2.1), go false (c_bind1 true (congrArg some (decide_eq_true g1)) (c_if_pos rfl (c_bind1 false (congrArg some (decide_eq_false g2)) (c_if_neg (by simp) no))))⟩
    · exact ⟨false, bad (fun h => g1 h.1), go false (c_bind1 false (congrArg some (decide_eq_false g1)) (c_if_neg (by simp) no))⟩
theorem tk_valid (x : List TVS) (hx : x.length ≤ 1048576) : ∃ b : Bool, (b = true ↔ (∀ m, m < x.length → tv_ok x m = true) ∧ x.length ≤ 6) ∧ Ev (fun k => spec_TasksValid.f k x) b ∧ impl_TasksValid.f x = some b := by
  obtain ⟨b, hb, he⟩ := tk_l0 x hx x.length 0 (by omega)
  refine ⟨b, ⟨fun h => ⟨fun m hm => (hb.1 h).1 m (by omega) hm, (hb.1 h).2⟩, fun h => hb.2 ⟨fun m _ hm => h.1 m hm, h.2⟩⟩, he, congrArg some ?_⟩
  rw [Bool.eq_iff_iff, hb, Bool.and_eq_true, List.all_eq_true, decide_eq_true_eq]
  constructor
  · rintro ⟨h1, h2⟩
    exact ⟨fun m _ hm => h1 m (by simp [hm]), h2⟩
  · rintro ⟨h1, h2⟩
    exact ⟨fun m hm => h1 m (by omega) (by simpa using hm), h2⟩
def okb (x : List TVS) (b : Int) : Prop := b = -1 ∨ (0 ≤ b ∧ b < x.length)
theorem ts_take (R : List Int) (t : Nat) (v : Int) (h : t < R.length) : (R.set t v).take (t + 1) = R.take t ++ [v] := by
  rw [List.take_add_one, List.getElem?_set_self h]
  have e : (R.set t v).take t = R.take t := by
    apply List.ext_getElem?
    intro j
    rw [List.getElem?_take, List.getElem?_take]
    by_cases c : j < t
    · rw [if_pos c, if_pos c, List.getElem?_set_ne (by omega)]
    · rw [if_neg c, if_neg c]
  rw [e]
  rfl
theorem ts_l1 (x : List TVS) (hx : x.length ≤ 1048576) (hv : ∀ m, m < x.length → tv_ok x m = true) (n t : Nat) (ht : t < n) (hn : n ≤ 1000) (S R : List Int) (hS : S.length = t) (hR : R.length = n) (Q : List Int × List Int → Prop)
    (hout : ∀ (left over : List Int) (b : Int), left.length = x.length → over.length = x.length → okb x b → Both Q (fun k => spec_TaskSchedule.l0 k x (n : Int) (S ++ [b]) (if b ≥ 0 then left.set b.toNat (wrap64 (rd left b - 1)) else left) over ((t + 1 : Nat) : Int)) (fun k => impl_TaskSchedule.l0 k x (R.set t b) over (if b ≥ 0 then left.set b.toNat (wrap64 (rd left b - 1)) else left) (n : Int) ((t + 1 : Nat) : Int))) :
    ∀ (d i : Nat) (left over : List Int) (b : Int), i + d = x.length → left.length = x.length → over.length = x.length → okb x b →
    Both Q (fun k => spec_TaskSchedule.l1 k x (n : Int) S left over (t : Int) b (i : Int)) (fun k => impl_TaskSchedule.l1 k x R over left (t : Int) b (n : Int) (t : Int) x (x.length : Int) (i : Int))
  | 0, i, left, over, b, h, hl, ho, hb => by
    have hk := hout left over b hl ho hb
    refine b_next ?_
    simp only [spec_TaskSchedule.l1, impl_TaskSchedule.l1]
    rw [c_succ t (by omega), Int.toNat_natCast]
    refine b_negL (by omega) (b_negR (by omega) (b_posR (by omega) (b_posR (by omega) (b_bindR1 _ rfl ?_))))
    unfold okb at hb
    by_cases c : b ≥ 0
    · rw [if_pos c] at hk
      exact b_posL c (b_posR c (b_posL c (b_posL (by omega) (b_posL (by omega) (b_posR c (b_posR (by omega) hk))))))
    · rw [if_neg c] at hk
      exact b_negL c (b_negR c (b_posL (by omega) hk))
  | d + 1, i, left, over, b, h, hl, ho, hb => by
    have ih : ∀ (left over : List Int) (b : Int), left.length = x.length → over.length = x.length → okb x b → _ := fun left over b h1 h2 h3 => ts_l1 x hx hv n t ht hn S R hS hR Q hout d (i + 1) left over b (by omega) h1 h2 h3
    have h0 := ((tk_ok x i (by omega)).1 (hv i (by omega))).1.1
    have hb' := hb
    unfold okb at hb'
    have hi : okb x (i : Int) := Or.inr ⟨by omega, by omega⟩
    refine b_next ?_
    simp only [spec_TaskSchedule.l1, impl_TaskSchedule.l1]
    rw [c_succ i (by omega), Int.toNat_natCast]
    refine b_posL (by omega) (b_posR (by omega) (b_posL (by omega) (b_posR (by omega) (b_posR (by omega) (b_negL (by unfold tkf at h0; omega) (b_negR (by unfold tkf at h0; omega) (b_if (fun _ => ?_) (fun _ => ?_))))))))
    · refine b_posL (by omega) (b_posR (by omega) (b_if (fun _ => ?_) (fun _ => ?_)))
      · refine b_posL (by omega) (b_posR (by omega) (b_bindL1 _ rfl (b_bindR1 _ rfl (b_bindL1 _ rfl (b_bindR1 _ rfl ?_)))))
        have e1 : (left.set i (rd_T96 x (i : Int)).f1).length = x.length := by rw [List.length_set]; exact hl
        have e2 : (over.set i (wrap64 (rd over (i : Int) + 1))).length = x.length := by rw [List.length_set]; exact ho
        exact b_if (fun _ => b_if (fun _ => ih _ _ _ e1 e2 hi) (fun _ => b_posL (by omega) (b_posL (by omega) (b_posR (by omega) (b_posR (by omega) (b_if (fun _ => ih _ _ _ e1 e2 hi) (fun _ => ih _ _ _ e1 e2 hb))))))) (fun _ => ih _ _ _ e1 e2 hb)
      · refine b_bindL1 _ rfl (b_bindR1 _ rfl ?_)
        have e1 : (left.set i (rd_T96 x (i : Int)).f1).length = x.length := by rw [List.length_set]; exact hl
        exact b_if (fun _ => b_if (fun _ => ih _ _ _ e1 ho hi) (fun _ => b_posL (by omega) (b_posL (by omega) (b_posR (by omega) (b_posR (by omega) (b_if (fun _ => ih _ _ _ e1 ho hi) (fun _ => ih _ _ _ e1 ho hb))))))) (fun _ => ih _ _ _ e1 ho hb)
    · refine b_posL (by omega) (b_posR (by omega) ?_)
      exact b_if (fun _ => b_if (fun _ => ih _ _ _ hl ho hi) (fun _ => b_posL (by omega) (b_posL (by omega) (b_posR (by omega) (b_posR (by omega) (b_if (fun _ => ih _ _ _ hl ho hi) (fun _ => ih _ _ _ hl ho hb))))))) (fun _ => ih _ _ _ hl ho hb)
theorem ts_l0 (x : List TVS) (hx : x.length ≤ 1048576) (hv : ∀ m, m < x.length → tv_ok x m = true) (n : Nat) (hn : n ≤ 1000) : ∀ (d t : Nat) (S left over R : List Int), t + d = n → S.length = t → R.length = n → R.take t = S → left.length = x.length → over.length = x.length →
    Both (fun p => p.1.length = n ∧ p.2.length = x.length) (fun k => spec_TaskSchedule.l0 k x (n : Int) S left over (t : Int)) (fun k => impl_TaskSchedule.l0 k x R over left (n : Int) (t : Int))
  | 0, t, S, left, over, R, h, hS, hR, hT, hl, ho => by
    have e : R = S := by
      rw [← hT, List.take_of_length_le (by omega)]
    subst e
    refine b_next ?_
    simp only [spec_TaskSchedule.l0, impl_TaskSchedule.l0]
    exact b_negL (by omega) (b_negR (by omega) (b_now _ ⟨hR, ho⟩))
  | d + 1, t, S, left, over, R, h, hS, hR, hT, hl, ho => by
    refine b_next ?_
    simp only [spec_TaskSchedule.l0, impl_TaskSchedule.l0]
    refine b_posL (by omega) (b_posR (by omega) ?_)
    refine ts_l1 x hx hv n t (by omega) hn S R hS hR _ ?_ x.length 0 left over (-1) (by omega) hl ho (Or.inl rfl)
    intro left over b h1 h2 h3
    refine ts_l0 x hx hv n hn d (t + 1) _ _ _ _ (by omega) (by simp; omega) (by rw [List.length_set]; exact hR) (by rw [ts_take R t b (by omega), hT]) ?_ h2
    split
    · rw [List.length_set]
      exact h1
    · exact h1
theorem ts_both (x : List TVS) (hx : x.length ≤ 1048576) (u : Int) : Both (fun p => p.1.length ≤ 1000 ∧ p.2.length ≤ 1048576) (fun k => spec_TaskSchedule.f k x u) (fun k => impl_TaskSchedule.f k x u) := by
  obtain ⟨b, hb, hs, hi⟩ := tk_valid x hx
  have hbad : Both (fun p : List Int × List Int => p.1.length ≤ 1000 ∧ p.2.length ≤ 1048576) (fun k => spec_TaskSchedule.j0 k x u [] true) (fun k => impl_TaskSchedule.j0 k x u true) := by
    refine b_next ?_
    simp only [spec_TaskSchedule.j0, impl_TaskSchedule.j0]
    exact b_posL trivial (b_posR trivial (b_now _ ⟨by simp, by simp⟩))
  unfold spec_TaskSchedule.f impl_TaskSchedule.f
  refine b_bindL1 [] rfl (b_bindL b hs (b_bindR1 b hi ?_))
  cases b with
  | false => exact b_negL (by simp) (b_negR (by simp) hbad)
  | true =>
    have e : ∀ a b c, impl_in.f a b c = spec_l1In.f a b c := fun _ _ _ => rfl
    rw [e, tk_l1in]
    refine b_posL rfl (b_posR rfl (b_bindL1 _ rfl (b_bindR1 _ rfl ?_)))
    by_cases c : 0 ≤ u ∧ u ≤ 1000
    · rw [decide_eq_true c]
      obtain ⟨n, rfl⟩ : ∃ n : Nat, u = (n : Int) := ⟨u.toNat, by omega⟩
      refine b_next ?_
      simp only [spec_TaskSchedule.j0, impl_TaskSchedule.j0, Int.toNat_natCast]
      refine b_negL (by simp) (b_negR (by simp) (b_posL (by omega) (b_posL (by omega) (b_posR (by omega) (b_posR (by omega) (b_posR (by omega) (b_posR (by omega) ?_)))))))
      refine b_mono (ts_l0 x hx (hb.1 rfl).1 n (by omega) n 0 [] _ _ _ (by omega) rfl (by simp) (by simp) (by simp) (by simp)) (fun p hp => ⟨by omega, by omega⟩)
    · rw [decide_eq_false c]
      exact hbad
theorem ts_bad (x : List TVS) (u : Int) (b : Bool) (hs : Ev (fun k => spec_TasksValid.f k x) b) (h : b = false ∨ ¬ (0 ≤ u ∧ u ≤ 1000)) : Ev (fun k => spec_TaskSchedule.f k x u) ([], []) := by
  have hj : Ev (fun k => spec_TaskSchedule.j0 k x u [] true) ([], []) := by
    refine c_next ?_
    simp only [spec_TaskSchedule.j0]
    exact c_if_pos trivial (Ev.now _)
  unfold spec_TaskSchedule.f
  refine c_bind1 [] rfl (c_bind b hs ?_)
  cases b with
  | false => exact c_if_neg (by simp) hj
  | true =>
    refine c_if_pos rfl (c_bind1 _ (tk_l1in _ _ _) ?_)
    rw [decide_eq_false (h.resolve_left (by simp))]
    exact hj
theorem ts_good (x : List TVS) (hx : x.length ≤ 1048576) (hv : ∀ m, m < x.length → tv_ok x m = true) (hs : Ev (fun k => spec_TasksValid.f k x) true) (hi : impl_TasksValid.f x = some true) (n : Nat) (hn : n ≤ 1000) :
    Both (fun p => p.1.length = n ∧ p.2.length = x.length) (fun k => spec_TaskSchedule.f k x (n : Int)) (fun k => impl_TaskSchedule.f k x (n : Int)) := by
  unfold spec_TaskSchedule.f impl_TaskSchedule.f
  refine b_bindL1 [] rfl (b_bindL true hs (b_bindR1 true hi ?_))
  have e : ∀ a b c, impl_in.f a b c = spec_l1In.f a b c := fun _ _ _ => rfl
  rw [e, tk_l1in]
  refine b_posL rfl (b_posR rfl (b_bindL1 _ rfl (b_bindR1 _ rfl ?_)))
  rw [decide_eq_true (show (0 : Int) ≤ (n : Int) ∧ (n : Int) ≤ 1000 by omega)]
  refine b_next ?_
  simp only [spec_TaskSchedule.j0, impl_TaskSchedule.j0, Int.toNat_natCast]
  refine b_negL (by simp) (b_negR (by simp) (b_posL (by omega) (b_posL (by omega) (b_posR (by omega) (b_posR (by omega) (b_posR (by omega) (b_posR (by omega) ?_)))))))
  exact ts_l0 x hx hv n hn n 0 [] _ _ _ (by omega) rfl (by simp) (by simp) (by simp) (by simp)
theorem wt_l0 (y : List Int) (n : Nat) (hy : y.length = n) (hn : n ≤ 1000) (a b : Int) (hb : 1 ≤ b ∧ b ≤ 1000) : ∀ (d i : Nat) (c : Int), i + d = n → 0 ≤ c → c ≤ b →
    Both (fun _ => True) (fun k => spec_WatchdogTrips.l0 k a b y c (i : Int)) (fun k => impl_WatchdogTrips.l0 k a b y c (n : Int) (i : Int))
  | 0, i, c, h, h0, h1 => by
    refine b_next ?_
    simp only [spec_WatchdogTrips.l0, impl_WatchdogTrips.l0]
    exact b_negL (by omega) (b_negR (by omega) (b_now _ trivial))
  | d + 1, i, c, h, h0, h1 => by
    have ih : ∀ c : Int, 0 ≤ c → c ≤ b → _ := fun c g0 g1 => wt_l0 y n hy hn a b hb d (i + 1) c (by omega) g0 g1
    refine b_next ?_
    simp only [spec_WatchdogTrips.l0, impl_WatchdogTrips.l0]
    rw [c_succ i (by omega), c_w64 (x := c + 1) (by omega) (by omega)]
    refine b_posL (by omega) (b_posR (by omega) ?_)
    by_cases e : c = b
    · exact b_posL e (b_posR (by omega) (b_now _ trivial))
    · exact b_negL e (b_negR (by omega) (b_posL (by omega) (b_posR (by omega) (b_posR (by omega) (b_if (fun _ => ih 0 (by omega) (by omega)) (fun _ => ih (c + 1) (by omega) (by omega)))))))
theorem wt_both (x : List TVS) (hx : x.length ≤ 1048576) (u a b : Int) : Both (fun _ => True) (fun k => spec_WatchdogTrips.f k x u a b) (fun k => impl_WatchdogTrips.f k x u a b) := by
  obtain ⟨v, hv, hs, hi⟩ := tk_valid x hx
  have eI : ∀ a b c, impl_in.f a b c = some (decide (b ≤ a ∧ a ≤ c)) := fun a b c => tk_l1in a b c
  have hbadR : Ev (fun k => impl_WatchdogTrips.j0 k x u a b true) (-1) := by
    refine c_next ?_
    simp only [impl_WatchdogTrips.j0]
    exact c_if_pos trivial (Ev.now _)
  have hbadS : ∀ y, Ev (fun k => spec_WatchdogTrips.j0 k a b y true) (-1) := by
    intro y
    refine c_next ?_
    simp only [spec_WatchdogTrips.j0]
    exact c_if_pos trivial (Ev.now _)
  have hnil : Ev (fun k => spec_WatchdogTrips.j0 k a b [] false) (-1) := by
    refine c_next ?_
    simp only [spec_WatchdogTrips.j0]
    refine c_if_neg (by simp) (c_next ?_)
    simp only [spec_WatchdogTrips.l0]
    exact c_if_neg (by simp) (Ev.now _)
  have hspecnil : Ev (fun k => (spec_l1In.f a 0 (wrap64 ((x.length : Int) - 1))).bind fun t171 => (if t171 = true then ((spec_l1In.f b 1 1000).bind fun t172 => (spec_WatchdogTrips.j0 k a b [] (!t172))) else (spec_WatchdogTrips.j0 k a b [] true))) (-1) := by
    refine c_bind1 _ (tk_l1in _ _ _) ?_
    by_cases ca : 0 ≤ a ∧ a ≤ wrap64 ((x.length : Int) - 1)
    · refine c_if_pos (decide_eq_true ca) (c_bind1 _ (tk_l1in _ _ _) ?_)
      cases decide (1 ≤ b ∧ b ≤ 1000)
      · exact hbadS []
      · exact hnil
    · exact c_if_neg (by rw [decide_eq_false ca]; simp) (hbadS [])
  unfold spec_WatchdogTrips.f impl_WatchdogTrips.f
  refine b_bindR1 v hi ?_
  cases v with
  | false => exact b_negR (by simp) (b_bindL _ (ts_bad x u false hs (Or.inl rfl)) ⟨-1, trivial, hspecnil, hbadR⟩)
  | true =>
    refine b_posR rfl (b_bindR1 _ (eI _ _ _) ?_)
    by_cases cu : 0 ≤ u ∧ u ≤ 1000
    · refine b_posR (decide_eq_true cu) ?_
      obtain ⟨n, rfl⟩ : ∃ n : Nat, u = (n : Int) := ⟨u.toNat, by omega⟩
      obtain ⟨⟨y, z⟩, ⟨hy, _⟩, hS, hI⟩ := ts_good x hx (hv.1 rfl).1 hs hi n (by omega)
      refine b_bindL _ hS (b_bindL1 _ (tk_l1in _ _ _) (b_bindR1 _ (eI _ _ _) ?_))
      by_cases ca : 0 ≤ a ∧ a ≤ wrap64 ((x.length : Int) - 1)
      · refine b_posL (decide_eq_true ca) (b_posR (decide_eq_true ca) (b_bindL1 _ (tk_l1in _ _ _) (b_bindR1 _ (eI _ _ _) ?_)))
        by_cases cb : 1 ≤ b ∧ b ≤ 1000
        · rw [decide_eq_true cb]
          refine b_next ?_
          simp only [spec_WatchdogTrips.j0, impl_WatchdogTrips.j0]
          refine b_negL (by simp) (b_negR (by simp) (b_bindR _ hI ?_))
          exact wt_l0 y n hy (by omega) a b cb n 0 0 (by omega) (by omega) (by omega)
        · rw [decide_eq_false cb]
          exact ⟨-1, trivial, hbadS _, hbadR⟩
      · exact b_negL (by rw [decide_eq_false ca]; simp) (b_negR (by rw [decide_eq_false ca]; simp) ⟨-1, trivial, hbadS _, hbadR⟩)
    · refine b_negR (by rw [decide_eq_false cu]; simp) (b_bindL _ (ts_bad x u true hs (Or.inr cu)) ⟨-1, trivial, hspecnil, hbadR⟩)
theorem FnExactWatchdogTrips : ∀ (l0 : List S98) (a1 : Int) (a2 : Int) (a3 : Int), (l0.length ≤ maxLen ∧ ∀ y2 ∈ l0, ((Lit.int .i64 y2.f0).wf = true) ∧ ((Lit.int .i64 y2.f1).wf = true) ∧ ((Lit.int .i64 y2.f2).wf = true)) → (Lit.int .i64 a1).wf = true → (Lit.int .i64 a2).wf = true → (Lit.int .i64 a3).wf = true → ∃ k, laws_FnExactWatchdogTrips.f k l0 a1 a2 a3 = some true := by
  intro x u a b hx hu ha hb
  refine Ev.rounds (r := true) ?_
  unfold laws_FnExactWatchdogTrips.f
  have hm := hx.1
  simp only [maxLen] at hm
  have hz := c_szTaskS x 1048576 (by omega) (by omega)
  by_cases cx : ((1048576 : Nat) : Int) - x.length < 0
  · rw [if_pos cx] at hz
    exact c_bind1 _ hz (c_if_pos (by omega) (Ev.now true))
  rw [if_neg cx] at hz
  have hxl : (x.map c_cvTask).length ≤ 1048576 := by rw [List.length_map]; omega
  obtain ⟨r, _, hs, hi⟩ := wt_both (x.map c_cvTask) hxl u a b
  have ht := c_toTaskS_ev x (by omega)
  exact c_bind1 _ hz (c_if_neg (by omega) (c_bind _ ht (c_bind _ hs (c_bind _ ht (c_bind _ hi (c_if_pos rfl (c_bind _ ht (c_bind true (c_eqTaskS_ev _ (by omega)) (c_if_pos rfl (Ev.now true))))))))))

end Go.Proofs.Ythbbhdadioiefaa.Pure
