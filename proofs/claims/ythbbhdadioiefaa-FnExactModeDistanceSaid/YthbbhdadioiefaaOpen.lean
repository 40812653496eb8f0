/- A datum that the reader of a row has read is told as a kind of the print's: whole numbers, bools, slices and structs of such, nested. No condition. -/
import Derived.Test.YthbbhdadioiefaaWWords
import Derived.WalkKit
import Derived.ProofKit
import Derived.OpenShut
import Derived.ChangeOld
import Derived.Below
import Derived.SizedLaws
import Derived.Deep.Slices
import Derived.ChangeArms
namespace Go.Proofs.YthbbhdadioiefaaOpen
open Go.RowKit Go.ChangeShapes Go.WideShapes Go.Proofs.YthbbhdadioiefaaW.PrintWords
set_option linter.unusedVariables false

/-- Whatever is read at type t is of kind d, and good. -/
structure Opens {α : Type} (P : Program) (t : TypeId) (d : Kd α) (good : α → Prop) : Prop where
  go : ∀ {H : Type} {enc : TypeId × Value → H} {w : World} {base : Nat} {spare : Nat → Bool} {held : Bool} {fuel : Nat} {cs : List Value} {x : DataW H × List MemPlace},
    DataW.trod enc P w base spare held fuel t cs = some x → ∃ y : α, d.K w y cs ∧ good y

theorem opens_int {P : Program} {t : TypeId} {k : IntKind} (ht : P.underlying t = some (.int k)) : Opens P t (Kd.int k) (fun x => (Lit.int k x).wf = true) :=
  ⟨fun h => by
    obtain ⟨n, rfl, _, hw⟩ := DataW.trod_int ht h
    exact ⟨n, rfl, hw⟩⟩
theorem opens_bool {P : Program} {t : TypeId} (ht : P.underlying t = some .bool) : Opens P t Kd.bool (fun _ => True) :=
  ⟨fun h => by
    obtain ⟨b, rfl, _⟩ := DataW.trod_bool ht h
    exact ⟨b, rfl, trivial⟩⟩
theorem opens_string {P : Program} {t : TypeId} (ht : P.underlying t = some .string) : Opens P t Kd.string (fun x => x.size ≤ maxLen) :=
  ⟨fun h => by
    obtain ⟨b, rfl, _, hm⟩ := DataW.trod_string ht h
    exact ⟨b, rfl, hm⟩⟩

theorem o_all {α : Type} {Q : Nat → α → Prop} : ∀ n, (∀ i, i < n → ∃ y, Q i y) → ∃ ys : List α, ys.length = n ∧ ∀ i y, ys[i]? = some y → Q i y
  | 0, _ => ⟨[], rfl, fun i y h => by simp at h⟩
  | n + 1, h => by
    obtain ⟨ys, hl, hq⟩ := o_all n (fun i hi => h i (by omega))
    obtain ⟨y, hy⟩ := h n (by omega)
    refine ⟨ys ++ [y], by simp [hl], fun i z hz => ?_⟩
    rcases Nat.lt_or_ge i n with hi | hi
    · rw [List.getElem?_append_left (by omega)] at hz
      exact hq i z hz
    · rw [List.getElem?_append_right (by omega)] at hz
      have hlt := (List.getElem?_eq_some_iff.1 hz).1
      simp only [List.length_singleton] at hlt
      have e : i = n := by omega
      subst e
      have hz' : y = z := by simpa [hl] using hz
      rw [← hz']
      exact hy

theorem opens_slice {α : Type} {P : Program} {t e e' : TypeId} {d : Kd α} {good : α → Prop} (ht : P.underlying t = some (.slice e)) (hC : P.cellsOf e = d.sz) (hd : Opens P e d good) :
    Opens P t (Kd.slice e' d) (fun l => l.length ≤ maxLen ∧ ∀ x ∈ l, good x) :=
  ⟨fun {H enc w base spare held fuel cs x} h => by
    rcases Go.Deep.open_slice ht h with ⟨rfl, _⟩ | ⟨a, len, cap, m, n, D, Pl, rfl, hb, hl, hm, hmm, _, hi⟩
    · exact ⟨[], ⟨none, 0, rfl, Nat.le_refl _, Kd.C_nil _ _⟩, by simp, fun x hx => by simp at hx⟩
    · have hlm : len ≤ m := by rw [hmm]; split <;> omega
      obtain ⟨ys, hys, hq⟩ := o_all (Q := fun i y => ∃ c, w.cells? base (a.add (i * P.cellsOf e)) (P.cellsOf e) = some c ∧ d.K w y c ∧ good y) len (fun i hil => by
        obtain ⟨c, h1, h2⟩ := hi i (by omega)
        obtain ⟨y, hy, hg⟩ := hd.go h2
        exact ⟨y, c, h1, hy, hg⟩)
      have hmax : len ≤ maxLen := by omega
      refine ⟨ys, ⟨some a, cap, by rw [hys], by omega, hys ▸ rfl, ?_, fun hp => ⟨a, rfl, fun j p hj => ?_⟩⟩, by rw [hys]; exact hmax, fun y hy => ?_⟩
      · rw [hys]
        exact hmax
      · obtain ⟨c, h1, h2, _⟩ := hq j p hj
        obtain ⟨_, hcl, hat⟩ := World.cells?_some h1
        refine ⟨c, d.K_len h2, h2, fun i u hu => ?_⟩
        have hic : i < P.cellsOf e := by have := (List.getElem?_eq_some_iff.1 hu).1; omega
        have := hat i hic
        rw [Go.Deep.add_add, hC] at this
        rw [this]
        exact hu
      · obtain ⟨j, hj⟩ := List.getElem?_of_mem hy
        obtain ⟨_, _, _, hg⟩ := hq j y hj
        exact hg⟩

/-- A struct of two fields. -/
theorem opens_struct2 {α β γ : Type} {P : Program} {t : TypeId} {f0 f1 : Field} {d0 : Kd α} {d1 : Kd β} {g0 : α → Prop} {g1 : β → Prop} {f : γ → α × β} {good : γ → Prop} (mk : α → β → γ) (hf : ∀ a b, f (mk a b) = (a, b)) (hg : ∀ a b, g0 a → g1 b → good (mk a b))
    (ht : P.underlying t = some (.struct #[f0, f1])) (o0 : f0.offset = 0) (o1 : f1.offset = d0.sz) (hC : P.cellsOf t = d0.sz + d1.sz) (c0 : P.cellsOf f0.type = d0.sz) (c1 : P.cellsOf f1.type = d1.sz)
    (h0 : Opens P f0.type d0 g0) (h1 : Opens P f1.type d1 g1) : Opens P t (Kd.iso (Kd.pair d0 d1) f) good :=
  ⟨fun {H enc w base spare held fuel cs x} h => by
    obtain ⟨xs, n, _, _, hlen, hxl, hat⟩ := DataW.trod_struct ht h
    have e0 := hat 0 f0 rfl
    have e1 := hat 1 f1 rfl
    have hxl2 : xs.length = 2 := hxl
    rw [List.getElem?_eq_getElem (by omega)] at e0 e1
    rw [o0, c0] at e0
    rw [o1, c1] at e1
    obtain ⟨a, ha, ga⟩ := h0.go e0
    obtain ⟨b, hb, gb⟩ := h1.go e1
    refine ⟨mk a b, ?_, hg a b ga gb⟩
    show (Kd.pair d0 d1).K w (f (mk a b)) cs
    rw [hf]
    refine ⟨_, _, ?_, ha, hb⟩
    rw [List.drop_zero, show ((cs.drop d0.sz).take d1.sz) = cs.drop d0.sz from List.take_of_length_le (by rw [List.length_drop]; omega), List.take_append_drop]⟩

/-- A struct of three fields. -/
theorem opens_struct3 {α β δ γ : Type} {P : Program} {t : TypeId} {f0 f1 f2 : Field} {d0 : Kd α} {d1 : Kd β} {d2 : Kd δ} {g0 : α → Prop} {g1 : β → Prop} {g2 : δ → Prop} {f : γ → α × β × δ} {good : γ → Prop} (mk : α → β → δ → γ) (hf : ∀ a b c, f (mk a b c) = (a, b, c)) (hg : ∀ a b c, g0 a → g1 b → g2 c → good (mk a b c))
    (ht : P.underlying t = some (.struct #[f0, f1, f2])) (o0 : f0.offset = 0) (o1 : f1.offset = d0.sz) (o2 : f2.offset = d0.sz + d1.sz) (hC : P.cellsOf t = d0.sz + d1.sz + d2.sz) (c0 : P.cellsOf f0.type = d0.sz) (c1 : P.cellsOf f1.type = d1.sz) (c2 : P.cellsOf f2.type = d2.sz)
    (h0 : Opens P f0.type d0 g0) (h1 : Opens P f1.type d1 g1) (h2 : Opens P f2.type d2 g2) : Opens P t (Kd.iso (Kd.pair d0 (Kd.pair d1 d2)) f) good :=
  ⟨fun {H enc w base spare held fuel cs x} h => by
    obtain ⟨xs, n, _, _, hlen, hxl, hat⟩ := DataW.trod_struct ht h
    have e0 := hat 0 f0 rfl
    have e1 := hat 1 f1 rfl
    have e2 := hat 2 f2 rfl
    have hxl2 : xs.length = 3 := hxl
    rw [List.getElem?_eq_getElem (by omega)] at e0 e1 e2
    rw [o0, c0] at e0
    rw [o1, c1] at e1
    rw [o2, c2] at e2
    obtain ⟨a, ha, ga⟩ := h0.go e0
    obtain ⟨b, hb, gb⟩ := h1.go e1
    obtain ⟨c, hc, gc⟩ := h2.go e2
    refine ⟨mk a b c, ?_, hg a b c ga gb gc⟩
    show (Kd.pair d0 (Kd.pair d1 d2)).K w (f (mk a b c)) cs
    rw [hf]
    refine ⟨_, cs.drop d0.sz, ?_, ha, ⟨_, _, ?_, hb, hc⟩⟩
    · rw [List.drop_zero, List.take_append_drop]
    · rw [show ((cs.drop (d0.sz + d1.sz)).take d2.sz) = cs.drop (d0.sz + d1.sz) from List.take_of_length_le (by rw [List.length_drop]; omega), ← List.drop_drop, List.take_append_drop]⟩
end Go.Proofs.YthbbhdadioiefaaOpen
