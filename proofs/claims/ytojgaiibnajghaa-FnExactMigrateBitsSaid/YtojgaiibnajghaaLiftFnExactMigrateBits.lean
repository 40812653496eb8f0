/- The law FnExactMigrateBits: its statement holds: out of its walk and its pure statement. No condition beyond the row's own. -/
import Derived.Test.YtojgaiibnajghaaFacts
import Derived.Test.YtojgaiibnajghaaQFnExactMigrateBitsx3
import Derived.Test.YtojgaiibnajghaaPureFnExactMigrateBits
import Derived.Test.YtojgaiibnajghaaOpen
import Derived.WalkKit
import Derived.ProofKit
import Derived.OpenShut
import Derived.ShutString
import Derived.ChangeOld
import Derived.Below
import Derived.SizedLaws
namespace Go.Proofs.Ytojgaiibnajghaa.fnExactMigrateBits
open Go.ChangeShapes Go.WideShapes Go.ChangeAt Go.RowKit Go.Proofs.YtojgaiibnajghaaOpen Go.Proofs.YtojgaiibnajghaaW.PrintWords Go.Proofs.Ytojgaiibnajghaa.QFnExactMigrateBits
open Go.ChangeMaps (open_string shut_string)
set_option linter.unusedVariables false
open Go.Proofs.Ytojgaiibnajghaa.Facts (own laidOut)
set_option maxRecDepth 100000 in
theorem lifted (os : Os) (started : os.Started) (H : Type) (enc : TypeId × Value → H) :
    ReturnsInHanded {} Try.checked os 5 .any (Rows.fnExactMigrateBitsSpec.pre6 enc Try.prog Try.f5 Rows.fnExactMigrateBitsRow.domain false) (Rows.fnExactMigrateBitsSpec.post enc Try.prog Try.f5 false true false false) := by
  refine returnsInHanded_of_change_sized (C := Try.checked) own started (by kernel_rfl) Try.func5
    (ChangeSpec.witness6 (enc := enc) (C := Try.checked) false ⟨#[], #[.agg #[.slice none 0 0, .slice none 0 0], .slice none 0 0], []⟩ 8 (by kernel_rfl) (by kernel_rfl) (by kernel_rfl) (by kernel_rfl)) ?_
  intro W base args ds gs before hval0 hW hcnd hsz0 _
  have hval : ∀ (j : Nat) t v, Try.f5.params[j]? = some t → args[j]? = some v → Value.okWide Try.prog W .any base t v := hval0
  have hW' := hW
  obtain ⟨p, q, hA0, hV, rfl, hfz, hnd⟩ := hW
  have hA : DataW.TrodAll enc Try.prog W 0 (fun _ => true) true Try.f5.params.toList args.toList ds p := hA0
  rw [Try.params5] at hA hval
  obtain ⟨v0, vs0, d0, ds0, p0, q0, hargs, rfl, rfl, h0, r0⟩ := trodAll_cons hA
  obtain ⟨v1, vs1, d1, ds1, p1, q1, rfl, rfl, rfl, h1, r1⟩ := trodAll_cons r0
  obtain ⟨rfl, rfl, rfl⟩ := trodAll_nil r1
  obtain rfl : args = #[v0, v1] := by cases args; simp_all
  obtain ⟨rfl, rfl⟩ := trodVars_none hV
  have k0 := h0
  have lt0 : ∀ x ∈ p0, x.block < W.heap.size := by obtain ⟨m, hm⟩ := k0; exact DataW.trod_lt m _ _ _ hm
  obtain ⟨cs0, rfl, hsz0⟩ := okWide_struct Try.underlying25 (hval 0 25 v0 rfl rfl)
  obtain ⟨fuel0, hf0⟩ := h0
  obtain ⟨⟨l0_0, l0_1⟩, hK0, g0⟩ := Opens.go (opens_struct2 (f := fun x : (List Bool) × (List Int) => x) (good := fun x => (x.1.length ≤ maxLen ∧ ∀ y3 ∈ x.1, True) ∧ (x.2.length ≤ maxLen ∧ ∀ y3 ∈ x.2, (Lit.int .i64 y3).wf = true)) (fun a b => (a, b)) (fun _ _ => rfl) (fun _ _ g0 g1 => ⟨g0, g1⟩) Try.underlying25 rfl rfl (by kernel_rfl) (by kernel_rfl) (by kernel_rfl) (opens_slice (e' := 4) Try.underlying22 (by kernel_rfl) (opens_bool (P := Try.prog) Try.underlying4)) (opens_slice (e' := 3) Try.underlying23 (by kernel_rfl) (opens_int (P := Try.prog) Try.underlying3))) hf0
  obtain ⟨e0_0, f0_0, hq0, ⟨A0_0, c0_0, rfl, hc0_0, hr0_0⟩, ⟨A0_1, c0_1, rfl, hc0_1, hr0_1⟩⟩ := hK0
  obtain ⟨cl0⟩ := cs0
  simp only [Value.cells, List.cons_append, List.nil_append] at hq0
  subst hq0
  have k1 := h1
  have lt1 : ∀ x ∈ p1, x.block < W.heap.size := by obtain ⟨m, hm⟩ := k1; exact DataW.trod_lt m _ _ _ hm
  obtain ⟨z1, len1, cap1, rfl⟩ := okWide_slice Try.underlying23 (hval 1 23 v1 rfl rfl)
  obtain ⟨fuel1, hf1⟩ := h1
  obtain ⟨l1, hK1, g1⟩ := Opens.go (opens_slice (e' := 3) Try.underlying23 (by kernel_rfl) (opens_int (P := Try.prog) Try.underlying3)) hf1
  obtain ⟨A1, c1, hq1, hc1, hr1⟩ := hK1
  simp only [Value.cells, List.cons.injEq, Value.slice.injEq, and_true] at hq1
  obtain ⟨rfl, rfl, rfl⟩ := hq1
  clear hA0 hval0 hsz0
  obtain ⟨k, h⟩ := Pure.FnExactMigrateBits l0_0 l0_1 l1 g0.1 g0.2 g1
  refine (laws_FnExactMigrateBits.calls k _ _ l0_0 _ _ l0_1 _ _ l1 true W hr0_0 hc0_0 hr0_1 hc0_1 hr1 hc1 h rfl).mono fun e W' hpost => ?_
  obtain ⟨rfl, hd⟩ := hpost
  have bel : Below W.heap.size W W' := hd
  exact ⟨_, rfl, _, _, _, [], _, [], hW', trodAll_mk1 (shut_bool Try.underlying4 _), (trodAll_cons_mk (Below.trod laidOut (by kernel_rfl) (of_decide_eq_true (by kernel_rfl)) k0 bel lt0) (trodAll_cons_mk (Below.trod laidOut (by kernel_rfl) (of_decide_eq_true (by kernel_rfl)) k1 bel lt1) trodAll_mk0)), rfl, bel.frame _, fun h => by cases h⟩
end Go.Proofs.Ytojgaiibnajghaa.fnExactMigrateBits
