/- The law FnExactStepChart: its statement holds: out of its walk and its pure statement. No condition beyond the row's own. -/
import Derived.Test.YtojgaiibnajghaaFacts
import Derived.Test.YtojgaiibnajghaaQFnExactStepChartx3
import Derived.Test.YtojgaiibnajghaaPureFnExactStepChart
import Derived.Test.YtojgaiibnajghaaOpen
import Derived.WalkKit
import Derived.ProofKit
import Derived.OpenShut
import Derived.ShutString
import Derived.ChangeOld
import Derived.Below
import Derived.SizedLaws
namespace Go.Proofs.Ytojgaiibnajghaa.fnExactStepChart
open Go.ChangeShapes Go.WideShapes Go.ChangeAt Go.RowKit Go.Proofs.YtojgaiibnajghaaOpen Go.Proofs.YtojgaiibnajghaaW.PrintWords Go.Proofs.Ytojgaiibnajghaa.QFnExactStepChart
open Go.ChangeMaps (open_string shut_string)
set_option linter.unusedVariables false
open Go.Proofs.Ytojgaiibnajghaa.Facts (own laidOut)
set_option maxRecDepth 100000 in
theorem lifted (os : Os) (started : os.Started) (H : Type) (enc : TypeId × Value → H) :
    ReturnsInHanded {} Try.checked os 7 .any (Rows.fnExactStepChartSpec.pre6 enc Try.prog Try.f7 Rows.fnExactStepChartRow.domain false) (Rows.fnExactStepChartSpec.post enc Try.prog Try.f7 false true false false) := by
  refine returnsInHanded_of_change_sized (C := Try.checked) own started (by kernel_rfl) Try.func7
    (ChangeSpec.witness6 (enc := enc) (C := Try.checked) false ⟨#[], #[.slice none 0 0, .int .i64 0, .int .i64 0, .agg #[.slice none 0 0, .slice none 0 0]], []⟩ 8 (by kernel_rfl) (by kernel_rfl) (by kernel_rfl) (by kernel_rfl)) ?_
  intro W base args ds gs before hval0 hW hcnd hsz0 _
  have hval : ∀ (j : Nat) t v, Try.f7.params[j]? = some t → args[j]? = some v → Value.okWide Try.prog W .any base t v := hval0
  have hW' := hW
  obtain ⟨p, q, hA0, hV, rfl, hfz, hnd⟩ := hW
  have hA : DataW.TrodAll enc Try.prog W 0 (fun _ => true) true Try.f7.params.toList args.toList ds p := hA0
  rw [Try.params7] at hA hval
  obtain ⟨v0, vs0, d0, ds0, p0, q0, hargs, rfl, rfl, h0, r0⟩ := trodAll_cons hA
  obtain ⟨v1, vs1, d1, ds1, p1, q1, rfl, rfl, rfl, h1, r1⟩ := trodAll_cons r0
  obtain ⟨v2, vs2, d2, ds2, p2, q2, rfl, rfl, rfl, h2, r2⟩ := trodAll_cons r1
  obtain ⟨v3, vs3, d3, ds3, p3, q3, rfl, rfl, rfl, h3, r3⟩ := trodAll_cons r2
  obtain ⟨rfl, rfl, rfl⟩ := trodAll_nil r3
  obtain rfl : args = #[v0, v1, v2, v3] := by cases args; simp_all
  obtain ⟨rfl, rfl⟩ := trodVars_none hV
  have k0 := h0
  have lt0 : ∀ x ∈ p0, x.block < W.heap.size := by obtain ⟨m, hm⟩ := k0; exact DataW.trod_lt m _ _ _ hm
  obtain ⟨z0, len0, cap0, rfl⟩ := okWide_slice Try.underlying48 (hval 0 48 v0 rfl rfl)
  obtain ⟨fuel0, hf0⟩ := h0
  obtain ⟨l0, hK0, g0⟩ := Opens.go (opens_slice (e' := 77) Try.underlying48 (by kernel_rfl) (opens_struct3 (f := fun x : S77 => (x.f0, x.f1, x.f2)) (good := fun x => ((Lit.int .i64 x.f0).wf = true) ∧ ((Lit.int .i64 x.f1).wf = true) ∧ ((Lit.int .i64 x.f2).wf = true)) (fun a b c => ⟨a, b, c⟩) (fun _ _ _ => rfl) (fun _ _ _ g0 g1 g2 => ⟨g0, g1, g2⟩) Try.underlying77 rfl rfl rfl (by kernel_rfl) (by kernel_rfl) (by kernel_rfl) (by kernel_rfl) (opens_int (P := Try.prog) Try.underlying3) (opens_int (P := Try.prog) Try.underlying3) (opens_int (P := Try.prog) Try.underlying3))) hf0
  obtain ⟨A0, c0, hq0, hc0, hr0⟩ := hK0
  simp only [Value.cells, List.cons.injEq, Value.slice.injEq, and_true] at hq0
  obtain ⟨rfl, rfl, rfl⟩ := hq0
  obtain ⟨a1, rfl, rfl, rfl, w1⟩ := open_int Try.underlying3 (hval 1 3 v1 rfl rfl) h1
  obtain ⟨a2, rfl, rfl, rfl, w2⟩ := open_int Try.underlying3 (hval 2 3 v2 rfl rfl) h2
  have k3 := h3
  have lt3 : ∀ x ∈ p3, x.block < W.heap.size := by obtain ⟨m, hm⟩ := k3; exact DataW.trod_lt m _ _ _ hm
  obtain ⟨cs3, rfl, hsz3⟩ := okWide_struct Try.underlying25 (hval 3 25 v3 rfl rfl)
  obtain ⟨fuel3, hf3⟩ := h3
  obtain ⟨⟨l3_0, l3_1⟩, hK3, g3⟩ := Opens.go (opens_struct2 (f := fun x : (List Bool) × (List Int) => x) (good := fun x => (x.1.length ≤ maxLen ∧ ∀ y3 ∈ x.1, True) ∧ (x.2.length ≤ maxLen ∧ ∀ y3 ∈ x.2, (Lit.int .i64 y3).wf = true)) (fun a b => (a, b)) (fun _ _ => rfl) (fun _ _ g0 g1 => ⟨g0, g1⟩) Try.underlying25 rfl rfl (by kernel_rfl) (by kernel_rfl) (by kernel_rfl) (opens_slice (e' := 4) Try.underlying22 (by kernel_rfl) (opens_bool (P := Try.prog) Try.underlying4)) (opens_slice (e' := 3) Try.underlying23 (by kernel_rfl) (opens_int (P := Try.prog) Try.underlying3))) hf3
  obtain ⟨e3_0, f3_0, hq3, ⟨A3_0, c3_0, rfl, hc3_0, hr3_0⟩, ⟨A3_1, c3_1, rfl, hc3_1, hr3_1⟩⟩ := hK3
  obtain ⟨cl3⟩ := cs3
  simp only [Value.cells, List.cons_append, List.nil_append] at hq3
  subst hq3
  clear hA0 hval0 hsz0
  obtain ⟨k, h⟩ := Pure.FnExactStepChart l0 a1 a2 l3_0 l3_1 g0 w1 w2 g3.1 g3.2
  refine (laws_FnExactStepChart.calls k _ _ l0 a1 a2 _ _ l3_0 _ _ l3_1 true W hr0 hc0 hr3_0 hc3_0 hr3_1 hc3_1 h).mono fun e W' hpost => ?_
  obtain ⟨rfl, hd⟩ := hpost
  have bel : Below W.heap.size W W' := hd
  exact ⟨_, rfl, _, _, _, [], _, [], hW', trodAll_mk1 (shut_bool Try.underlying4 _), (trodAll_cons_mk (Below.trod laidOut (by kernel_rfl) (of_decide_eq_true (by kernel_rfl)) k0 bel lt0) (trodAll_cons_mk (shut_int Try.underlying3 w1) (trodAll_cons_mk (shut_int Try.underlying3 w2) (trodAll_cons_mk (Below.trod laidOut (by kernel_rfl) (of_decide_eq_true (by kernel_rfl)) k3 bel lt3) trodAll_mk0)))), rfl, bel.frame _, fun h => by cases h⟩
end Go.Proofs.Ytojgaiibnajghaa.fnExactStepChart
