/- The law FnExactModeTrace: its statement holds: out of its walk and its pure statement. No condition beyond the row's own. -/
import Derived.Test.YthbbhdadioiefaaFacts
import Derived.Test.YthbbhdadioiefaaQFnExactModeTracex6
import Derived.Test.YthbbhdadioiefaaPureFnExactModeTrace
import Derived.Test.YthbbhdadioiefaaOpen
import Derived.WalkKit
import Derived.ProofKit
import Derived.OpenShut
import Derived.ShutString
import Derived.ChangeOld
import Derived.Below
import Derived.SizedLaws
namespace Go.Proofs.Ythbbhdadioiefaa.fnExactModeTrace
open Go.ChangeShapes Go.WideShapes Go.ChangeAt Go.RowKit Go.Proofs.YthbbhdadioiefaaOpen Go.Proofs.YthbbhdadioiefaaW.PrintWords Go.Proofs.Ythbbhdadioiefaa.QFnExactModeTrace
open Go.ChangeMaps (open_string shut_string)
set_option linter.unusedVariables false
open Go.Proofs.Ythbbhdadioiefaa.Facts (own laidOut)
set_option maxRecDepth 100000 in
theorem lifted (os : Os) (started : os.Started) (H : Type) (enc : TypeId × Value → H) :
    ReturnsInHanded {} Try.checked os 12 .any (Rows.fnExactModeTraceSpec.pre6 enc Try.prog Try.f12 Rows.fnExactModeTraceRow.domain false) (Rows.fnExactModeTraceSpec.post enc Try.prog Try.f12 false true false false) := by
  refine returnsInHanded_of_change_sized (C := Try.checked) own started (by kernel_rfl) Try.func12
    (ChangeSpec.witness6 (enc := enc) (C := Try.checked) false ⟨#[], #[.slice none 0 0, .slice none 0 0, .slice none 0 0], []⟩ 8 (by kernel_rfl) (by kernel_rfl) (by kernel_rfl) (by kernel_rfl)) ?_
  intro W base args ds gs before hval0 hW hcnd hsz0 _
  have hval : ∀ (j : Nat) t v, Try.f12.params[j]? = some t → args[j]? = some v → Value.okWide Try.prog W .any base t v := hval0
  have hW' := hW
  obtain ⟨p, q, hA0, hV, rfl, hfz, hnd⟩ := hW
  have hA : DataW.TrodAll enc Try.prog W 0 (fun _ => true) true Try.f12.params.toList args.toList ds p := hA0
  rw [Try.params12] at hA hval
  obtain ⟨v0, vs0, d0, ds0, p0, q0, hargs, rfl, rfl, h0, r0⟩ := trodAll_cons hA
  obtain ⟨v1, vs1, d1, ds1, p1, q1, rfl, rfl, rfl, h1, r1⟩ := trodAll_cons r0
  obtain ⟨v2, vs2, d2, ds2, p2, q2, rfl, rfl, rfl, h2, r2⟩ := trodAll_cons r1
  obtain ⟨rfl, rfl, rfl⟩ := trodAll_nil r2
  obtain rfl : args = #[v0, v1, v2] := by cases args; simp_all
  obtain ⟨rfl, rfl⟩ := trodVars_none hV
  have k0 := h0
  have lt0 : ∀ x ∈ p0, x.block < W.heap.size := by obtain ⟨m, hm⟩ := k0; exact DataW.trod_lt m _ _ _ hm
  obtain ⟨z0, len0, cap0, rfl⟩ := okWide_slice Try.underlying58 (hval 0 58 v0 rfl rfl)
  obtain ⟨fuel0, hf0⟩ := h0
  obtain ⟨l0, hK0, g0⟩ := Opens.go (opens_slice (e' := 3) Try.underlying58 (by kernel_rfl) (opens_int (P := Try.prog) Try.underlying3)) hf0
  obtain ⟨A0, c0, hq0, hc0, hr0⟩ := hK0
  simp only [Value.cells, List.cons.injEq, Value.slice.injEq, and_true] at hq0
  obtain ⟨rfl, rfl, rfl⟩ := hq0
  have k1 := h1
  have lt1 : ∀ x ∈ p1, x.block < W.heap.size := by obtain ⟨m, hm⟩ := k1; exact DataW.trod_lt m _ _ _ hm
  obtain ⟨z1, len1, cap1, rfl⟩ := okWide_slice Try.underlying61 (hval 1 61 v1 rfl rfl)
  obtain ⟨fuel1, hf1⟩ := h1
  obtain ⟨l1, hK1, g1⟩ := Opens.go (opens_slice (e' := 4) Try.underlying61 (by kernel_rfl) (opens_bool (P := Try.prog) Try.underlying4)) hf1
  obtain ⟨A1, c1, hq1, hc1, hr1⟩ := hK1
  simp only [Value.cells, List.cons.injEq, Value.slice.injEq, and_true] at hq1
  obtain ⟨rfl, rfl, rfl⟩ := hq1
  have k2 := h2
  have lt2 : ∀ x ∈ p2, x.block < W.heap.size := by obtain ⟨m, hm⟩ := k2; exact DataW.trod_lt m _ _ _ hm
  obtain ⟨z2, len2, cap2, rfl⟩ := okWide_slice Try.underlying61 (hval 2 61 v2 rfl rfl)
  obtain ⟨fuel2, hf2⟩ := h2
  obtain ⟨l2, hK2, g2⟩ := Opens.go (opens_slice (e' := 4) Try.underlying61 (by kernel_rfl) (opens_bool (P := Try.prog) Try.underlying4)) hf2
  obtain ⟨A2, c2, hq2, hc2, hr2⟩ := hK2
  simp only [Value.cells, List.cons.injEq, Value.slice.injEq, and_true] at hq2
  obtain ⟨rfl, rfl, rfl⟩ := hq2
  clear hA0 hval0 hsz0
  obtain ⟨k, h⟩ := Pure.FnExactModeTrace l0 l1 l2 g0 g1 g2
  refine (laws_FnExactModeTrace.calls k _ _ l0 _ _ l1 _ _ l2 true W hr0 hc0 hr1 hc1 hr2 hc2 h).mono fun e W' hpost => ?_
  obtain ⟨rfl, hd⟩ := hpost
  have bel : Below W.heap.size W W' := hd
  exact ⟨_, rfl, _, _, _, [], _, [], hW', trodAll_mk1 (shut_bool Try.underlying4 _), (trodAll_cons_mk (Below.trod laidOut (by kernel_rfl) (of_decide_eq_true (by kernel_rfl)) k0 bel lt0) (trodAll_cons_mk (Below.trod laidOut (by kernel_rfl) (of_decide_eq_true (by kernel_rfl)) k1 bel lt1) (trodAll_cons_mk (Below.trod laidOut (by kernel_rfl) (of_decide_eq_true (by kernel_rfl)) k2 bel lt2) trodAll_mk0))), rfl, bel.frame _, fun h => by cases h⟩
end Go.Proofs.Ythbbhdadioiefaa.fnExactModeTrace
