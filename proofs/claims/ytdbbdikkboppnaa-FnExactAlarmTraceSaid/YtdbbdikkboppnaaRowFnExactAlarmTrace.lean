/- The law FnExactAlarmTrace: its statement holds: out of its walk and its pure statement. No condition beyond the row's own. -/
import Derived.Test.YtdbbdikkboppnaaRows
import Derived.Test.YtdbbdikkboppnaaQFnExactAlarmTracex4
import Derived.Test.YtdbbdikkboppnaaPureFnExactAlarmTrace
import Derived.Test.YtdbbdikkboppnaaOpen
import Derived.WalkKit
import Derived.ProofKit
import Derived.OpenShut
import Derived.ShutString
import Derived.ChangeOld
import Derived.Below
import Derived.SizedLaws
namespace Go.Proofs.Ytdbbdikkboppnaa.fnExactAlarmTrace
open Go.ChangeShapes Go.WideShapes Go.ChangeAt Go.RowKit Go.Proofs.YtdbbdikkboppnaaOpen Go.Proofs.YtdbbdikkboppnaaW.PrintWords Go.Proofs.Ytdbbdikkboppnaa.QFnExactAlarmTrace
open Go.ChangeMaps (open_string shut_string)
set_option linter.unusedVariables false
theorem own : ownKnob Try.prog.godebug = none := by kernel_rfl
theorem laidOut : laidOutB Try.prog = true := by kernel_rfl
set_option maxRecDepth 100000 in
theorem lifted (os : Os) (started : os.Started) (H : Type) (enc : TypeId × Value → H) :
    ReturnsInHanded {} Try.checked os 9 .any (Rows.fnExactAlarmTraceSpec.pre6 enc Try.prog Try.f9 Rows.fnExactAlarmTraceRow.domain false) (Rows.fnExactAlarmTraceSpec.post enc Try.prog Try.f9 false true false false) := by
  refine returnsInHanded_of_change_sized (C := Try.checked) own started (by kernel_rfl) Try.func9
    (ChangeSpec.witness6 (enc := enc) (C := Try.checked) false ⟨#[], #[.slice none 0 0, .slice none 0 0], []⟩ 8 (by kernel_rfl) (by kernel_rfl) (by kernel_rfl) (by kernel_rfl)) ?_
  intro W base args ds gs before hval0 hW hcnd hsz0 _
  have hval : ∀ (j : Nat) t v, Try.f9.params[j]? = some t → args[j]? = some v → Value.okWide Try.prog W .any base t v := hval0
  have hW' := hW
  obtain ⟨p, q, hA0, hV, rfl, hfz, hnd⟩ := hW
  have hA : DataW.TrodAll enc Try.prog W 0 (fun _ => true) true Try.f9.params.toList args.toList ds p := hA0
  rw [Try.params9] at hA hval
  obtain ⟨v0, vs0, d0, ds0, p0, q0, hargs, rfl, rfl, h0, r0⟩ := trodAll_cons hA
  obtain ⟨v1, vs1, d1, ds1, p1, q1, rfl, rfl, rfl, h1, r1⟩ := trodAll_cons r0
  obtain ⟨rfl, rfl, rfl⟩ := trodAll_nil r1
  obtain rfl : args = #[v0, v1] := by cases args; simp_all
  obtain ⟨rfl, rfl⟩ := trodVars_none hV
  have k0 := h0
  have lt0 : ∀ x ∈ p0, x.block < W.heap.size := by obtain ⟨m, hm⟩ := k0; exact DataW.trod_lt m _ _ _ hm
  obtain ⟨z0, len0, cap0, rfl⟩ := okWide_slice Try.underlying22 (hval 0 22 v0 rfl rfl)
  obtain ⟨fuel0, hf0⟩ := h0
  obtain ⟨l0, hK0, g0⟩ := Opens.go (opens_slice (e' := 4) Try.underlying22 (by kernel_rfl) (opens_bool (P := Try.prog) Try.underlying4)) hf0
  obtain ⟨A0, c0, hq0, hc0, hr0⟩ := hK0
  simp only [Value.cells, List.cons.injEq, Value.slice.injEq, and_true] at hq0
  obtain ⟨rfl, rfl, rfl⟩ := hq0
  have k1 := h1
  have lt1 : ∀ x ∈ p1, x.block < W.heap.size := by obtain ⟨m, hm⟩ := k1; exact DataW.trod_lt m _ _ _ hm
  obtain ⟨z1, len1, cap1, rfl⟩ := okWide_slice Try.underlying22 (hval 1 22 v1 rfl rfl)
  obtain ⟨fuel1, hf1⟩ := h1
  obtain ⟨l1, hK1, g1⟩ := Opens.go (opens_slice (e' := 4) Try.underlying22 (by kernel_rfl) (opens_bool (P := Try.prog) Try.underlying4)) hf1
  obtain ⟨A1, c1, hq1, hc1, hr1⟩ := hK1
  simp only [Value.cells, List.cons.injEq, Value.slice.injEq, and_true] at hq1
  obtain ⟨rfl, rfl, rfl⟩ := hq1
  clear hA0 hval0 hsz0
  obtain ⟨k, h⟩ := Pure.FnExactAlarmTrace l0 l1 g0 g1
  refine (laws_FnExactAlarmTrace.calls k _ _ l0 _ _ l1 true W hr0 hc0 hr1 hc1 h).mono fun e W' hpost => ?_
  obtain ⟨rfl, hd⟩ := hpost
  have bel : Below W.heap.size W W' := hd
  exact ⟨_, rfl, _, _, _, [], _, [], hW', trodAll_mk1 (shut_bool Try.underlying4 _), (trodAll_cons_mk (Below.trod laidOut (by kernel_rfl) (of_decide_eq_true (by kernel_rfl)) k0 bel lt0) (trodAll_cons_mk (Below.trod laidOut (by kernel_rfl) (of_decide_eq_true (by kernel_rfl)) k1 bel lt1) trodAll_mk0)), rfl, bel.frame _, fun h => by cases h⟩
theorem over : Rows.fnExactAlarmTraceRow.holds Try.pinned (OpenSpec.ofChange Rows.fnExactAlarmTraceSpec) :=
  OpenClaim.holds_of_wide 9 Try.f9 rfl rfl rfl rfl rfl rfl rfl ⟨rfl, rfl, rfl, rfl, rfl⟩ rfl rfl rfl rfl rfl (by kernel_rfl) Try.func9 (by kernel_rfl)
    (of_decide_eq_true (by kernel_rfl)) (by unfold Func.isWrapper; first | (rw [if_pos (by decide +kernel)]; kernel_rfl) | (rw [if_neg (by decide +kernel)]; exact ⟨rfl, rfl⟩))
    (fun os started H enc _ => lifted os started H enc)
theorem proved : Rows.FnExactAlarmTraceSaid := over
#print axioms proved
end Go.Proofs.Ytdbbdikkboppnaa.fnExactAlarmTrace
namespace Go.Proofs.Ytdbbdikkboppnaa
/-- The row, under a short name, for the claim. -/
theorem fnExactAlarmTrace_holds : Rows.FnExactAlarmTraceSaid := fnExactAlarmTrace.proved
end Go.Proofs.Ytdbbdikkboppnaa
