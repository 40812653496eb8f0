/- The law FnExactReadFrame: its statement holds: out of its walk and its pure statement. No condition beyond the row's own. -/
import Derived.Test.YtdbbdikkboppnaaFacts
import Derived.Test.YtdbbdikkboppnaaQFnExactReadFramex3
import Derived.Test.YtdbbdikkboppnaaPureFnExactReadFrame
import Derived.Test.YtdbbdikkboppnaaOpen
import Derived.WalkKit
import Derived.ProofKit
import Derived.OpenShut
import Derived.ShutString
import Derived.ChangeOld
import Derived.Below
import Derived.SizedLaws
namespace Go.Proofs.Ytdbbdikkboppnaa.fnExactReadFrame
open Go.ChangeShapes Go.WideShapes Go.ChangeAt Go.RowKit Go.Proofs.YtdbbdikkboppnaaOpen Go.Proofs.YtdbbdikkboppnaaW.PrintWords Go.Proofs.Ytdbbdikkboppnaa.QFnExactReadFrame
open Go.ChangeMaps (open_string shut_string)
set_option linter.unusedVariables false
open Go.Proofs.Ytdbbdikkboppnaa.Facts (own laidOut)
set_option maxRecDepth 100000 in
theorem lifted (os : Os) (started : os.Started) (H : Type) (enc : TypeId × Value → H) :
    ReturnsInHanded {} Try.checked os 11 .any (Rows.fnExactReadFrameSpec.pre6 enc Try.prog Try.f11 Rows.fnExactReadFrameRow.domain false) (Rows.fnExactReadFrameSpec.post enc Try.prog Try.f11 false true false false) := by
  refine returnsInHanded_of_change_sized (C := Try.checked) own started (by kernel_rfl) Try.func11
    (ChangeSpec.witness6 (enc := enc) (C := Try.checked) false ⟨#[], #[.slice none 0 0], []⟩ 8 (by kernel_rfl) (by kernel_rfl) (by kernel_rfl) (by kernel_rfl)) ?_
  intro W base args ds gs before hval0 hW hcnd hsz0 _
  have hval : ∀ (j : Nat) t v, Try.f11.params[j]? = some t → args[j]? = some v → Value.okWide Try.prog W .any base t v := hval0
  have hW' := hW
  obtain ⟨p, q, hA0, hV, rfl, hfz, hnd⟩ := hW
  have hA : DataW.TrodAll enc Try.prog W 0 (fun _ => true) true Try.f11.params.toList args.toList ds p := hA0
  rw [Try.params11] at hA hval
  obtain ⟨v0, vs0, d0, ds0, p0, q0, hargs, rfl, rfl, h0, r0⟩ := trodAll_cons hA
  obtain ⟨rfl, rfl, rfl⟩ := trodAll_nil r0
  obtain rfl : args = #[v0] := by cases args; simp_all
  obtain ⟨rfl, rfl⟩ := trodVars_none hV
  have k0 := h0
  have lt0 : ∀ x ∈ p0, x.block < W.heap.size := by obtain ⟨m, hm⟩ := k0; exact DataW.trod_lt m _ _ _ hm
  obtain ⟨z0, len0, cap0, rfl⟩ := okWide_slice Try.underlying28 (hval 0 28 v0 rfl rfl)
  obtain ⟨fuel0, hf0⟩ := h0
  obtain ⟨l0, hK0, g0⟩ := Opens.go (opens_slice (e' := 5) Try.underlying28 (by kernel_rfl) (opens_int (P := Try.prog) Try.underlying5)) hf0
  obtain ⟨A0, c0, hq0, hc0, hr0⟩ := hK0
  simp only [Value.cells, List.cons.injEq, Value.slice.injEq, and_true] at hq0
  obtain ⟨rfl, rfl, rfl⟩ := hq0
  clear hA0 hval0 hsz0
  obtain ⟨k, h⟩ := Pure.FnExactReadFrame l0 g0
  refine (laws_FnExactReadFrame.calls k _ _ l0 true W hr0 hc0 h).mono fun e W' hpost => ?_
  obtain ⟨rfl, hd⟩ := hpost
  have bel : Below W.heap.size W W' := hd
  exact ⟨_, rfl, _, _, _, [], _, [], hW', trodAll_mk1 (shut_bool Try.underlying4 _), (trodAll_cons_mk (Below.trod laidOut (by kernel_rfl) (of_decide_eq_true (by kernel_rfl)) k0 bel lt0) trodAll_mk0), rfl, bel.frame _, fun h => by cases h⟩
end Go.Proofs.Ytdbbdikkboppnaa.fnExactReadFrame
