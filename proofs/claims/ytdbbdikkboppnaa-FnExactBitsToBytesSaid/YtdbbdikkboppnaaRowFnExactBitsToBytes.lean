/- The law FnExactBitsToBytes: its statement holds: out of its walk and its pure statement. No condition beyond the row's own. -/
import Derived.Test.YtdbbdikkboppnaaRows
import Derived.Test.YtdbbdikkboppnaaQFnExactBitsToBytesx3
import Derived.Test.YtdbbdikkboppnaaPureFnExactBitsToBytes
import Derived.Test.YtdbbdikkboppnaaOpen
import Derived.WalkKit
import Derived.ProofKit
import Derived.OpenShut
import Derived.ShutString
import Derived.ChangeOld
import Derived.Below
import Derived.SizedLaws
namespace Go.Proofs.Ytdbbdikkboppnaa.fnExactBitsToBytes
open Go.ChangeShapes Go.WideShapes Go.ChangeAt Go.RowKit Go.Proofs.YtdbbdikkboppnaaOpen Go.Proofs.YtdbbdikkboppnaaW.PrintWords Go.Proofs.Ytdbbdikkboppnaa.QFnExactBitsToBytes
open Go.ChangeMaps (open_string shut_string)
set_option linter.unusedVariables false
theorem own : ownKnob Try.prog.godebug = none := by kernel_rfl
theorem laidOut : laidOutB Try.prog = true := by kernel_rfl
set_option maxRecDepth 100000 in
theorem lifted (os : Os) (started : os.Started) (H : Type) (enc : TypeId × Value → H) :
    ReturnsInHanded {} Try.checked os 5 .any (Rows.fnExactBitsToBytesSpec.pre6 enc Try.prog Try.f5 Rows.fnExactBitsToBytesRow.domain false) (Rows.fnExactBitsToBytesSpec.post enc Try.prog Try.f5 false true false false) := by
  refine returnsInHanded_of_change_sized (C := Try.checked) own started (by kernel_rfl) Try.func5
    (ChangeSpec.witness6 (enc := enc) (C := Try.checked) false ⟨#[], #[.slice none 0 0], []⟩ 8 (by kernel_rfl) (by kernel_rfl) (by kernel_rfl) (by kernel_rfl)) ?_
  intro W base args ds gs before hval0 hW hcnd hsz0 _
  have hval : ∀ (j : Nat) t v, Try.f5.params[j]? = some t → args[j]? = some v → Value.okWide Try.prog W .any base t v := hval0
  have hW' := hW
  obtain ⟨p, q, hA0, hV, rfl, hfz, hnd⟩ := hW
  have hA : DataW.TrodAll enc Try.prog W 0 (fun _ => true) true Try.f5.params.toList args.toList ds p := hA0
  rw [Try.params5] at hA hval
  obtain ⟨v0, vs0, d0, ds0, p0, q0, hargs, rfl, rfl, h0, r0⟩ := trodAll_cons hA
  obtain ⟨rfl, rfl, rfl⟩ := trodAll_nil r0
  obtain rfl : args = #[v0] := by cases args; simp_all
  obtain ⟨rfl, rfl⟩ := trodVars_none hV
  have k0 := h0
  have lt0 : ∀ x ∈ p0, x.block < W.heap.size := by obtain ⟨m, hm⟩ := k0; exact DataW.trod_lt m _ _ _ hm
  obtain ⟨z0, len0, cap0, rfl⟩ := okWide_slice Try.underlying22 (hval 0 22 v0 rfl rfl)
  obtain ⟨fuel0, hf0⟩ := h0
  obtain ⟨l0, hK0, g0⟩ := Opens.go (opens_slice (e' := 4) Try.underlying22 (by kernel_rfl) (opens_bool (P := Try.prog) Try.underlying4)) hf0
  obtain ⟨A0, c0, hq0, hc0, hr0⟩ := hK0
  simp only [Value.cells, List.cons.injEq, Value.slice.injEq, and_true] at hq0
  obtain ⟨rfl, rfl, rfl⟩ := hq0
  clear hA0 hval0 hsz0
  obtain ⟨k, h⟩ := Pure.FnExactBitsToBytes l0 g0
  refine (laws_FnExactBitsToBytes.calls k _ _ l0 true W hr0 hc0 h).mono fun e W' hpost => ?_
  obtain ⟨rfl, hd⟩ := hpost
  have bel : Below W.heap.size W W' := hd
  exact ⟨_, rfl, _, _, _, [], _, [], hW', trodAll_mk1 (shut_bool Try.underlying4 _), (trodAll_cons_mk (Below.trod laidOut (by kernel_rfl) (of_decide_eq_true (by kernel_rfl)) k0 bel lt0) trodAll_mk0), rfl, bel.frame _, fun h => by cases h⟩
theorem over : Rows.fnExactBitsToBytesRow.holds Try.pinned (OpenSpec.ofChange Rows.fnExactBitsToBytesSpec) :=
  OpenClaim.holds_of_wide 5 Try.f5 rfl rfl rfl rfl rfl rfl rfl ⟨rfl, rfl, rfl, rfl, rfl⟩ rfl rfl rfl rfl rfl (by kernel_rfl) Try.func5 (by kernel_rfl)
    (of_decide_eq_true (by kernel_rfl)) (by unfold Func.isWrapper; first | (rw [if_pos (by decide +kernel)]; kernel_rfl) | (rw [if_neg (by decide +kernel)]; exact ⟨rfl, rfl⟩))
    (fun os started H enc _ => lifted os started H enc)
theorem proved : Rows.FnExactBitsToBytesSaid := over
#print axioms proved
end Go.Proofs.Ytdbbdikkboppnaa.fnExactBitsToBytes
namespace Go.Proofs.Ytdbbdikkboppnaa
/-- The row, under a short name, for the claim. -/
theorem fnExactBitsToBytes_holds : Rows.FnExactBitsToBytesSaid := fnExactBitsToBytes.proved
end Go.Proofs.Ytdbbdikkboppnaa
