/- The law FnExactFrameBytes: its statement holds: out of its walk and its pure statement. No condition beyond the row's own. -/
import Derived.Test.YtdbbdikkboppnaaFacts
import Derived.Test.YtdbbdikkboppnaaQFnExactFrameBytesx2
import Derived.Test.YtdbbdikkboppnaaPureFnExactFrameBytes
import Derived.Test.YtdbbdikkboppnaaOpen
import Derived.WalkKit
import Derived.ProofKit
import Derived.OpenShut
import Derived.ShutString
import Derived.ChangeOld
import Derived.Below
import Derived.SizedLaws
namespace Go.Proofs.Ytdbbdikkboppnaa.fnExactFrameBytes
open Go.ChangeShapes Go.WideShapes Go.ChangeAt Go.RowKit Go.Proofs.YtdbbdikkboppnaaOpen Go.Proofs.YtdbbdikkboppnaaW.PrintWords Go.Proofs.Ytdbbdikkboppnaa.QFnExactFrameBytes
open Go.ChangeMaps (open_string shut_string)
set_option linter.unusedVariables false
open Go.Proofs.Ytdbbdikkboppnaa.Facts (own laidOut)
set_option maxRecDepth 100000 in
theorem lifted (os : Os) (started : os.Started) (H : Type) (enc : TypeId × Value → H) :
    ReturnsInHanded {} Try.checked os 10 .any (Rows.fnExactFrameBytesSpec.pre6 enc Try.prog Try.f10 Rows.fnExactFrameBytesRow.domain false) (Rows.fnExactFrameBytesSpec.post enc Try.prog Try.f10 false true false false) := by
  refine returnsInHanded_of_change_sized (C := Try.checked) own started (by kernel_rfl) Try.func10
    (ChangeSpec.witness6 (enc := enc) (C := Try.checked) false ⟨#[], #[.agg #[.int .i64 0, .int .i64 0, .slice none 0 0]], []⟩ 8 (by kernel_rfl) (by kernel_rfl) (by kernel_rfl) (by kernel_rfl)) ?_
  intro W base args ds gs before hval0 hW hcnd hsz0 _
  have hval : ∀ (j : Nat) t v, Try.f10.params[j]? = some t → args[j]? = some v → Value.okWide Try.prog W .any base t v := hval0
  have hW' := hW
  obtain ⟨p, q, hA0, hV, rfl, hfz, hnd⟩ := hW
  have hA : DataW.TrodAll enc Try.prog W 0 (fun _ => true) true Try.f10.params.toList args.toList ds p := hA0
  rw [Try.params10] at hA hval
  obtain ⟨v0, vs0, d0, ds0, p0, q0, hargs, rfl, rfl, h0, r0⟩ := trodAll_cons hA
  obtain ⟨rfl, rfl, rfl⟩ := trodAll_nil r0
  obtain rfl : args = #[v0] := by cases args; simp_all
  obtain ⟨rfl, rfl⟩ := trodVars_none hV
  have k0 := h0
  have lt0 : ∀ x ∈ p0, x.block < W.heap.size := by obtain ⟨m, hm⟩ := k0; exact DataW.trod_lt m _ _ _ hm
  obtain ⟨cs0, rfl, hsz0⟩ := okWide_struct Try.underlying48 (hval 0 48 v0 rfl rfl)
  obtain ⟨fuel0, hf0⟩ := h0
  obtain ⟨⟨a0_0, a0_1, l0_2⟩, hK0, g0⟩ := Opens.go (opens_struct3 (f := fun x : Int × Int × (List Int) => x) (good := fun x => ((Lit.int .i64 x.1).wf = true) ∧ ((Lit.int .i64 x.2.1).wf = true) ∧ (x.2.2.length ≤ maxLen ∧ ∀ y5 ∈ x.2.2, (Lit.int .u8 y5).wf = true)) (fun a b c => (a, b, c)) (fun _ _ _ => rfl) (fun _ _ _ g0 g1 g2 => ⟨g0, g1, g2⟩) Try.underlying48 rfl rfl rfl (by kernel_rfl) (by kernel_rfl) (by kernel_rfl) (by kernel_rfl) (opens_int (P := Try.prog) Try.underlying3) (opens_int (P := Try.prog) Try.underlying3) (opens_slice (e' := 5) Try.underlying28 (by kernel_rfl) (opens_int (P := Try.prog) Try.underlying5))) hf0
  obtain ⟨e0_0, f0_0, hq0, rfl, ⟨e0_1, f0_1, rfl, rfl, ⟨A0_2, c0_2, rfl, hc0_2, hr0_2⟩⟩⟩ := hK0
  obtain ⟨cl0⟩ := cs0
  simp only [Value.cells, List.cons_append, List.nil_append] at hq0
  subst hq0
  clear hA0 hval0 hsz0
  obtain ⟨k, h⟩ := Pure.FnExactFrameBytes a0_0 a0_1 l0_2 g0.1 g0.2.1 g0.2.2
  refine (laws_FnExactFrameBytes.calls k a0_0 a0_1 _ _ l0_2 true W hr0_2 hc0_2 h).mono fun e W' hpost => ?_
  obtain ⟨rfl, hd⟩ := hpost
  have bel : Below W.heap.size W W' := hd
  exact ⟨_, rfl, _, _, _, [], _, [], hW', trodAll_mk1 (shut_bool Try.underlying4 _), (trodAll_cons_mk (Below.trod laidOut (by kernel_rfl) (of_decide_eq_true (by kernel_rfl)) k0 bel lt0) trodAll_mk0), rfl, bel.frame _, fun h => by cases h⟩
end Go.Proofs.Ytdbbdikkboppnaa.fnExactFrameBytes
