/- The statement FnExactRunDiagramSaid: whatever the input, the law returns true, and each argument reads as before; no condition. -/
import Derived.Test.YtpefkclpnkefnaaRows
import Derived.Test.YtpefkclpnkefnaaGFnExactRunDiagramx11
import Derived.Test.YtpefkclpnkefnaaOpnV
import Derived.Test.YtpefkclpnkefnaaPureFnExactRunDiagram
import Derived.WalkKit
import Derived.ProofKit
import Derived.OpenShut
import Derived.ShutString
import Derived.ChangeOld
import Derived.Below
import Derived.SizedLaws
import Derived.Carry
namespace Go.Proofs.Ytpefkclpnkefnaa.fnExactRunDiagram
open Go.ChangeShapes Go.WideShapes Go.ChangeAt Go.RowKit Go.Deep
open Go.ChangeMaps (open_string shut_string)
open Go.Proofs.Ytpefkclpnkefnaa.GFnExactRunDiagram Go.Proofs.YtpefkclpnkefnaaV.PrintWords Go.Proofs.YtpefkclpnkefnaaV.PrintLast Go.Proofs.Ytpefkclpnkefnaa.OpnV
set_option linter.unusedVariables false
theorem opens56 : Opens Try.prog k56 ok56 56 := by
  have h := opens_iso (fun x : S56 => (x.f0, x.f1, x.f2)) (fun p => ⟨p.1, p.2.1, p.2.2⟩) (fun _ => rfl) (opens_struct Try.underlying56 (by kernel_rfl) (opensFrom_cons (opens_int Try.underlying3) rfl (by kernel_rfl) (opensFrom_cons (opens_int Try.underlying3) rfl (by kernel_rfl) (opensFrom_last (opens_int Try.underlying3) rfl (by kernel_rfl)))))
  exact h
theorem own : ownKnob Try.prog.godebug = none := by kernel_rfl
theorem laidOut : laidOutB Try.prog = true := by kernel_rfl
set_option maxRecDepth 100000 in
theorem lifted (os : Os) (started : os.Started) (H : Type) (enc : TypeId × Value → H) :
    ReturnsInHanded {} Try.checked os 5 .any (Rows.fnExactRunDiagramSpec.pre6 enc Try.prog Try.f5 Rows.fnExactRunDiagramRow.domain false) (Rows.fnExactRunDiagramSpec.post enc Try.prog Try.f5 false true false false) := by
  refine returnsInHanded_of_change_sized (C := Try.checked) own started (by kernel_rfl) Try.func5
    (ChangeSpec.witness6 (enc := enc) (C := Try.checked) false ⟨#[], #[.slice none 0 0, .slice none 0 0], []⟩ 8 (by kernel_rfl) (by kernel_rfl) (by kernel_rfl) (by kernel_rfl)) ?_
  intro W base args ds gs before hval0 hW hcnd hsz0 _
  have hsz : (DataW.weightsEach Try.prog (Try.f5.params.toList ++ Rows.fnExactRunDiagramSpec.plain.varTypes Try.prog) (ds ++ gs)).all (· ≤ reachBytes) = true := hsz0
  have hval : ∀ (j : Nat) t v, Try.f5.params[j]? = some t → args[j]? = some v → Value.okWide Try.prog W .any base t v := hval0
  have hW' := hW
  obtain ⟨p, q, hA0, hV, rfl, hfz, hnd⟩ := hW
  have hA : DataW.TrodAll enc Try.prog W 0 (fun _ => true) true Try.f5.params.toList args.toList ds p := hA0
  rw [Try.params5] at hA hval hsz
  obtain ⟨v0, vs0, d0, ds0, p0, q0, hargs, rfl, rfl, h0, r0⟩ := trodAll_cons hA
  obtain ⟨v1, vs1, d1, ds1, p1, q1, rfl, rfl, rfl, h1, r1⟩ := trodAll_cons r0
  obtain ⟨rfl, rfl, rfl⟩ := trodAll_nil r1
  obtain rfl : args = #[v0, v1] := by cases args; simp_all
  obtain ⟨rfl, rfl⟩ := trodVars_none hV
  have k0 := h0
  have lt0 : ∀ x ∈ p0, x.block < W.heap.size := by obtain ⟨m, hm⟩ := k0; exact DataW.trod_lt m _ _ _ hm
  obtain ⟨A0, len0, c0, rfl⟩ := okWide_slice Try.underlying27 (hval 0 27 v0 rfl rfl)
  obtain ⟨l0, rfl, hc0, hr0, w0⟩ := opens_arg_slice (opens_slice Try.underlying27 (by kernel_rfl) opens56) h0
  have k1 := h1
  have lt1 : ∀ x ∈ p1, x.block < W.heap.size := by obtain ⟨m, hm⟩ := k1; exact DataW.trod_lt m _ _ _ hm
  obtain ⟨A1, len1, c1, rfl⟩ := okWide_slice Try.underlying37 (hval 1 37 v1 rfl rfl)
  obtain ⟨l1, rfl, hc1, hr1, w1⟩ := opens_arg_slice (opens_slice Try.underlying37 (by kernel_rfl) (opens_slice Try.underlying22 (by kernel_rfl) (opens_int Try.underlying3))) h1
  clear hA0 hval0 hsz0 hsz
  obtain ⟨k, h⟩ := pure_holds l0 l1 w0 w1
  refine (laws_FnExactRunDiagram.calls k A0 c0 l0 A1 c1 l1 true W hr0 hc0 hr1 hc1 h).mono fun e W' => ?_
  rintro ⟨rfl, bel0⟩
  have bel : Below W.heap.size W W' := bel0
  exact ⟨_, rfl, _, _, _, [], _, [], hW', trodAll_mk1 (shut_bool Try.underlying4 _), (trodAll_cons_mk (Below.trod laidOut (by kernel_rfl) (of_decide_eq_true (by kernel_rfl)) k0 bel lt0) (trodAll_cons_mk (Below.trod laidOut (by kernel_rfl) (of_decide_eq_true (by kernel_rfl)) k1 bel lt1) trodAll_mk0)), rfl, bel.frame _, fun h => by cases h⟩
theorem over : Rows.fnExactRunDiagramRow.holds Try.pinned (OpenSpec.ofChange Rows.fnExactRunDiagramSpec) :=
  OpenClaim.holds_of_wide 5 Try.f5 rfl rfl rfl rfl rfl rfl rfl ⟨rfl, rfl, rfl, rfl, rfl⟩ rfl rfl rfl rfl rfl (by kernel_rfl) Try.func5 (by kernel_rfl)
    (of_decide_eq_true (by kernel_rfl)) (by unfold Func.isWrapper; first | (rw [if_pos (by decide +kernel)]; kernel_rfl) | (rw [if_neg (by decide +kernel)]; exact ⟨rfl, rfl⟩))
    (fun os started H enc _ => lifted os started H enc)
theorem proved : Rows.FnExactRunDiagramSaid := over
#print axioms proved
end Go.Proofs.Ytpefkclpnkefnaa.fnExactRunDiagram
namespace Go.Proofs.Ytpefkclpnkefnaa
/-- The row, under a short name, for the claim. -/
theorem fnExactRunDiagram_holds : Rows.FnExactRunDiagramSaid := fnExactRunDiagram.proved
end Go.Proofs.Ytpefkclpnkefnaa
