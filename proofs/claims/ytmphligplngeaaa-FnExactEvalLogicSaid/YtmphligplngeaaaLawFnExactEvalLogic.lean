/- The statement FnExactEvalLogicSaid: whatever the input, the law returns true, and each argument reads as before; no condition. -/
import Derived.Test.YtmphligplngeaaaRows
import Derived.Test.YtmphligplngeaaaGFnExactEvalLogicx7
import Derived.Test.YtmphligplngeaaaOpnV
import Derived.Test.YtmphligplngeaaaPureFnExactEvalLogic
import Derived.WalkKit
import Derived.ProofKit
import Derived.OpenShut
import Derived.ShutString
import Derived.ChangeOld
import Derived.Below
import Derived.SizedLaws
import Derived.Carry
namespace Go.Proofs.Ytmphligplngeaaa.fnExactEvalLogic
open Go.ChangeShapes Go.WideShapes Go.ChangeAt Go.RowKit Go.Deep
open Go.ChangeMaps (open_string shut_string)
open Go.Proofs.Ytmphligplngeaaa.GFnExactEvalLogic Go.Proofs.YtmphligplngeaaaV.PrintWords Go.Proofs.YtmphligplngeaaaV.PrintLast Go.Proofs.Ytmphligplngeaaa.OpnV
set_option linter.unusedVariables false
theorem opens71 : Opens Try.prog k71 ok71 71 := by
  have h := opens_iso (fun x : S71 => (x.f0, x.f1)) (fun p => ⟨p.1, p.2⟩) (fun _ => rfl) (opens_struct Try.underlying71 (by kernel_rfl) (opensFrom_cons (opens_int Try.underlying3) rfl (by kernel_rfl) (opensFrom_last (opens_int Try.underlying3) rfl (by kernel_rfl))))
  exact h
theorem own : ownKnob Try.prog.godebug = none := by kernel_rfl
theorem laidOut : laidOutB Try.prog = true := by kernel_rfl
set_option maxRecDepth 100000 in
theorem lifted (os : Os) (started : os.Started) (H : Type) (enc : TypeId × Value → H) :
    ReturnsInHanded {} Try.checked os 8 .any (Rows.fnExactEvalLogicSpec.pre6 enc Try.prog Try.f8 Rows.fnExactEvalLogicRow.domain false) (Rows.fnExactEvalLogicSpec.post enc Try.prog Try.f8 false true false false) := by
  refine returnsInHanded_of_change_sized (C := Try.checked) own started (by kernel_rfl) Try.func8
    (ChangeSpec.witness6 (enc := enc) (C := Try.checked) false ⟨#[], #[.agg #[.slice none 0 0, .slice none 0 0], .slice none 0 0], []⟩ 8 (by kernel_rfl) (by kernel_rfl) (by kernel_rfl) (by kernel_rfl)) ?_
  intro W base args ds gs before hval0 hW hcnd hsz0 _
  have hsz : (DataW.weightsEach Try.prog (Try.f8.params.toList ++ Rows.fnExactEvalLogicSpec.plain.varTypes Try.prog) (ds ++ gs)).all (· ≤ reachBytes) = true := hsz0
  have hval : ∀ (j : Nat) t v, Try.f8.params[j]? = some t → args[j]? = some v → Value.okWide Try.prog W .any base t v := hval0
  have hW' := hW
  obtain ⟨p, q, hA0, hV, rfl, hfz, hnd⟩ := hW
  have hA : DataW.TrodAll enc Try.prog W 0 (fun _ => true) true Try.f8.params.toList args.toList ds p := hA0
  rw [Try.params8] at hA hval hsz
  obtain ⟨v0, vs0, d0, ds0, p0, q0, hargs, rfl, rfl, h0, r0⟩ := trodAll_cons hA
  obtain ⟨v1, vs1, d1, ds1, p1, q1, rfl, rfl, rfl, h1, r1⟩ := trodAll_cons r0
  obtain ⟨rfl, rfl, rfl⟩ := trodAll_nil r1
  obtain rfl : args = #[v0, v1] := by cases args; simp_all
  obtain ⟨rfl, rfl⟩ := trodVars_none hV
  have k0 := h0
  have lt0 : ∀ x ∈ p0, x.block < W.heap.size := by obtain ⟨m, hm⟩ := k0; exact DataW.trod_lt m _ _ _ hm
  obtain ⟨cs0, rfl, _⟩ := okWide_struct Try.underlying49 (hval 0 49 v0 rfl rfl)
  obtain ⟨fuel0, hf0⟩ := h0
  obtain ⟨x0, hK0, w0⟩ := opens_struct Try.underlying49 (by kernel_rfl) (opensFrom_cons (opens_slice Try.underlying42 (by kernel_rfl) (opens_bool Try.underlying4)) rfl (by kernel_rfl) (opensFrom_last (opens_slice Try.underlying24 (by kernel_rfl) (opens_int Try.underlying3)) rfl (by kernel_rfl))) H enc W 0 _ true fuel0 _ _ hf0
  obtain ⟨_, _, e0, ⟨A0_0, c0_0, rfl, hc0_0, hr0_0⟩, ⟨A0_1, c0_1, rfl, hc0_1, hr0_1⟩⟩ := hK0
  obtain rfl : cs0 = #[.slice A0_0 (x0.1).length c0_0, .slice A0_1 (x0.2).length c0_1] := by
    have e_ := congrArg List.toArray e0
    simpa [Value.cells] using e_
  have k1 := h1
  have lt1 : ∀ x ∈ p1, x.block < W.heap.size := by obtain ⟨m, hm⟩ := k1; exact DataW.trod_lt m _ _ _ hm
  obtain ⟨A1, len1, c1, rfl⟩ := okWide_slice Try.underlying33 (hval 1 33 v1 rfl rfl)
  obtain ⟨l1, rfl, hc1, hr1, w1⟩ := opens_arg_slice (opens_slice Try.underlying33 (by kernel_rfl) opens71) h1
  clear hA0 hval0 hsz0 hsz
  obtain ⟨k, h⟩ := pure_holds (x0.1) (x0.2) l1 w0.1 w0.2 w1
  refine (laws_FnExactEvalLogic.calls k A0_0 c0_0 (x0.1) A0_1 c0_1 (x0.2) A1 c1 l1 true W hr0_0 hc0_0 hr0_1 hc0_1 hr1 hc1 h).mono fun e W' => ?_
  rintro ⟨rfl, bel0⟩
  have bel : Below W.heap.size W W' := bel0
  exact ⟨_, rfl, _, _, _, [], _, [], hW', trodAll_mk1 (shut_bool Try.underlying4 _), (trodAll_cons_mk (Below.trod laidOut (by kernel_rfl) (of_decide_eq_true (by kernel_rfl)) k0 bel lt0) (trodAll_cons_mk (Below.trod laidOut (by kernel_rfl) (of_decide_eq_true (by kernel_rfl)) k1 bel lt1) trodAll_mk0)), rfl, bel.frame _, fun h => by cases h⟩
theorem over : Rows.fnExactEvalLogicRow.holds Try.pinned (OpenSpec.ofChange Rows.fnExactEvalLogicSpec) :=
  OpenClaim.holds_of_wide 8 Try.f8 rfl rfl rfl rfl rfl rfl rfl ⟨rfl, rfl, rfl, rfl, rfl⟩ rfl rfl rfl rfl rfl (by kernel_rfl) Try.func8 (by kernel_rfl)
    (of_decide_eq_true (by kernel_rfl)) (by unfold Func.isWrapper; first | (rw [if_pos (by decide +kernel)]; kernel_rfl) | (rw [if_neg (by decide +kernel)]; exact ⟨rfl, rfl⟩))
    (fun os started H enc _ => lifted os started H enc)
theorem proved : Rows.FnExactEvalLogicSaid := over
#print axioms proved
end Go.Proofs.Ytmphligplngeaaa.fnExactEvalLogic
namespace Go.Proofs.Ytmphligplngeaaa
/-- The row, under a short name, for the claim. -/
theorem fnExactEvalLogic_holds : Rows.FnExactEvalLogicSaid := fnExactEvalLogic.proved
end Go.Proofs.Ytmphligplngeaaa
