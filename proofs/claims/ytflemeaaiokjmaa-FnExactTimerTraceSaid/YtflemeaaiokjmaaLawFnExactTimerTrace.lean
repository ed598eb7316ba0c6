/- The statement FnExactTimerTraceSaid: whatever the input, the law returns true, and each argument reads as before; no condition. -/
import Derived.Test.YtflemeaaiokjmaaRows
import Derived.Test.YtflemeaaiokjmaaGFnExactTimerTracex4
import Derived.Test.YtflemeaaiokjmaaOpnV
import Derived.Test.YtflemeaaiokjmaaPureFnExactTimerTrace
import Derived.WalkKit
import Derived.ProofKit
import Derived.OpenShut
import Derived.ShutString
import Derived.ChangeOld
import Derived.Below
import Derived.SizedLaws
import Derived.Carry
namespace Go.Proofs.Ytflemeaaiokjmaa.fnExactTimerTrace
open Go.ChangeShapes Go.WideShapes Go.ChangeAt Go.RowKit Go.Deep
open Go.ChangeMaps (open_string shut_string)
open Go.Proofs.Ytflemeaaiokjmaa.GFnExactTimerTrace Go.Proofs.YtflemeaaiokjmaaV.PrintWords Go.Proofs.YtflemeaaiokjmaaV.PrintLast Go.Proofs.Ytflemeaaiokjmaa.OpnV
set_option linter.unusedVariables false
theorem own : ownKnob Try.prog.godebug = none := by kernel_rfl
theorem laidOut : laidOutB Try.prog = true := by kernel_rfl
set_option maxRecDepth 100000 in
theorem lifted (os : Os) (started : os.Started) (H : Type) (enc : TypeId × Value → H) :
    ReturnsInHanded {} Try.checked os 12 .any (Rows.fnExactTimerTraceSpec.pre6 enc Try.prog Try.f12 Rows.fnExactTimerTraceRow.domain false) (Rows.fnExactTimerTraceSpec.post enc Try.prog Try.f12 false true false false) := by
  refine returnsInHanded_of_change_sized (C := Try.checked) own started (by kernel_rfl) Try.func12
    (ChangeSpec.witness6 (enc := enc) (C := Try.checked) false ⟨#[], #[.agg #[.int .i64 0, .int .i64 0, .int .i64 0, .bool false, .bool false], .slice none 0 0, .int .i64 0], []⟩ 8 (by kernel_rfl) (by kernel_rfl) (by kernel_rfl) (by kernel_rfl)) ?_
  intro W base args ds gs before hval0 hW hcnd hsz0 _
  have hsz : (DataW.weightsEach Try.prog (Try.f12.params.toList ++ Rows.fnExactTimerTraceSpec.plain.varTypes Try.prog) (ds ++ gs)).all (· ≤ reachBytes) = true := hsz0
  have hval : ∀ (j : Nat) t v, Try.f12.params[j]? = some t → args[j]? = some v → Value.okWide Try.prog W .any base t v := hval0
  have hW' := hW
  obtain ⟨p, q, hA0, hV, rfl, hfz, hnd⟩ := hW
  have hA : DataW.TrodAll enc Try.prog W 0 (fun _ => true) true Try.f12.params.toList args.toList ds p := hA0
  rw [Try.params12] at hA hval hsz
  obtain ⟨v0, vs0, d0, ds0, p0, q0, hargs, rfl, rfl, h0, r0⟩ := trodAll_cons hA
  obtain ⟨v1, vs1, d1, ds1, p1, q1, rfl, rfl, rfl, h1, r1⟩ := trodAll_cons r0
  obtain ⟨v2, vs2, d2, ds2, p2, q2, rfl, rfl, rfl, h2, r2⟩ := trodAll_cons r1
  obtain ⟨rfl, rfl, rfl⟩ := trodAll_nil r2
  obtain rfl : args = #[v0, v1, v2] := by cases args; simp_all
  obtain ⟨rfl, rfl⟩ := trodVars_none hV
  have k0 := h0
  have lt0 : ∀ x ∈ p0, x.block < W.heap.size := by obtain ⟨m, hm⟩ := k0; exact DataW.trod_lt m _ _ _ hm
  obtain ⟨cs0, rfl, _⟩ := okWide_struct Try.underlying59 (hval 0 59 v0 rfl rfl)
  obtain ⟨fuel0, hf0⟩ := h0
  obtain ⟨x0, hK0, w0⟩ := opens_struct Try.underlying59 (by kernel_rfl) (opensFrom_cons (opens_int Try.underlying3) rfl (by kernel_rfl) (opensFrom_cons (opens_int Try.underlying3) rfl (by kernel_rfl) (opensFrom_cons (opens_int Try.underlying3) rfl (by kernel_rfl) (opensFrom_cons (opens_bool Try.underlying4) rfl (by kernel_rfl) (opensFrom_last (opens_bool Try.underlying4) rfl (by kernel_rfl)))))) H enc W 0 _ true fuel0 _ _ hf0
  obtain ⟨_, _, e0, rfl, ⟨_, _, rfl, rfl, ⟨_, _, rfl, rfl, ⟨_, _, rfl, rfl, rfl⟩⟩⟩⟩ := hK0
  obtain rfl : cs0 = #[.int .i64 (x0.1), .int .i64 (x0.2.1), .int .i64 (x0.2.2.1), .bool (x0.2.2.2.1), .bool (x0.2.2.2.2)] := by
    have e_ := congrArg List.toArray e0
    simpa [Value.cells] using e_
  have k1 := h1
  have lt1 : ∀ x ∈ p1, x.block < W.heap.size := by obtain ⟨m, hm⟩ := k1; exact DataW.trod_lt m _ _ _ hm
  obtain ⟨A1, len1, c1, rfl⟩ := okWide_slice Try.underlying32 (hval 1 32 v1 rfl rfl)
  obtain ⟨l1, rfl, hc1, hr1, w1⟩ := opens_arg_slice (opens_slice Try.underlying32 (by kernel_rfl) (opens_bool Try.underlying4)) h1
  obtain ⟨a2, rfl, rfl, rfl, w2⟩ := open_int Try.underlying3 (hval 2 3 v2 rfl rfl) h2
  clear hA0 hval0 hsz0 hsz
  obtain ⟨k, h⟩ := pure_holds (x0.1) (x0.2.1) (x0.2.2.1) (x0.2.2.2.1) (x0.2.2.2.2) l1 a2 w0.1 w0.2.1 w0.2.2.1 w1 w2
  refine (laws_FnExactTimerTrace.calls k (x0.1) (x0.2.1) (x0.2.2.1) (x0.2.2.2.1) (x0.2.2.2.2) A1 c1 l1 a2 true W hr1 hc1 h).mono fun e W' => ?_
  rintro ⟨rfl, bel0⟩
  have bel : Below W.heap.size W W' := bel0
  exact ⟨_, rfl, _, _, _, [], _, [], hW', trodAll_mk1 (shut_bool Try.underlying4 _), (trodAll_cons_mk (Below.trod laidOut (by kernel_rfl) (of_decide_eq_true (by kernel_rfl)) k0 bel lt0) (trodAll_cons_mk (Below.trod laidOut (by kernel_rfl) (of_decide_eq_true (by kernel_rfl)) k1 bel lt1) (trodAll_cons_mk (shut_int Try.underlying3 w2) trodAll_mk0))), rfl, bel.frame _, fun h => by cases h⟩
theorem over : Rows.fnExactTimerTraceRow.holds Try.pinned (OpenSpec.ofChange Rows.fnExactTimerTraceSpec) :=
  OpenClaim.holds_of_wide 12 Try.f12 rfl rfl rfl rfl rfl rfl rfl ⟨rfl, rfl, rfl, rfl, rfl⟩ rfl rfl rfl rfl rfl (by kernel_rfl) Try.func12 (by kernel_rfl)
    (of_decide_eq_true (by kernel_rfl)) (by unfold Func.isWrapper; first | (rw [if_pos (by decide +kernel)]; kernel_rfl) | (rw [if_neg (by decide +kernel)]; exact ⟨rfl, rfl⟩))
    (fun os started H enc _ => lifted os started H enc)
theorem proved : Rows.FnExactTimerTraceSaid := over
#print axioms proved
end Go.Proofs.Ytflemeaaiokjmaa.fnExactTimerTrace
namespace Go.Proofs.Ytflemeaaiokjmaa
/-- The row, under a short name, for the claim. -/
theorem fnExactTimerTrace_holds : Rows.FnExactTimerTraceSaid := fnExactTimerTrace.proved
end Go.Proofs.Ytflemeaaiokjmaa
