/- What the law FnExactEvaluationOrder says of its Lean function, in numbers and lists alone; no condition but that each number is of its kind. -/
import Derived.Test.YtpefkclpnkefnaaGFnExactEvaluationOrderx5
namespace Go.Proofs.Ytpefkclpnkefnaa.fnExactEvaluationOrder
open Go.RowKit Go.Proofs.Ytpefkclpnkefnaa.GFnExactEvaluationOrder Go.Proofs.YtpefkclpnkefnaaV.PrintWords Go.Proofs.YtpefkclpnkefnaaV.PrintLast
set_option linter.unusedVariables false
/-- What is known of a value of type 56. -/
def ok56 (x : S56) : Prop := (Lit.int .i64 x.f0).wf = true ∧ (Lit.int .i64 x.f1).wf = true ∧ (Lit.int .i64 x.f2).wf = true
def Pure : Prop := ∀ (l0 : List S56) (a1 : Int), (l0.length ≤ maxLen ∧ ∀ x ∈ l0, ok56 x) → (Lit.int .i64 a1).wf = true → ∃ k, laws_FnExactEvaluationOrder.f k l0 a1 = some true
end Go.Proofs.Ytpefkclpnkefnaa.fnExactEvaluationOrder
