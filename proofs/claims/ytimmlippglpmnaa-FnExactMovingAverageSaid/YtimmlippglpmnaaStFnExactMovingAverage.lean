/- What the law FnExactMovingAverage says of its Lean function, in numbers and lists alone; no condition but that each number is of its kind. -/
import Derived.Test.YtimmlippglpmnaaGFnExactMovingAveragex3
namespace Go.Proofs.Ytimmlippglpmnaa.fnExactMovingAverage
open Go.RowKit Go.Proofs.Ytimmlippglpmnaa.GFnExactMovingAverage Go.Proofs.YtimmlippglpmnaaV.PrintWords Go.Proofs.YtimmlippglpmnaaV.PrintLast
set_option linter.unusedVariables false
def Pure : Prop := ∀ (l0 : List Int) (a1 : Int), (l0.length ≤ maxLen ∧ ∀ x ∈ l0, (Lit.int .i64 x).wf = true) → (Lit.int .i64 a1).wf = true → ∃ k, laws_FnExactMovingAverage.f k l0 a1 = some true
end Go.Proofs.Ytimmlippglpmnaa.fnExactMovingAverage
