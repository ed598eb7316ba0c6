/- What the law FnExactRampStep says of its Lean function, in numbers and lists alone; no condition but that each number is of its kind. -/
import Derived.Test.YtimmlippglpmnaaGFnExactRampStepx1
namespace Go.Proofs.Ytimmlippglpmnaa.fnExactRampStep
open Go.RowKit Go.Proofs.Ytimmlippglpmnaa.GFnExactRampStep Go.Proofs.YtimmlippglpmnaaV.PrintWords Go.Proofs.YtimmlippglpmnaaV.PrintLast
set_option linter.unusedVariables false
def Pure : Prop := ∀ (a0 : Int) (a1 : Int) (a2 : Int), (Lit.int .i64 a0).wf = true → (Lit.int .i64 a1).wf = true → (Lit.int .i64 a2).wf = true → ∃ k, laws_FnExactRampStep.f k a0 a1 a2 = some true
end Go.Proofs.Ytimmlippglpmnaa.fnExactRampStep
