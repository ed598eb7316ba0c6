/- What the law FnExactAddSaturated says of its Lean function, in numbers and lists alone; no condition but that each number is of its kind. -/
import Derived.Test.YtimmlippglpmnaaGFnExactAddSaturatedx1
namespace Go.Proofs.Ytimmlippglpmnaa.fnExactAddSaturated
open Go.RowKit Go.Proofs.Ytimmlippglpmnaa.GFnExactAddSaturated Go.Proofs.YtimmlippglpmnaaV.PrintWords Go.Proofs.YtimmlippglpmnaaV.PrintLast
set_option linter.unusedVariables false
def Pure : Prop := ∀ (a0 : Int) (a1 : Int), (Lit.int .i64 a0).wf = true → (Lit.int .i64 a1).wf = true → laws_FnExactAddSaturated.f a0 a1 = some true
end Go.Proofs.Ytimmlippglpmnaa.fnExactAddSaturated
