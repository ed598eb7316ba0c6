/- What the law FnExactScaleWord says of its Lean function, in numbers and lists alone; no condition but that each number is of its kind. -/
import Derived.Test.YtimmlippglpmnaaGFnExactScaleWordx1
namespace Go.Proofs.Ytimmlippglpmnaa.fnExactScaleWord
open Go.RowKit Go.Proofs.Ytimmlippglpmnaa.GFnExactScaleWord Go.Proofs.YtimmlippglpmnaaV.PrintWords Go.Proofs.YtimmlippglpmnaaV.PrintLast
set_option linter.unusedVariables false
def Pure : Prop := ∀ (a0 : Int) (a1 : Int) (a2 : Int) (a3 : Int) (a4 : Int), (Lit.int .i64 a0).wf = true → (Lit.int .i64 a1).wf = true → (Lit.int .i64 a2).wf = true → (Lit.int .i64 a3).wf = true → (Lit.int .i64 a4).wf = true → ∃ k, laws_FnExactScaleWord.f k a0 a1 a2 a3 a4 = some true
end Go.Proofs.Ytimmlippglpmnaa.fnExactScaleWord
