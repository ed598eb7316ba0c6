/- What the law FnExactControlTrace says of its Lean function, in numbers and lists alone; no condition but that each number is of its kind. -/
import Derived.Test.YtimmlippglpmnaaGFnExactControlTracex5
namespace Go.Proofs.Ytimmlippglpmnaa.fnExactControlTrace
open Go.RowKit Go.Proofs.Ytimmlippglpmnaa.GFnExactControlTrace Go.Proofs.YtimmlippglpmnaaV.PrintWords Go.Proofs.YtimmlippglpmnaaV.PrintLast
set_option linter.unusedVariables false
def Pure : Prop := ∀ (a0_0 : Int) (a0_1 : Int) (a0_2 : Int) (a0_3 : Int) (a0_4 : Int) (a0_5 : Int) (a0_6 : Int) (a1 : Int) (l2 : List Int), (Lit.int .i64 a0_0).wf = true → (Lit.int .i64 a0_1).wf = true → (Lit.int .i64 a0_2).wf = true → (Lit.int .i64 a0_3).wf = true → (Lit.int .i64 a0_4).wf = true → (Lit.int .i64 a0_5).wf = true → (Lit.int .i64 a0_6).wf = true → (Lit.int .i64 a1).wf = true → (l2.length ≤ maxLen ∧ ∀ x ∈ l2, (Lit.int .i64 x).wf = true) → ∃ k, laws_FnExactControlTrace.f k a0_0 a0_1 a0_2 a0_3 a0_4 a0_5 a0_6 a1 l2 = some true
end Go.Proofs.Ytimmlippglpmnaa.fnExactControlTrace
