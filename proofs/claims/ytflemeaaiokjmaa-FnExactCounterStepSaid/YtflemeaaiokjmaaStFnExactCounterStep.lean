/- What the law FnExactCounterStep says of its Lean function, in numbers and lists alone; no condition but that each number is of its kind. -/
import Derived.Test.YtflemeaaiokjmaaPFnExactCounterStepx2
namespace Go.Proofs.Ytflemeaaiokjmaa.fnExactCounterStep
open Go.RowKit Go.Proofs.Ytflemeaaiokjmaa.PFnExactCounterStep Go.Proofs.YtflemeaaiokjmaaW.PrintWords Go.Proofs.YtflemeaaiokjmaaW.PrintLast
set_option linter.unusedVariables false
def Pure : Prop := ∀ (a0_0 : Int) (a0_1 : Int) (a0_2 : Bool) (a0_3 : Bool) (a1 : Bool) (a2 : Bool) (a3 : Bool) (a4 : Bool), (Lit.int .i64 a0_0).wf = true → (Lit.int .i64 a0_1).wf = true → ∃ k, laws_FnExactCounterStep.f k a0_0 a0_1 a0_2 a0_3 a1 a2 a3 a4 = some true
end Go.Proofs.Ytflemeaaiokjmaa.fnExactCounterStep
