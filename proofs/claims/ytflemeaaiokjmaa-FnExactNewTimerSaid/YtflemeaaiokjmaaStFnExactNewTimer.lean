/- What the law FnExactNewTimer says of its Lean function, in numbers and lists alone; no condition but that each number is of its kind. -/
import Derived.Test.YtflemeaaiokjmaaPFnExactNewTimerx1
namespace Go.Proofs.Ytflemeaaiokjmaa.fnExactNewTimer
open Go.RowKit Go.Proofs.Ytflemeaaiokjmaa.PFnExactNewTimer Go.Proofs.YtflemeaaiokjmaaW.PrintWords Go.Proofs.YtflemeaaiokjmaaW.PrintLast
set_option linter.unusedVariables false
def Pure : Prop := ∀ (a0 : Int) (a1 : Int), (Lit.int .i64 a0).wf = true → (Lit.int .i64 a1).wf = true → laws_FnExactNewTimer.f a0 a1 = some true
end Go.Proofs.Ytflemeaaiokjmaa.fnExactNewTimer
