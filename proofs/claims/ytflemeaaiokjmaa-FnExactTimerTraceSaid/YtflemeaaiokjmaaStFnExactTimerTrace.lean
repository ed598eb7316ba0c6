/- What the law FnExactTimerTrace says of its Lean function, in numbers and lists alone; no condition but that each number is of its kind. -/
import Derived.Test.YtflemeaaiokjmaaGFnExactTimerTracex4
namespace Go.Proofs.Ytflemeaaiokjmaa.fnExactTimerTrace
open Go.RowKit Go.Proofs.Ytflemeaaiokjmaa.GFnExactTimerTrace Go.Proofs.YtflemeaaiokjmaaV.PrintWords Go.Proofs.YtflemeaaiokjmaaV.PrintLast
set_option linter.unusedVariables false
def Pure : Prop := ∀ (a0_0 : Int) (a0_1 : Int) (a0_2 : Int) (a0_3 : Bool) (a0_4 : Bool) (l1 : List Bool) (a2 : Int), (Lit.int .i64 a0_0).wf = true → (Lit.int .i64 a0_1).wf = true → (Lit.int .i64 a0_2).wf = true → (l1.length ≤ maxLen ∧ ∀ x ∈ l1, True) → (Lit.int .i64 a2).wf = true → ∃ k, laws_FnExactTimerTrace.f k a0_0 a0_1 a0_2 a0_3 a0_4 l1 a2 = some true
end Go.Proofs.Ytflemeaaiokjmaa.fnExactTimerTrace
