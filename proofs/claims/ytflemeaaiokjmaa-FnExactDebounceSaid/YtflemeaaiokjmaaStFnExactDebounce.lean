/- What the law FnExactDebounce says of its Lean function, in numbers and lists alone; no condition but that each number is of its kind. -/
import Derived.Test.YtflemeaaiokjmaaPFnExactDebouncex2
namespace Go.Proofs.Ytflemeaaiokjmaa.fnExactDebounce
open Go.RowKit Go.Proofs.Ytflemeaaiokjmaa.PFnExactDebounce Go.Proofs.YtflemeaaiokjmaaW.PrintWords Go.Proofs.YtflemeaaiokjmaaW.PrintLast
set_option linter.unusedVariables false
def Pure : Prop := ∀ (a0 : Bool) (l1 : List Bool) (a2 : Int), (l1.length ≤ maxLen ∧ ∀ x ∈ l1, True) → (Lit.int .i64 a2).wf = true → ∃ k, laws_FnExactDebounce.f k a0 l1 a2 = some true
end Go.Proofs.Ytflemeaaiokjmaa.fnExactDebounce
