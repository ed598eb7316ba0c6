/- What the law FnExactEdgeTrace says of its Lean function, in numbers and lists alone; no condition but that each number is of its kind. -/
import Derived.Test.YtflemeaaiokjmaaPFnExactEdgeTracex2
namespace Go.Proofs.Ytflemeaaiokjmaa.fnExactEdgeTrace
open Go.RowKit Go.Proofs.Ytflemeaaiokjmaa.PFnExactEdgeTrace Go.Proofs.YtflemeaaiokjmaaW.PrintWords Go.Proofs.YtflemeaaiokjmaaW.PrintLast
set_option linter.unusedVariables false
def Pure : Prop := ∀ (a0 : Bool) (l1 : List Bool), (l1.length ≤ maxLen ∧ ∀ x ∈ l1, True) → ∃ k, laws_FnExactEdgeTrace.f k a0 l1 = some true
end Go.Proofs.Ytflemeaaiokjmaa.fnExactEdgeTrace
