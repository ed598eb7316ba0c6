/- What the law FnResetDominant says of its Lean function, in numbers and lists alone; no condition but that each number is of its kind. -/
import Derived.Test.YtflemeaaiokjmaaPFnResetDominantx1
namespace Go.Proofs.Ytflemeaaiokjmaa.fnResetDominant
open Go.RowKit Go.Proofs.Ytflemeaaiokjmaa.PFnResetDominant Go.Proofs.YtflemeaaiokjmaaW.PrintWords Go.Proofs.YtflemeaaiokjmaaW.PrintLast
set_option linter.unusedVariables false
def Pure : Prop := ∀ (l0 : List Int), (l0.length ≤ maxLen ∧ ∀ x ∈ l0, (Lit.int .u8 x).wf = true) → ∃ k, laws_FnResetDominant.f k l0 = some true
end Go.Proofs.Ytflemeaaiokjmaa.fnResetDominant
