/- What the law FnExactStatementTokens says of its Lean function, in numbers and lists alone; no condition but that each number is of its kind. -/
import Derived.Test.YtflemeaaiokjmaaGFnExactStatementTokensx5
namespace Go.Proofs.Ytflemeaaiokjmaa.fnExactStatementTokens
open Go.RowKit Go.Proofs.Ytflemeaaiokjmaa.GFnExactStatementTokens Go.Proofs.YtflemeaaiokjmaaV.PrintWords Go.Proofs.YtflemeaaiokjmaaV.PrintLast
set_option linter.unusedVariables false
def Pure : Prop := ∀ (a0 : ByteArray), a0.size ≤ 140737488351232 → ∃ k, laws_FnExactStatementTokens.f k a0 = some true
end Go.Proofs.Ytflemeaaiokjmaa.fnExactStatementTokens
