/- What the law FnExactGetWord says of its Lean function, in numbers and lists alone; no condition but that each number is of its kind. -/
import Derived.Test.YtflemeaaiokjmaaPFnExactGetWordx2
namespace Go.Proofs.Ytflemeaaiokjmaa.fnExactGetWord
open Go.RowKit Go.Proofs.Ytflemeaaiokjmaa.PFnExactGetWord Go.Proofs.YtflemeaaiokjmaaW.PrintWords Go.Proofs.YtflemeaaiokjmaaW.PrintLast
set_option linter.unusedVariables false
def Pure : Prop := ∀ (l0_0 : List Bool) (l0_1 : List Int) (a1 : Int), (l0_0.length ≤ maxLen ∧ ∀ x ∈ l0_0, True) → (l0_1.length ≤ maxLen ∧ ∀ x ∈ l0_1, (Lit.int .i64 x).wf = true) → (Lit.int .i64 a1).wf = true → ∃ k, laws_FnExactGetWord.f k l0_0 l0_1 a1 = some true
end Go.Proofs.Ytflemeaaiokjmaa.fnExactGetWord
