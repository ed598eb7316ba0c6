/- What the law FnExactImageValid says of its Lean function, in numbers and lists alone; no condition but that each number is of its kind. -/
import Derived.Test.YtmlhkalgaeemaaaGFnExactImageValidx2
namespace Go.Proofs.Ytmlhkalgaeemaaa.fnExactImageValid
open Go.RowKit Go.Proofs.Ytmlhkalgaeemaaa.GFnExactImageValid Go.Proofs.YtmlhkalgaeemaaaV.PrintWords Go.Proofs.YtmlhkalgaeemaaaV.PrintLast
set_option linter.unusedVariables false
def Pure : Prop := ∀ (l0_0 : List Bool) (l0_1 : List Int), (l0_0.length ≤ maxLen ∧ ∀ x ∈ l0_0, True) → (l0_1.length ≤ maxLen ∧ ∀ x ∈ l0_1, (Lit.int .i64 x).wf = true) → ∃ k, laws_FnExactImageValid.f k l0_0 l0_1 = some true
end Go.Proofs.Ytmlhkalgaeemaaa.fnExactImageValid
