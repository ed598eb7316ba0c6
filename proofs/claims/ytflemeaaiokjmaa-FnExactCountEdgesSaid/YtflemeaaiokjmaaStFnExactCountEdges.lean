/- What the law FnExactCountEdges says of its Lean function, in numbers and lists alone; no condition but that each number is of its kind. -/
import Derived.Test.YtflemeaaiokjmaaPFnExactCountEdgesx4
namespace Go.Proofs.Ytflemeaaiokjmaa.fnExactCountEdges
open Go.RowKit Go.Proofs.Ytflemeaaiokjmaa.PFnExactCountEdges Go.Proofs.YtflemeaaiokjmaaW.PrintWords Go.Proofs.YtflemeaaiokjmaaW.PrintLast
set_option linter.unusedVariables false
def Pure : Prop := ∀ (a0_0 : Int) (a0_1 : Int) (a0_2 : Bool) (a0_3 : Bool) (l1 : List Bool), (Lit.int .i64 a0_0).wf = true → (Lit.int .i64 a0_1).wf = true → (l1.length ≤ maxLen ∧ ∀ x ∈ l1, True) → ∃ k, laws_FnExactCountEdges.f k a0_0 a0_1 a0_2 a0_3 l1 = some true
end Go.Proofs.Ytflemeaaiokjmaa.fnExactCountEdges
