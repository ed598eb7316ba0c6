/- What the law FnExactChangedBits says of its Lean function, in numbers and lists alone; no condition but that each number is of its kind. -/
import Derived.Test.YtmlhkalgaeemaaaGFnExactChangedBitsx4
namespace Go.Proofs.Ytmlhkalgaeemaaa.fnExactChangedBits
open Go.RowKit Go.Proofs.Ytmlhkalgaeemaaa.GFnExactChangedBits Go.Proofs.YtmlhkalgaeemaaaV.PrintWords Go.Proofs.YtmlhkalgaeemaaaV.PrintLast
set_option linter.unusedVariables false
def Pure : Prop := ∀ (l0_0 : List Bool) (l0_1 : List Int) (l1_0 : List Bool) (l1_1 : List Int), (l0_0.length ≤ maxLen ∧ ∀ x ∈ l0_0, True) → (l0_1.length ≤ maxLen ∧ ∀ x ∈ l0_1, (Lit.int .i64 x).wf = true) → (l1_0.length ≤ maxLen ∧ ∀ x ∈ l1_0, True) → (l1_1.length ≤ maxLen ∧ ∀ x ∈ l1_1, (Lit.int .i64 x).wf = true) → ∃ k, laws_FnExactChangedBits.f k l0_0 l0_1 l1_0 l1_1 = some true
end Go.Proofs.Ytmlhkalgaeemaaa.fnExactChangedBits
