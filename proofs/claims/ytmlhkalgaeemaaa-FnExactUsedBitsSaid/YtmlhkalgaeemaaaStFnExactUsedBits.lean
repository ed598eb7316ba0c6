/- What the law FnExactUsedBits says of its Lean function, in numbers and lists alone; no condition but that each number is of its kind. -/
import Derived.Test.YtmlhkalgaeemaaaGFnExactUsedBitsx4
namespace Go.Proofs.Ytmlhkalgaeemaaa.fnExactUsedBits
open Go.RowKit Go.Proofs.Ytmlhkalgaeemaaa.GFnExactUsedBits Go.Proofs.YtmlhkalgaeemaaaV.PrintWords Go.Proofs.YtmlhkalgaeemaaaV.PrintLast
set_option linter.unusedVariables false
/-- What is known of a value of type 77. -/
def ok77 (x : S77) : Prop := (Lit.int .i64 x.f0).wf = true ∧ (Lit.int .i64 x.f1).wf = true
def Pure : Prop := ∀ (l0 : List S77), (l0.length ≤ maxLen ∧ ∀ x ∈ l0, ok77 x) → ∃ k, laws_FnExactUsedBits.f k l0 = some true
end Go.Proofs.Ytmlhkalgaeemaaa.fnExactUsedBits
