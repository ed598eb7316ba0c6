/- What the law FnExactEvalLogic says of its Lean function, in numbers and lists alone; no condition but that each number is of its kind. -/
import Derived.Test.YtmphligplngeaaaGFnExactEvalLogicx7
namespace Go.Proofs.Ytmphligplngeaaa.fnExactEvalLogic
open Go.RowKit Go.Proofs.Ytmphligplngeaaa.GFnExactEvalLogic Go.Proofs.YtmphligplngeaaaV.PrintWords Go.Proofs.YtmphligplngeaaaV.PrintLast
set_option linter.unusedVariables false
/-- What is known of a value of type 71. -/
def ok71 (x : S71) : Prop := (Lit.int .i64 x.f0).wf = true ∧ (Lit.int .i64 x.f1).wf = true
def Pure : Prop := ∀ (l0_0 : List Bool) (l0_1 : List Int) (l1 : List S71), (l0_0.length ≤ maxLen ∧ ∀ x ∈ l0_0, True) → (l0_1.length ≤ maxLen ∧ ∀ x ∈ l0_1, (Lit.int .i64 x).wf = true) → (l1.length ≤ maxLen ∧ ∀ x ∈ l1, ok71 x) → ∃ k, laws_FnExactEvalLogic.f k l0_0 l0_1 l1 = some true
end Go.Proofs.Ytmphligplngeaaa.fnExactEvalLogic
