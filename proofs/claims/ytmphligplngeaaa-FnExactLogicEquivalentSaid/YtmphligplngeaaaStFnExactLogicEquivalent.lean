/- What the law FnExactLogicEquivalent says of its Lean function, in numbers and lists alone; no condition but that each number is of its kind. -/
import Derived.Test.YtmphligplngeaaaGFnExactLogicEquivalentx7
namespace Go.Proofs.Ytmphligplngeaaa.fnExactLogicEquivalent
open Go.RowKit Go.Proofs.Ytmphligplngeaaa.GFnExactLogicEquivalent Go.Proofs.YtmphligplngeaaaV.PrintWords Go.Proofs.YtmphligplngeaaaV.PrintLast
set_option linter.unusedVariables false
/-- What is known of a value of type 71. -/
def ok71 (x : S71) : Prop := (Lit.int .i64 x.f0).wf = true ∧ (Lit.int .i64 x.f1).wf = true
def Pure : Prop := ∀ (l0 : List S71) (l1 : List S71) (a2 : Int), (l0.length ≤ maxLen ∧ ∀ x ∈ l0, ok71 x) → (l1.length ≤ maxLen ∧ ∀ x ∈ l1, ok71 x) → (Lit.int .i64 a2).wf = true → ∃ k, laws_FnExactLogicEquivalent.f k l0 l1 a2 = some true
end Go.Proofs.Ytmphligplngeaaa.fnExactLogicEquivalent
