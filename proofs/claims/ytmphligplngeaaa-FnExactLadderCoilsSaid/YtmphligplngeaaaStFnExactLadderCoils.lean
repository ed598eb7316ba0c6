/- What the law FnExactLadderCoils says of its Lean function, in numbers and lists alone; no condition but that each number is of its kind. -/
import Derived.Test.YtmphligplngeaaaGFnExactLadderCoilsx4
namespace Go.Proofs.Ytmphligplngeaaa.fnExactLadderCoils
open Go.RowKit Go.Proofs.Ytmphligplngeaaa.GFnExactLadderCoils Go.Proofs.YtmphligplngeaaaV.PrintWords Go.Proofs.YtmphligplngeaaaV.PrintLast
set_option linter.unusedVariables false
/-- What is known of a value of type 71. -/
def ok71 (x : S71) : Prop := (Lit.int .i64 x.f0).wf = true ∧ (Lit.int .i64 x.f1).wf = true
/-- What is known of a value of type 58. -/
def ok58 (x : S58) : Prop := (x.f0.length ≤ maxLen ∧ ∀ y ∈ x.f0, ok71 y) ∧ (Lit.int .i64 x.f1).wf = true ∧ (Lit.int .i64 x.f2).wf = true
def Pure : Prop := ∀ (l0 : List S58), (l0.length ≤ maxLen ∧ ∀ x ∈ l0, ok58 x) → ∃ k, laws_FnExactLadderCoils.f k l0 = some true
end Go.Proofs.Ytmphligplngeaaa.fnExactLadderCoils
