/- What the law FnExactStepDiagram says of its Lean function, in numbers and lists alone; no condition but that each number is of its kind. -/
import Derived.Test.YtpefkclpnkefnaaGFnExactStepDiagramx8
namespace Go.Proofs.Ytpefkclpnkefnaa.fnExactStepDiagram
open Go.RowKit Go.Proofs.Ytpefkclpnkefnaa.GFnExactStepDiagram Go.Proofs.YtpefkclpnkefnaaV.PrintWords Go.Proofs.YtpefkclpnkefnaaV.PrintLast
set_option linter.unusedVariables false
/-- What is known of a value of type 56. -/
def ok56 (x : S56) : Prop := (Lit.int .i64 x.f0).wf = true ∧ (Lit.int .i64 x.f1).wf = true ∧ (Lit.int .i64 x.f2).wf = true
def Pure : Prop := ∀ (l0 : List S56) (l1 : List Int) (l2 : List Int), (l0.length ≤ maxLen ∧ ∀ x ∈ l0, ok56 x) → (l1.length ≤ maxLen ∧ ∀ x ∈ l1, (Lit.int .i64 x).wf = true) → (l2.length ≤ maxLen ∧ ∀ x ∈ l2, (Lit.int .i64 x).wf = true) → ∃ k, laws_FnExactStepDiagram.f k l0 l1 l2 = some true
end Go.Proofs.Ytpefkclpnkefnaa.fnExactStepDiagram
