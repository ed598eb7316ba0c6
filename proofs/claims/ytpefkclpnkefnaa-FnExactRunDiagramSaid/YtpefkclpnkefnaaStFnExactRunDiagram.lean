/- What the law FnExactRunDiagram says of its Lean function, in numbers and lists alone; no condition but that each number is of its kind. -/
import Derived.Test.YtpefkclpnkefnaaGFnExactRunDiagramx11
namespace Go.Proofs.Ytpefkclpnkefnaa.fnExactRunDiagram
open Go.RowKit Go.Proofs.Ytpefkclpnkefnaa.GFnExactRunDiagram Go.Proofs.YtpefkclpnkefnaaV.PrintWords Go.Proofs.YtpefkclpnkefnaaV.PrintLast
set_option linter.unusedVariables false
/-- What is known of a value of type 56. -/
def ok56 (x : S56) : Prop := (Lit.int .i64 x.f0).wf = true ∧ (Lit.int .i64 x.f1).wf = true ∧ (Lit.int .i64 x.f2).wf = true
def Pure : Prop := ∀ (l0 : List S56) (l1 : List (List Int)), (l0.length ≤ maxLen ∧ ∀ x ∈ l0, ok56 x) → (l1.length ≤ maxLen ∧ ∀ x ∈ l1, (x.length ≤ maxLen ∧ ∀ y ∈ x, (Lit.int .i64 y).wf = true)) → ∃ k, laws_FnExactRunDiagram.f k l0 l1 = some true
end Go.Proofs.Ytpefkclpnkefnaa.fnExactRunDiagram
