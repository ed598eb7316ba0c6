/- What the law FnExactMedianOf says of its Lean function, in numbers and lists alone; no condition but that each number is of its kind. -/
import Derived.Test.YtpefkclpnkefnaaGFnExactMedianOfx2
namespace Go.Proofs.Ytpefkclpnkefnaa.fnExactMedianOf
open Go.RowKit Go.Proofs.Ytpefkclpnkefnaa.GFnExactMedianOf Go.Proofs.YtpefkclpnkefnaaV.PrintWords Go.Proofs.YtpefkclpnkefnaaV.PrintLast
set_option linter.unusedVariables false
def Pure : Prop := ∀ (l0 : List Int), (l0.length ≤ maxLen ∧ ∀ x ∈ l0, (Lit.int .i64 x).wf = true) → ∃ k, laws_FnExactMedianOf.f k l0 = some true
end Go.Proofs.Ytpefkclpnkefnaa.fnExactMedianOf
