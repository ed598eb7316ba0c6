/- What the law FnTimerPulse says of its Lean function, in numbers and lists alone; no condition but that each number is of its kind. -/
import Derived.Test.YtflemeaaiokjmaaGFnTimerPulsex5
namespace Go.Proofs.Ytflemeaaiokjmaa.fnTimerPulse
open Go.RowKit Go.Proofs.Ytflemeaaiokjmaa.GFnTimerPulse Go.Proofs.YtflemeaaiokjmaaV.PrintWords Go.Proofs.YtflemeaaiokjmaaV.PrintLast
set_option linter.unusedVariables false
def Pure : Prop := ∀ (l0 : List Int) (l1 : List Int), (l0.length ≤ maxLen ∧ ∀ x ∈ l0, (Lit.int .u8 x).wf = true) → (l1.length ≤ maxLen ∧ ∀ x ∈ l1, (Lit.int .u8 x).wf = true) → ∃ k, laws_FnTimerPulse.f k l0 l1 = some true
end Go.Proofs.Ytflemeaaiokjmaa.fnTimerPulse
