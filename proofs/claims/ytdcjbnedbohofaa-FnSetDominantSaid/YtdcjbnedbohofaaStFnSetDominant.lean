/- What the law FnSetDominant says of its Lean function, in numbers and lists alone; no condition but that each number is of its kind. -/
import Derived.Test.YtdcjbnedbohofaaPFnSetDominantx1
namespace Go.Proofs.Ytdcjbnedbohofaa.fnSetDominant
open Go.RowKit Go.Proofs.Ytdcjbnedbohofaa.PFnSetDominant Go.Proofs.YtdcjbnedbohofaaW.PrintWords Go.Proofs.YtdcjbnedbohofaaW.PrintLast
set_option linter.unusedVariables false
def Pure : Prop := ∀ (l0 : List Int), (l0.length ≤ maxLen ∧ ∀ x ∈ l0, (Lit.int .u8 x).wf = true) → ∃ k, laws_FnSetDominant.f k l0 = some true
end Go.Proofs.Ytdcjbnedbohofaa.fnSetDominant
