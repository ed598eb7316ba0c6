/- What the law FnRisingEdge says of its Lean function, in numbers and lists alone; no condition but that each number is of its kind. -/
import Derived.Test.YtdcjbnedbohofaaGFnRisingEdgex1
namespace Go.Proofs.Ytdcjbnedbohofaa.fnRisingEdge
open Go.RowKit Go.Proofs.Ytdcjbnedbohofaa.GFnRisingEdge Go.Proofs.YtdcjbnedbohofaaV.PrintWords Go.Proofs.YtdcjbnedbohofaaV.PrintLast
set_option linter.unusedVariables false
def Pure : Prop := ∀ (l0 : List Int), (l0.length ≤ maxLen ∧ ∀ x ∈ l0, (Lit.int .u8 x).wf = true) → ∃ k, laws_FnRisingEdge.f k l0 = some true
end Go.Proofs.Ytdcjbnedbohofaa.fnRisingEdge
