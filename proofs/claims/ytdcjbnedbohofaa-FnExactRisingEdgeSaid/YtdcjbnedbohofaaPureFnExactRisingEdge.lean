/- The law FnExactRisingEdge answers true for every two bools; no condition. -/
import Derived.Test.YtdcjbnedbohofaaPFnExactRisingEdgex1
namespace Go.Proofs.Ytdcjbnedbohofaa.Pure
open Go.RowKit Go.Proofs.Ytdcjbnedbohofaa.PFnExactRisingEdge Go.Proofs.YtdcjbnedbohofaaW.PrintWords Go.Proofs.YtdcjbnedbohofaaW.PrintLast

theorem FnExactRisingEdge : laws_FnExactRisingEdge.Pure := by
  intro a b
  cases a <;> cases b <;> rfl

end Go.Proofs.Ytdcjbnedbohofaa.Pure
