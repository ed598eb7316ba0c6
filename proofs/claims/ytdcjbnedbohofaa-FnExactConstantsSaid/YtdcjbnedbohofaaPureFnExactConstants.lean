/- The law FnExactConstants answers true; no condition. -/
import Derived.Test.YtdcjbnedbohofaaPFnExactConstantsx1
namespace Go.Proofs.Ytdcjbnedbohofaa.Pure
open Go.RowKit Go.Proofs.Ytdcjbnedbohofaa.PFnExactConstants Go.Proofs.YtdcjbnedbohofaaW.PrintWords Go.Proofs.YtdcjbnedbohofaaW.PrintLast

theorem FnExactConstants : laws_FnExactConstants.Pure := by
  unfold laws_FnExactConstants.Pure laws_FnExactConstants.f
  rfl

end Go.Proofs.Ytdcjbnedbohofaa.Pure
