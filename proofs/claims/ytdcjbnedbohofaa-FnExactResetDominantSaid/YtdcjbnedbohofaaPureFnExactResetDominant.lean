/- The law FnExactResetDominant answers true for every three bools; no condition. -/
import Derived.Test.YtdcjbnedbohofaaPFnExactResetDominantx1
namespace Go.Proofs.Ytdcjbnedbohofaa.Pure
open Go.RowKit Go.Proofs.Ytdcjbnedbohofaa.PFnExactResetDominant Go.Proofs.YtdcjbnedbohofaaW.PrintWords Go.Proofs.YtdcjbnedbohofaaW.PrintLast

theorem FnExactResetDominant : laws_FnExactResetDominant.Pure := by
  intro a b c
  cases a <;> cases b <;> cases c <;> rfl

end Go.Proofs.Ytdcjbnedbohofaa.Pure
