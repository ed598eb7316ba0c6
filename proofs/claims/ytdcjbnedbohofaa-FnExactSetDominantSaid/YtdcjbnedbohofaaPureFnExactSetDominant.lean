/- The law FnExactSetDominant answers true for every three bools; no condition. -/
import Derived.Test.YtdcjbnedbohofaaPFnExactSetDominantx1
namespace Go.Proofs.Ytdcjbnedbohofaa.Pure
open Go.RowKit Go.Proofs.Ytdcjbnedbohofaa.PFnExactSetDominant Go.Proofs.YtdcjbnedbohofaaW.PrintWords Go.Proofs.YtdcjbnedbohofaaW.PrintLast

theorem FnExactSetDominant : laws_FnExactSetDominant.Pure := by
  intro a b c
  cases a <;> cases b <;> cases c <;> rfl

end Go.Proofs.Ytdcjbnedbohofaa.Pure
