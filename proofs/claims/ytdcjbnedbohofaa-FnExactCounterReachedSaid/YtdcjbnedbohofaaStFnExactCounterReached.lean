/- What the law FnExactCounterReached says of its Lean function, in numbers and lists alone; no condition but that each number is of its kind. -/
import Derived.Test.YtdcjbnedbohofaaPFnExactCounterReachedx1
namespace Go.Proofs.Ytdcjbnedbohofaa.fnExactCounterReached
open Go.RowKit Go.Proofs.Ytdcjbnedbohofaa.PFnExactCounterReached Go.Proofs.YtdcjbnedbohofaaW.PrintWords Go.Proofs.YtdcjbnedbohofaaW.PrintLast
set_option linter.unusedVariables false
def Pure : Prop := ∀ (a0_0 : Int) (a0_1 : Int) (a0_2 : Bool) (a0_3 : Bool), (Lit.int .i64 a0_0).wf = true → (Lit.int .i64 a0_1).wf = true → laws_FnExactCounterReached.f a0_0 a0_1 a0_2 a0_3 = some true
end Go.Proofs.Ytdcjbnedbohofaa.fnExactCounterReached
