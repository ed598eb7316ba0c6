/- What the law FnExactRungsIndependent says of its Lean function, in numbers and lists alone; no condition but that each number is of its kind. -/
import Derived.Test.YtmlhkalgaeemaaaGFnExactRungsIndependentx7
namespace Go.Proofs.Ytmlhkalgaeemaaa.fnExactRungsIndependent
open Go.RowKit Go.Proofs.Ytmlhkalgaeemaaa.GFnExactRungsIndependent Go.Proofs.YtmlhkalgaeemaaaV.PrintWords Go.Proofs.YtmlhkalgaeemaaaV.PrintLast
set_option linter.unusedVariables false
/-- What is known of a value of type 77. -/
def ok77 (x : S77) : Prop := (Lit.int .i64 x.f0).wf = true ∧ (Lit.int .i64 x.f1).wf = true
def Pure : Prop := ∀ (l0_0 : List S77) (a0_1 : Int) (a0_2 : Int) (l1_0 : List S77) (a1_1 : Int) (a1_2 : Int), (l0_0.length ≤ maxLen ∧ ∀ x ∈ l0_0, ok77 x) → (Lit.int .i64 a0_1).wf = true → (Lit.int .i64 a0_2).wf = true → (l1_0.length ≤ maxLen ∧ ∀ x ∈ l1_0, ok77 x) → (Lit.int .i64 a1_1).wf = true → (Lit.int .i64 a1_2).wf = true → ∃ k, laws_FnExactRungsIndependent.f k l0_0 a0_1 a0_2 l1_0 a1_1 a1_2 = some true
end Go.Proofs.Ytmlhkalgaeemaaa.fnExactRungsIndependent
