/-
  No cell of these rows narrows 'for every input' (looked for: loops, veiled, ifaces, maps, wideKeys, modest, calm, conditions, laid).
  DERIVED. THE GIVEN ROWS OF THIS SEAT. 4 by the template 'for every input the law returns true; each argument reads behind the call as it read before'; 0 by the template 'total and deterministic' (their statements: YtpefkclpnkefnaaTotals.lean).
  GIVEN WITH THE SEED: the statements are not yours to turn. If you find one false, say at which input.
  Laid BY PROGRAM, IN A SANDBOX (cutbox-rows.mjs): the forced cells as the released guide's own fill.sh prints them over the translation e7df7531ac2bb9e8… (all of the seat's roots in one cut). By AI agents, Wed Nov 11 2026. No macro, syntax, notation, axiom, sorry.
-/
import Derived.Test.YtpefkclpnkefnaaChecked
import GoSem.Claim
import GoSem.ClaimJoined
import GoSem.ClaimMapViews
import Derived.JoinedTies
import Derived.KernelRfl
namespace Go.Proofs.Ytpefkclpnkefnaa
/- THE CELL 'sum', in the pinned program and in every row, IS THE sha256 OF THE DUMP (.gsa) THAT YtpefkclpnkefnaaProg.lean LOADS. Nothing in Lean hashes anything: it is a label: what it is worth is what the hold of that sum in a sandbox is worth. -/
noncomputable def Try.pinned : Pinned := { name := "ytpefkclpnkefnaa", sum := "e7df7531ac2bb9e8159c1bd4741b5f9c5c966327117ba32171868b72c39191ed", checked := Try.checked }
namespace Rows
def none {H : Type} : Left H := { results := [], args := [] }

/-- 'laws.FnExactMedianOf': WHATEVER THE INPUT: true; the input reads as it did. -/
def fnExactMedianOfSpec : ChangeSpec := { name := "fnExactMedianOf", fn := fun _ => fun
  | [d] => { results := [.lit (.bool true)], args := [d] }
  | _ => none }
def fnExactMedianOfRow : OpenClaim := { program := "ytpefkclpnkefnaa", sum := "e7df7531ac2bb9e8159c1bd4741b5f9c5c966327117ba32171868b72c39191ed", func := "loop.example/plcruntime/laws.FnExactMedianOf", spec := "fnExactMedianOf", unfollowed := true, recurses := true, apart := false }
def FnExactMedianOfSaid : Prop := fnExactMedianOfRow.holds Try.pinned (OpenSpec.ofChange fnExactMedianOfSpec)

/-- ITS FALSE NEIGHBOUR: 'it returns false'. Refute it at one input. -/
def fnExactMedianOfWrong : ChangeSpec := { name := "fnExactMedianOf", fn := fun _ => fun
  | [d] => { results := [.lit (.bool false)], args := [d] }
  | _ => none }
def FnExactMedianOfWrongFalsely : Prop := fnExactMedianOfRow.holds Try.pinned (OpenSpec.ofChange fnExactMedianOfWrong)

/-- 'laws.FnExactStepDiagram': WHATEVER THE INPUT: true; the input reads as it did. -/
def fnExactStepDiagramSpec : ChangeSpec := { name := "fnExactStepDiagram", fn := fun _ => fun
  | [d1, d2, d3] => { results := [.lit (.bool true)], args := [d1, d2, d3] }
  | _ => none }
def fnExactStepDiagramRow : OpenClaim := { program := "ytpefkclpnkefnaa", sum := "e7df7531ac2bb9e8159c1bd4741b5f9c5c966327117ba32171868b72c39191ed", func := "loop.example/plcruntime/laws.FnExactStepDiagram", spec := "fnExactStepDiagram", unfollowed := true, recurses := true, apart := false }
def FnExactStepDiagramSaid : Prop := fnExactStepDiagramRow.holds Try.pinned (OpenSpec.ofChange fnExactStepDiagramSpec)

/-- ITS FALSE NEIGHBOUR: 'it returns false'. Refute it at one input. -/
def fnExactStepDiagramWrong : ChangeSpec := { name := "fnExactStepDiagram", fn := fun _ => fun
  | [d1, d2, d3] => { results := [.lit (.bool false)], args := [d1, d2, d3] }
  | _ => none }
def FnExactStepDiagramWrongFalsely : Prop := fnExactStepDiagramRow.holds Try.pinned (OpenSpec.ofChange fnExactStepDiagramWrong)

/-- 'laws.FnExactRunDiagram': WHATEVER THE INPUT: true; the input reads as it did. -/
def fnExactRunDiagramSpec : ChangeSpec := { name := "fnExactRunDiagram", fn := fun _ => fun
  | [d1, d2] => { results := [.lit (.bool true)], args := [d1, d2] }
  | _ => none }
def fnExactRunDiagramRow : OpenClaim := { program := "ytpefkclpnkefnaa", sum := "e7df7531ac2bb9e8159c1bd4741b5f9c5c966327117ba32171868b72c39191ed", func := "loop.example/plcruntime/laws.FnExactRunDiagram", spec := "fnExactRunDiagram", unfollowed := true, recurses := true, apart := false }
def FnExactRunDiagramSaid : Prop := fnExactRunDiagramRow.holds Try.pinned (OpenSpec.ofChange fnExactRunDiagramSpec)

/-- ITS FALSE NEIGHBOUR: 'it returns false'. Refute it at one input. -/
def fnExactRunDiagramWrong : ChangeSpec := { name := "fnExactRunDiagram", fn := fun _ => fun
  | [d1, d2] => { results := [.lit (.bool false)], args := [d1, d2] }
  | _ => none }
def FnExactRunDiagramWrongFalsely : Prop := fnExactRunDiagramRow.holds Try.pinned (OpenSpec.ofChange fnExactRunDiagramWrong)

/-- 'laws.FnExactEvaluationOrder': WHATEVER THE INPUT: true; the input reads as it did. -/
def fnExactEvaluationOrderSpec : ChangeSpec := { name := "fnExactEvaluationOrder", fn := fun _ => fun
  | [d1, d2] => { results := [.lit (.bool true)], args := [d1, d2] }
  | _ => none }
def fnExactEvaluationOrderRow : OpenClaim := { program := "ytpefkclpnkefnaa", sum := "e7df7531ac2bb9e8159c1bd4741b5f9c5c966327117ba32171868b72c39191ed", func := "loop.example/plcruntime/laws.FnExactEvaluationOrder", spec := "fnExactEvaluationOrder", unfollowed := true, recurses := true, apart := false }
def FnExactEvaluationOrderSaid : Prop := fnExactEvaluationOrderRow.holds Try.pinned (OpenSpec.ofChange fnExactEvaluationOrderSpec)

/-- ITS FALSE NEIGHBOUR: 'it returns false'. Refute it at one input. -/
def fnExactEvaluationOrderWrong : ChangeSpec := { name := "fnExactEvaluationOrder", fn := fun _ => fun
  | [d1, d2] => { results := [.lit (.bool false)], args := [d1, d2] }
  | _ => none }
def FnExactEvaluationOrderWrongFalsely : Prop := fnExactEvaluationOrderRow.holds Try.pinned (OpenSpec.ofChange fnExactEvaluationOrderWrong)

/- THE SECOND FORM. 'bulk': how many values and letters a reading holds, each counted each time it is reached (what is shared counts as often as it is met; a slice's spare places count too). A statement '..UptoSaid' is the law's where the arguments, and the package variables that the reading takes, are together of bulk at most 1048576: NARROWER than '..Said'. Prove '..Said' where nothing that the law and all that it calls make is longer than what came in: it says more and counts as full. Else prove '..UptoSaid'. A law counts once. -/
mutual
def uptoBulk {H : Type} : DataW H → Nat
  | .lit (.string bytes) => bytes.length + 1
  | .lit _ => 1
  | .nil => 1
  | .ptr d => uptoBulk d + 1
  | .slice elems spare => uptoBulkAll elems + uptoBulkAll spare + 1
  | .agg parts => uptoBulkAll parts + 1
  | .iface _ d => uptoBulk d + 1
  | .map entries => uptoBulkEntries entries + 1
  | .held _ => 1
def uptoBulkAll {H : Type} : List (DataW H) → Nat
  | [] => 0
  | d :: r => uptoBulk d + uptoBulkAll r
def uptoBulkEntries {H : Type} : List (Lit × DataW H) → Nat
  | [] => 0
  | x :: r => uptoBulkEntry x + uptoBulkEntries r
def uptoBulkEntry {H : Type} : Lit × DataW H → Nat
  | (.string bytes, d) => bytes.length + uptoBulk d + 1
  | (_, d) => uptoBulk d + 1
 end
def uptoSmall : (H : Type) → List (DataW H) → Bool := fun _ ds => decide (uptoBulkAll ds ≤ 1048576)
def OpenSpec.upto (s : _root_.Go.ChangeSpec) : _root_.Go.OpenSpec := { _root_.Go.OpenSpec.ofChange s with cond := some uptoSmall }

/-- 'laws.FnExactMedianOf', WHERE WHAT IT READS IS OF BULK AT MOST 1048576: true; the input reads as it did. -/
def fnExactMedianOfUptoRow : OpenClaim := { program := "ytpefkclpnkefnaa", sum := "e7df7531ac2bb9e8159c1bd4741b5f9c5c966327117ba32171868b72c39191ed", func := "loop.example/plcruntime/laws.FnExactMedianOf", spec := "fnExactMedianOf", unfollowed := true, recurses := true, apart := false, narrowed := true }
def FnExactMedianOfUptoSaid : Prop := fnExactMedianOfUptoRow.holds Try.pinned (OpenSpec.upto fnExactMedianOfSpec)

/-- 'laws.FnExactStepDiagram', WHERE WHAT IT READS IS OF BULK AT MOST 1048576: true; the input reads as it did. -/
def fnExactStepDiagramUptoRow : OpenClaim := { program := "ytpefkclpnkefnaa", sum := "e7df7531ac2bb9e8159c1bd4741b5f9c5c966327117ba32171868b72c39191ed", func := "loop.example/plcruntime/laws.FnExactStepDiagram", spec := "fnExactStepDiagram", unfollowed := true, recurses := true, apart := false, narrowed := true }
def FnExactStepDiagramUptoSaid : Prop := fnExactStepDiagramUptoRow.holds Try.pinned (OpenSpec.upto fnExactStepDiagramSpec)

/-- 'laws.FnExactRunDiagram', WHERE WHAT IT READS IS OF BULK AT MOST 1048576: true; the input reads as it did. -/
def fnExactRunDiagramUptoRow : OpenClaim := { program := "ytpefkclpnkefnaa", sum := "e7df7531ac2bb9e8159c1bd4741b5f9c5c966327117ba32171868b72c39191ed", func := "loop.example/plcruntime/laws.FnExactRunDiagram", spec := "fnExactRunDiagram", unfollowed := true, recurses := true, apart := false, narrowed := true }
def FnExactRunDiagramUptoSaid : Prop := fnExactRunDiagramUptoRow.holds Try.pinned (OpenSpec.upto fnExactRunDiagramSpec)

/-- 'laws.FnExactEvaluationOrder', WHERE WHAT IT READS IS OF BULK AT MOST 1048576: true; the input reads as it did. -/
def fnExactEvaluationOrderUptoRow : OpenClaim := { program := "ytpefkclpnkefnaa", sum := "e7df7531ac2bb9e8159c1bd4741b5f9c5c966327117ba32171868b72c39191ed", func := "loop.example/plcruntime/laws.FnExactEvaluationOrder", spec := "fnExactEvaluationOrder", unfollowed := true, recurses := true, apart := false, narrowed := true }
def FnExactEvaluationOrderUptoSaid : Prop := fnExactEvaluationOrderUptoRow.holds Try.pinned (OpenSpec.upto fnExactEvaluationOrderSpec)

end Rows
end Go.Proofs.Ytpefkclpnkefnaa
