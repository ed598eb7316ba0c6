/-
  No cell of these rows narrows 'for every input' (looked for: loops, veiled, ifaces, maps, wideKeys, modest, calm, conditions, laid).
  DERIVED. THE GIVEN ROWS OF THIS SEAT. 12 by the template 'for every input the law returns true; each argument reads behind the call as it read before'; 0 by the template 'total and deterministic' (their statements: YtimmlippglpmnaaTotals.lean).
  GIVEN WITH THE SEED: the statements are not yours to turn. If you find one false, say at which input.
  Laid BY PROGRAM, IN A SANDBOX (cutbox-rows.mjs): the forced cells as the released guide's own fill.sh prints them over the translation b545fee6c9da48eb… (all of the seat's roots in one cut). By AI agents, Wed Nov 11 2026. No macro, syntax, notation, axiom, sorry.
-/
import Derived.Test.YtimmlippglpmnaaChecked
import GoSem.Claim
import GoSem.ClaimJoined
import GoSem.ClaimMapViews
import Derived.JoinedTies
import Derived.KernelRfl
namespace Go.Proofs.Ytimmlippglpmnaa
/- THE CELL 'sum', in the pinned program and in every row, IS THE sha256 OF THE DUMP (.gsa) THAT YtimmlippglpmnaaProg.lean LOADS. Nothing in Lean hashes anything: it is a label: what it is worth is what the hold of that sum in a sandbox is worth. -/
noncomputable def Try.pinned : Pinned := { name := "ytimmlippglpmnaa", sum := "b545fee6c9da48ebd04819937838d9d6f029b357f31064d6df9dd9672b90af3e", checked := Try.checked }
namespace Rows
def none {H : Type} : Left H := { results := [], args := [] }

/-- 'laws.FnExactAddSaturated': WHATEVER THE INPUT: true; the input reads as it did. -/
def fnExactAddSaturatedSpec : ChangeSpec := { name := "fnExactAddSaturated", fn := fun _ => fun
  | [d1, d2] => { results := [.lit (.bool true)], args := [d1, d2] }
  | _ => none }
def fnExactAddSaturatedRow : OpenClaim := { program := "ytimmlippglpmnaa", sum := "b545fee6c9da48ebd04819937838d9d6f029b357f31064d6df9dd9672b90af3e", func := "loop.example/plcruntime/laws.FnExactAddSaturated", spec := "fnExactAddSaturated", unfollowed := true, recurses := true, apart := false }
def FnExactAddSaturatedSaid : Prop := fnExactAddSaturatedRow.holds Try.pinned (OpenSpec.ofChange fnExactAddSaturatedSpec)

/-- ITS FALSE NEIGHBOUR: 'it returns false'. Refute it at one input. -/
def fnExactAddSaturatedWrong : ChangeSpec := { name := "fnExactAddSaturated", fn := fun _ => fun
  | [d1, d2] => { results := [.lit (.bool false)], args := [d1, d2] }
  | _ => none }
def FnExactAddSaturatedWrongFalsely : Prop := fnExactAddSaturatedRow.holds Try.pinned (OpenSpec.ofChange fnExactAddSaturatedWrong)

/-- 'laws.FnExactControlValid': WHATEVER THE INPUT: true; the input reads as it did. -/
def fnExactControlValidSpec : ChangeSpec := { name := "fnExactControlValid", fn := fun _ => fun
  | [d] => { results := [.lit (.bool true)], args := [d] }
  | _ => none }
def fnExactControlValidRow : OpenClaim := { program := "ytimmlippglpmnaa", sum := "b545fee6c9da48ebd04819937838d9d6f029b357f31064d6df9dd9672b90af3e", func := "loop.example/plcruntime/laws.FnExactControlValid", spec := "fnExactControlValid", unfollowed := true, recurses := true, apart := false }
def FnExactControlValidSaid : Prop := fnExactControlValidRow.holds Try.pinned (OpenSpec.ofChange fnExactControlValidSpec)

/-- ITS FALSE NEIGHBOUR: 'it returns false'. Refute it at one input. -/
def fnExactControlValidWrong : ChangeSpec := { name := "fnExactControlValid", fn := fun _ => fun
  | [d] => { results := [.lit (.bool false)], args := [d] }
  | _ => none }
def FnExactControlValidWrongFalsely : Prop := fnExactControlValidRow.holds Try.pinned (OpenSpec.ofChange fnExactControlValidWrong)

/-- 'laws.FnExactRampStep': WHATEVER THE INPUT: true; the input reads as it did. -/
def fnExactRampStepSpec : ChangeSpec := { name := "fnExactRampStep", fn := fun _ => fun
  | [d1, d2, d3] => { results := [.lit (.bool true)], args := [d1, d2, d3] }
  | _ => none }
def fnExactRampStepRow : OpenClaim := { program := "ytimmlippglpmnaa", sum := "b545fee6c9da48ebd04819937838d9d6f029b357f31064d6df9dd9672b90af3e", func := "loop.example/plcruntime/laws.FnExactRampStep", spec := "fnExactRampStep", unfollowed := true, recurses := true, apart := false }
def FnExactRampStepSaid : Prop := fnExactRampStepRow.holds Try.pinned (OpenSpec.ofChange fnExactRampStepSpec)

/-- ITS FALSE NEIGHBOUR: 'it returns false'. Refute it at one input. -/
def fnExactRampStepWrong : ChangeSpec := { name := "fnExactRampStep", fn := fun _ => fun
  | [d1, d2, d3] => { results := [.lit (.bool false)], args := [d1, d2, d3] }
  | _ => none }
def FnExactRampStepWrongFalsely : Prop := fnExactRampStepRow.holds Try.pinned (OpenSpec.ofChange fnExactRampStepWrong)

/-- 'laws.FnExactMedianOf': WHATEVER THE INPUT: true; the input reads as it did. -/
def fnExactMedianOfSpec : ChangeSpec := { name := "fnExactMedianOf", fn := fun _ => fun
  | [d] => { results := [.lit (.bool true)], args := [d] }
  | _ => none }
def fnExactMedianOfRow : OpenClaim := { program := "ytimmlippglpmnaa", sum := "b545fee6c9da48ebd04819937838d9d6f029b357f31064d6df9dd9672b90af3e", func := "loop.example/plcruntime/laws.FnExactMedianOf", spec := "fnExactMedianOf", unfollowed := true, recurses := true, apart := false }
def FnExactMedianOfSaid : Prop := fnExactMedianOfRow.holds Try.pinned (OpenSpec.ofChange fnExactMedianOfSpec)

/-- ITS FALSE NEIGHBOUR: 'it returns false'. Refute it at one input. -/
def fnExactMedianOfWrong : ChangeSpec := { name := "fnExactMedianOf", fn := fun _ => fun
  | [d] => { results := [.lit (.bool false)], args := [d] }
  | _ => none }
def FnExactMedianOfWrongFalsely : Prop := fnExactMedianOfRow.holds Try.pinned (OpenSpec.ofChange fnExactMedianOfWrong)

/-- 'laws.FnExactScaleWord': WHATEVER THE INPUT: true; the input reads as it did. -/
def fnExactScaleWordSpec : ChangeSpec := { name := "fnExactScaleWord", fn := fun _ => fun
  | [d1, d2, d3, d4, d5] => { results := [.lit (.bool true)], args := [d1, d2, d3, d4, d5] }
  | _ => none }
def fnExactScaleWordRow : OpenClaim := { program := "ytimmlippglpmnaa", sum := "b545fee6c9da48ebd04819937838d9d6f029b357f31064d6df9dd9672b90af3e", func := "loop.example/plcruntime/laws.FnExactScaleWord", spec := "fnExactScaleWord", unfollowed := true, recurses := true, apart := false }
def FnExactScaleWordSaid : Prop := fnExactScaleWordRow.holds Try.pinned (OpenSpec.ofChange fnExactScaleWordSpec)

/-- ITS FALSE NEIGHBOUR: 'it returns false'. Refute it at one input. -/
def fnExactScaleWordWrong : ChangeSpec := { name := "fnExactScaleWord", fn := fun _ => fun
  | [d1, d2, d3, d4, d5] => { results := [.lit (.bool false)], args := [d1, d2, d3, d4, d5] }
  | _ => none }
def FnExactScaleWordWrongFalsely : Prop := fnExactScaleWordRow.holds Try.pinned (OpenSpec.ofChange fnExactScaleWordWrong)

/-- 'laws.FnExactControlBumpless': WHATEVER THE INPUT: true; the input reads as it did. -/
def fnExactControlBumplessSpec : ChangeSpec := { name := "fnExactControlBumpless", fn := fun _ => fun
  | [d1, d2, d3, d4] => { results := [.lit (.bool true)], args := [d1, d2, d3, d4] }
  | _ => none }
def fnExactControlBumplessRow : OpenClaim := { program := "ytimmlippglpmnaa", sum := "b545fee6c9da48ebd04819937838d9d6f029b357f31064d6df9dd9672b90af3e", func := "loop.example/plcruntime/laws.FnExactControlBumpless", spec := "fnExactControlBumpless", unfollowed := true, recurses := true, apart := false }
def FnExactControlBumplessSaid : Prop := fnExactControlBumplessRow.holds Try.pinned (OpenSpec.ofChange fnExactControlBumplessSpec)

/-- ITS FALSE NEIGHBOUR: 'it returns false'. Refute it at one input. -/
def fnExactControlBumplessWrong : ChangeSpec := { name := "fnExactControlBumpless", fn := fun _ => fun
  | [d1, d2, d3, d4] => { results := [.lit (.bool false)], args := [d1, d2, d3, d4] }
  | _ => none }
def FnExactControlBumplessWrongFalsely : Prop := fnExactControlBumplessRow.holds Try.pinned (OpenSpec.ofChange fnExactControlBumplessWrong)

/-- 'laws.FnExactMovingAverage': WHATEVER THE INPUT: true; the input reads as it did. -/
def fnExactMovingAverageSpec : ChangeSpec := { name := "fnExactMovingAverage", fn := fun _ => fun
  | [d1, d2] => { results := [.lit (.bool true)], args := [d1, d2] }
  | _ => none }
def fnExactMovingAverageRow : OpenClaim := { program := "ytimmlippglpmnaa", sum := "b545fee6c9da48ebd04819937838d9d6f029b357f31064d6df9dd9672b90af3e", func := "loop.example/plcruntime/laws.FnExactMovingAverage", spec := "fnExactMovingAverage", unfollowed := true, recurses := true, apart := false }
def FnExactMovingAverageSaid : Prop := fnExactMovingAverageRow.holds Try.pinned (OpenSpec.ofChange fnExactMovingAverageSpec)

/-- ITS FALSE NEIGHBOUR: 'it returns false'. Refute it at one input. -/
def fnExactMovingAverageWrong : ChangeSpec := { name := "fnExactMovingAverage", fn := fun _ => fun
  | [d1, d2] => { results := [.lit (.bool false)], args := [d1, d2] }
  | _ => none }
def FnExactMovingAverageWrongFalsely : Prop := fnExactMovingAverageRow.holds Try.pinned (OpenSpec.ofChange fnExactMovingAverageWrong)

/-- 'laws.FnExactControlStep': WHATEVER THE INPUT: true; the input reads as it did. -/
def fnExactControlStepSpec : ChangeSpec := { name := "fnExactControlStep", fn := fun _ => fun
  | [d1, d2, d3] => { results := [.lit (.bool true)], args := [d1, d2, d3] }
  | _ => none }
def fnExactControlStepRow : OpenClaim := { program := "ytimmlippglpmnaa", sum := "b545fee6c9da48ebd04819937838d9d6f029b357f31064d6df9dd9672b90af3e", func := "loop.example/plcruntime/laws.FnExactControlStep", spec := "fnExactControlStep", unfollowed := true, recurses := true, apart := false }
def FnExactControlStepSaid : Prop := fnExactControlStepRow.holds Try.pinned (OpenSpec.ofChange fnExactControlStepSpec)

/-- ITS FALSE NEIGHBOUR: 'it returns false'. Refute it at one input. -/
def fnExactControlStepWrong : ChangeSpec := { name := "fnExactControlStep", fn := fun _ => fun
  | [d1, d2, d3] => { results := [.lit (.bool false)], args := [d1, d2, d3] }
  | _ => none }
def FnExactControlStepWrongFalsely : Prop := fnExactControlStepRow.holds Try.pinned (OpenSpec.ofChange fnExactControlStepWrong)

/-- 'laws.FnExactControlTrace': WHATEVER THE INPUT: true; the input reads as it did. -/
def fnExactControlTraceSpec : ChangeSpec := { name := "fnExactControlTrace", fn := fun _ => fun
  | [d1, d2, d3] => { results := [.lit (.bool true)], args := [d1, d2, d3] }
  | _ => none }
def fnExactControlTraceRow : OpenClaim := { program := "ytimmlippglpmnaa", sum := "b545fee6c9da48ebd04819937838d9d6f029b357f31064d6df9dd9672b90af3e", func := "loop.example/plcruntime/laws.FnExactControlTrace", spec := "fnExactControlTrace", unfollowed := true, recurses := true, apart := false }
def FnExactControlTraceSaid : Prop := fnExactControlTraceRow.holds Try.pinned (OpenSpec.ofChange fnExactControlTraceSpec)

/-- ITS FALSE NEIGHBOUR: 'it returns false'. Refute it at one input. -/
def fnExactControlTraceWrong : ChangeSpec := { name := "fnExactControlTrace", fn := fun _ => fun
  | [d1, d2, d3] => { results := [.lit (.bool false)], args := [d1, d2, d3] }
  | _ => none }
def FnExactControlTraceWrongFalsely : Prop := fnExactControlTraceRow.holds Try.pinned (OpenSpec.ofChange fnExactControlTraceWrong)

/-- 'laws.FnExactStepDiagram': WHATEVER THE INPUT: true; the input reads as it did. -/
def fnExactStepDiagramSpec : ChangeSpec := { name := "fnExactStepDiagram", fn := fun _ => fun
  | [d1, d2, d3] => { results := [.lit (.bool true)], args := [d1, d2, d3] }
  | _ => none }
def fnExactStepDiagramRow : OpenClaim := { program := "ytimmlippglpmnaa", sum := "b545fee6c9da48ebd04819937838d9d6f029b357f31064d6df9dd9672b90af3e", func := "loop.example/plcruntime/laws.FnExactStepDiagram", spec := "fnExactStepDiagram", unfollowed := true, recurses := true, apart := false }
def FnExactStepDiagramSaid : Prop := fnExactStepDiagramRow.holds Try.pinned (OpenSpec.ofChange fnExactStepDiagramSpec)

/-- ITS FALSE NEIGHBOUR: 'it returns false'. Refute it at one input. -/
def fnExactStepDiagramWrong : ChangeSpec := { name := "fnExactStepDiagram", fn := fun _ => fun
  | [d1, d2, d3] => { results := [.lit (.bool false)], args := [d1, d2, d3] }
  | _ => none }
def FnExactStepDiagramWrongFalsely : Prop := fnExactStepDiagramRow.holds Try.pinned (OpenSpec.ofChange fnExactStepDiagramWrong)

/-- 'laws.FnExactRunDiagram': WHATEVER THE INPUT: true; the input reads as it did. -/
def fnExactRunDiagramSpec : ChangeSpec := { name := "fnExactRunDiagram", fn := fun _ => fun
  | [d1, d2] => { results := [.lit (.bool true)], args := [d1, d2] }
  | _ => none }
def fnExactRunDiagramRow : OpenClaim := { program := "ytimmlippglpmnaa", sum := "b545fee6c9da48ebd04819937838d9d6f029b357f31064d6df9dd9672b90af3e", func := "loop.example/plcruntime/laws.FnExactRunDiagram", spec := "fnExactRunDiagram", unfollowed := true, recurses := true, apart := false }
def FnExactRunDiagramSaid : Prop := fnExactRunDiagramRow.holds Try.pinned (OpenSpec.ofChange fnExactRunDiagramSpec)

/-- ITS FALSE NEIGHBOUR: 'it returns false'. Refute it at one input. -/
def fnExactRunDiagramWrong : ChangeSpec := { name := "fnExactRunDiagram", fn := fun _ => fun
  | [d1, d2] => { results := [.lit (.bool false)], args := [d1, d2] }
  | _ => none }
def FnExactRunDiagramWrongFalsely : Prop := fnExactRunDiagramRow.holds Try.pinned (OpenSpec.ofChange fnExactRunDiagramWrong)

/-- 'laws.FnExactEvaluationOrder': WHATEVER THE INPUT: true; the input reads as it did. -/
def fnExactEvaluationOrderSpec : ChangeSpec := { name := "fnExactEvaluationOrder", fn := fun _ => fun
  | [d1, d2] => { results := [.lit (.bool true)], args := [d1, d2] }
  | _ => none }
def fnExactEvaluationOrderRow : OpenClaim := { program := "ytimmlippglpmnaa", sum := "b545fee6c9da48ebd04819937838d9d6f029b357f31064d6df9dd9672b90af3e", func := "loop.example/plcruntime/laws.FnExactEvaluationOrder", spec := "fnExactEvaluationOrder", unfollowed := true, recurses := true, apart := false }
def FnExactEvaluationOrderSaid : Prop := fnExactEvaluationOrderRow.holds Try.pinned (OpenSpec.ofChange fnExactEvaluationOrderSpec)

/-- ITS FALSE NEIGHBOUR: 'it returns false'. Refute it at one input. -/
def fnExactEvaluationOrderWrong : ChangeSpec := { name := "fnExactEvaluationOrder", fn := fun _ => fun
  | [d1, d2] => { results := [.lit (.bool false)], args := [d1, d2] }
  | _ => none }
def FnExactEvaluationOrderWrongFalsely : Prop := fnExactEvaluationOrderRow.holds Try.pinned (OpenSpec.ofChange fnExactEvaluationOrderWrong)

/- THE SECOND FORM. 'bulk': how many values and letters a reading holds, each counted each time it is reached (what is shared counts as often as it is met; a slice's spare places count too). A statement '..UptoSaid' is the law's where the arguments, and the package variables that the reading takes, are together of bulk at most 1048576: NARROWER than '..Said'. Prove '..Said' where nothing that the law and all that it calls make is longer than what came in: it says more and counts as full. Else prove '..UptoSaid'. A law counts once. -/
mutual
def uptoBulk {H : Type} : DataW H → Nat
  | .lit (.string bytes) => bytes.length + 1
  | .lit _ => 1
  | .nil => 1
  | .ptr d => uptoBulk d + 1
  | .slice elems spare => uptoBulkAll elems + uptoBulkAll spare + 1
  | .agg parts => uptoBulkAll parts + 1
  | .iface _ d => uptoBulk d + 1
  | .map entries => uptoBulkEntries entries + 1
  | .held _ => 1
def uptoBulkAll {H : Type} : List (DataW H) → Nat
  | [] => 0
  | d :: r => uptoBulk d + uptoBulkAll r
def uptoBulkEntries {H : Type} : List (Lit × DataW H) → Nat
  | [] => 0
  | x :: r => uptoBulkEntry x + uptoBulkEntries r
def uptoBulkEntry {H : Type} : Lit × DataW H → Nat
  | (.string bytes, d) => bytes.length + uptoBulk d + 1
  | (_, d) => uptoBulk d + 1
 end
def uptoSmall : (H : Type) → List (DataW H) → Bool := fun _ ds => decide (uptoBulkAll ds ≤ 1048576)
def OpenSpec.upto (s : _root_.Go.ChangeSpec) : _root_.Go.OpenSpec := { _root_.Go.OpenSpec.ofChange s with cond := some uptoSmall }

/-- 'laws.FnExactAddSaturated', WHERE WHAT IT READS IS OF BULK AT MOST 1048576: true; the input reads as it did. -/
def fnExactAddSaturatedUptoRow : OpenClaim := { program := "ytimmlippglpmnaa", sum := "b545fee6c9da48ebd04819937838d9d6f029b357f31064d6df9dd9672b90af3e", func := "loop.example/plcruntime/laws.FnExactAddSaturated", spec := "fnExactAddSaturated", unfollowed := true, recurses := true, apart := false, narrowed := true }
def FnExactAddSaturatedUptoSaid : Prop := fnExactAddSaturatedUptoRow.holds Try.pinned (OpenSpec.upto fnExactAddSaturatedSpec)

/-- 'laws.FnExactControlValid', WHERE WHAT IT READS IS OF BULK AT MOST 1048576: true; the input reads as it did. -/
def fnExactControlValidUptoRow : OpenClaim := { program := "ytimmlippglpmnaa", sum := "b545fee6c9da48ebd04819937838d9d6f029b357f31064d6df9dd9672b90af3e", func := "loop.example/plcruntime/laws.FnExactControlValid", spec := "fnExactControlValid", unfollowed := true, recurses := true, apart := false, narrowed := true }
def FnExactControlValidUptoSaid : Prop := fnExactControlValidUptoRow.holds Try.pinned (OpenSpec.upto fnExactControlValidSpec)

/-- 'laws.FnExactRampStep', WHERE WHAT IT READS IS OF BULK AT MOST 1048576: true; the input reads as it did. -/
def fnExactRampStepUptoRow : OpenClaim := { program := "ytimmlippglpmnaa", sum := "b545fee6c9da48ebd04819937838d9d6f029b357f31064d6df9dd9672b90af3e", func := "loop.example/plcruntime/laws.FnExactRampStep", spec := "fnExactRampStep", unfollowed := true, recurses := true, apart := false, narrowed := true }
def FnExactRampStepUptoSaid : Prop := fnExactRampStepUptoRow.holds Try.pinned (OpenSpec.upto fnExactRampStepSpec)

/-- 'laws.FnExactMedianOf', WHERE WHAT IT READS IS OF BULK AT MOST 1048576: true; the input reads as it did. -/
def fnExactMedianOfUptoRow : OpenClaim := { program := "ytimmlippglpmnaa", sum := "b545fee6c9da48ebd04819937838d9d6f029b357f31064d6df9dd9672b90af3e", func := "loop.example/plcruntime/laws.FnExactMedianOf", spec := "fnExactMedianOf", unfollowed := true, recurses := true, apart := false, narrowed := true }
def FnExactMedianOfUptoSaid : Prop := fnExactMedianOfUptoRow.holds Try.pinned (OpenSpec.upto fnExactMedianOfSpec)

/-- 'laws.FnExactScaleWord', WHERE WHAT IT READS IS OF BULK AT MOST 1048576: true; the input reads as it did. -/
def fnExactScaleWordUptoRow : OpenClaim := { program := "ytimmlippglpmnaa", sum := "b545fee6c9da48ebd04819937838d9d6f029b357f31064d6df9dd9672b90af3e", func := "loop.example/plcruntime/laws.FnExactScaleWord", spec := "fnExactScaleWord", unfollowed := true, recurses := true, apart := false, narrowed := true }
def FnExactScaleWordUptoSaid : Prop := fnExactScaleWordUptoRow.holds Try.pinned (OpenSpec.upto fnExactScaleWordSpec)

/-- 'laws.FnExactControlBumpless', WHERE WHAT IT READS IS OF BULK AT MOST 1048576: true; the input reads as it did. -/
def fnExactControlBumplessUptoRow : OpenClaim := { program := "ytimmlippglpmnaa", sum := "b545fee6c9da48ebd04819937838d9d6f029b357f31064d6df9dd9672b90af3e", func := "loop.example/plcruntime/laws.FnExactControlBumpless", spec := "fnExactControlBumpless", unfollowed := true, recurses := true, apart := false, narrowed := true }
def FnExactControlBumplessUptoSaid : Prop := fnExactControlBumplessUptoRow.holds Try.pinned (OpenSpec.upto fnExactControlBumplessSpec)

/-- 'laws.FnExactMovingAverage', WHERE WHAT IT READS IS OF BULK AT MOST 1048576: true; the input reads as it did. -/
def fnExactMovingAverageUptoRow : OpenClaim := { program := "ytimmlippglpmnaa", sum := "b545fee6c9da48ebd04819937838d9d6f029b357f31064d6df9dd9672b90af3e", func := "loop.example/plcruntime/laws.FnExactMovingAverage", spec := "fnExactMovingAverage", unfollowed := true, recurses := true, apart := false, narrowed := true }
def FnExactMovingAverageUptoSaid : Prop := fnExactMovingAverageUptoRow.holds Try.pinned (OpenSpec.upto fnExactMovingAverageSpec)

/-- 'laws.FnExactControlStep', WHERE WHAT IT READS IS OF BULK AT MOST 1048576: true; the input reads as it did. -/
def fnExactControlStepUptoRow : OpenClaim := { program := "ytimmlippglpmnaa", sum := "b545fee6c9da48ebd04819937838d9d6f029b357f31064d6df9dd9672b90af3e", func := "loop.example/plcruntime/laws.FnExactControlStep", spec := "fnExactControlStep", unfollowed := true, recurses := true, apart := false, narrowed := true }
def FnExactControlStepUptoSaid : Prop := fnExactControlStepUptoRow.holds Try.pinned (OpenSpec.upto fnExactControlStepSpec)

/-- 'laws.FnExactControlTrace', WHERE WHAT IT READS IS OF BULK AT MOST 1048576: true; the input reads as it did. -/
def fnExactControlTraceUptoRow : OpenClaim := { program := "ytimmlippglpmnaa", sum := "b545fee6c9da48ebd04819937838d9d6f029b357f31064d6df9dd9672b90af3e", func := "loop.example/plcruntime/laws.FnExactControlTrace", spec := "fnExactControlTrace", unfollowed := true, recurses := true, apart := false, narrowed := true }
def FnExactControlTraceUptoSaid : Prop := fnExactControlTraceUptoRow.holds Try.pinned (OpenSpec.upto fnExactControlTraceSpec)

/-- 'laws.FnExactStepDiagram', WHERE WHAT IT READS IS OF BULK AT MOST 1048576: true; the input reads as it did. -/
def fnExactStepDiagramUptoRow : OpenClaim := { program := "ytimmlippglpmnaa", sum := "b545fee6c9da48ebd04819937838d9d6f029b357f31064d6df9dd9672b90af3e", func := "loop.example/plcruntime/laws.FnExactStepDiagram", spec := "fnExactStepDiagram", unfollowed := true, recurses := true, apart := false, narrowed := true }
def FnExactStepDiagramUptoSaid : Prop := fnExactStepDiagramUptoRow.holds Try.pinned (OpenSpec.upto fnExactStepDiagramSpec)

/-- 'laws.FnExactRunDiagram', WHERE WHAT IT READS IS OF BULK AT MOST 1048576: true; the input reads as it did. -/
def fnExactRunDiagramUptoRow : OpenClaim := { program := "ytimmlippglpmnaa", sum := "b545fee6c9da48ebd04819937838d9d6f029b357f31064d6df9dd9672b90af3e", func := "loop.example/plcruntime/laws.FnExactRunDiagram", spec := "fnExactRunDiagram", unfollowed := true, recurses := true, apart := false, narrowed := true }
def FnExactRunDiagramUptoSaid : Prop := fnExactRunDiagramUptoRow.holds Try.pinned (OpenSpec.upto fnExactRunDiagramSpec)

/-- 'laws.FnExactEvaluationOrder', WHERE WHAT IT READS IS OF BULK AT MOST 1048576: true; the input reads as it did. -/
def fnExactEvaluationOrderUptoRow : OpenClaim := { program := "ytimmlippglpmnaa", sum := "b545fee6c9da48ebd04819937838d9d6f029b357f31064d6df9dd9672b90af3e", func := "loop.example/plcruntime/laws.FnExactEvaluationOrder", spec := "fnExactEvaluationOrder", unfollowed := true, recurses := true, apart := false, narrowed := true }
def FnExactEvaluationOrderUptoSaid : Prop := fnExactEvaluationOrderUptoRow.holds Try.pinned (OpenSpec.upto fnExactEvaluationOrderSpec)

end Rows
end Go.Proofs.Ytimmlippglpmnaa
