/-
  No cell of these rows narrows 'for every input' (looked for: loops, veiled, ifaces, maps, wideKeys, modest, calm, conditions, laid).
  DERIVED. THE GIVEN ROWS OF THIS SEAT. 14 by the template 'for every input the law returns true; each argument reads behind the call as it read before'; 0 by the template 'total and deterministic' (their statements: YtflemeaaiokjmaaTotals.lean).
  GIVEN WITH THE SEED: the statements are not yours to turn. If you find one false, say at which input.
  Laid BY PROGRAM, IN A SANDBOX (cutbox-rows.mjs): the forced cells as the released guide's own fill.sh prints them over the translation 1ecea4e8a792f8c9… (all of the seat's roots in one cut). By AI agents, Wed Nov 11 2026. No macro, syntax, notation, axiom, sorry.
-/
import Derived.Test.YtflemeaaiokjmaaChecked
import GoSem.Claim
import GoSem.ClaimJoined
import GoSem.ClaimMapViews
import Derived.JoinedTies
import Derived.KernelRfl
namespace Go.Proofs.Ytflemeaaiokjmaa
/- THE CELL 'sum', in the pinned program and in every row, IS THE sha256 OF THE DUMP (.gsa) THAT YtflemeaaiokjmaaProg.lean LOADS. Nothing in Lean hashes anything: it is a label: what it is worth is what the hold of that sum in a sandbox is worth. -/
noncomputable def Try.pinned : Pinned := { name := "ytflemeaaiokjmaa", sum := "1ecea4e8a792f8c98145b904be09d37e8e227b72e891d424ac1ae508d743b37e", checked := Try.checked }
namespace Rows
def none {H : Type} : Left H := { results := [], args := [] }

/-- 'laws.FnResetDominant': WHATEVER THE INPUT: true; the input reads as it did. -/
def fnResetDominantSpec : ChangeSpec := { name := "fnResetDominant", fn := fun _ => fun
  | [d] => { results := [.lit (.bool true)], args := [d] }
  | _ => none }
def fnResetDominantRow : OpenClaim := { program := "ytflemeaaiokjmaa", sum := "1ecea4e8a792f8c98145b904be09d37e8e227b72e891d424ac1ae508d743b37e", func := "loop.example/plcruntime/laws.FnResetDominant", spec := "fnResetDominant", apart := false }
def FnResetDominantSaid : Prop := fnResetDominantRow.holds Try.pinned (OpenSpec.ofChange fnResetDominantSpec)

/-- ITS FALSE NEIGHBOUR: 'it returns false'. Refute it at one input. -/
def fnResetDominantWrong : ChangeSpec := { name := "fnResetDominant", fn := fun _ => fun
  | [d] => { results := [.lit (.bool false)], args := [d] }
  | _ => none }
def FnResetDominantWrongFalsely : Prop := fnResetDominantRow.holds Try.pinned (OpenSpec.ofChange fnResetDominantWrong)

/-- 'laws.FnExactNewTimer': WHATEVER THE INPUT: true; the input reads as it did. -/
def fnExactNewTimerSpec : ChangeSpec := { name := "fnExactNewTimer", fn := fun _ => fun
  | [d1, d2] => { results := [.lit (.bool true)], args := [d1, d2] }
  | _ => none }
def fnExactNewTimerRow : OpenClaim := { program := "ytflemeaaiokjmaa", sum := "1ecea4e8a792f8c98145b904be09d37e8e227b72e891d424ac1ae508d743b37e", func := "loop.example/plcruntime/laws.FnExactNewTimer", spec := "fnExactNewTimer", apart := false }
def FnExactNewTimerSaid : Prop := fnExactNewTimerRow.holds Try.pinned (OpenSpec.ofChange fnExactNewTimerSpec)

/-- ITS FALSE NEIGHBOUR: 'it returns false'. Refute it at one input. -/
def fnExactNewTimerWrong : ChangeSpec := { name := "fnExactNewTimer", fn := fun _ => fun
  | [d1, d2] => { results := [.lit (.bool false)], args := [d1, d2] }
  | _ => none }
def FnExactNewTimerWrongFalsely : Prop := fnExactNewTimerRow.holds Try.pinned (OpenSpec.ofChange fnExactNewTimerWrong)

/-- 'laws.FnExactEdgeTrace': WHATEVER THE INPUT: true; the input reads as it did. -/
def fnExactEdgeTraceSpec : ChangeSpec := { name := "fnExactEdgeTrace", fn := fun _ => fun
  | [d1, d2] => { results := [.lit (.bool true)], args := [d1, d2] }
  | _ => none }
def fnExactEdgeTraceRow : OpenClaim := { program := "ytflemeaaiokjmaa", sum := "1ecea4e8a792f8c98145b904be09d37e8e227b72e891d424ac1ae508d743b37e", func := "loop.example/plcruntime/laws.FnExactEdgeTrace", spec := "fnExactEdgeTrace", apart := false }
def FnExactEdgeTraceSaid : Prop := fnExactEdgeTraceRow.holds Try.pinned (OpenSpec.ofChange fnExactEdgeTraceSpec)

/-- ITS FALSE NEIGHBOUR: 'it returns false'. Refute it at one input. -/
def fnExactEdgeTraceWrong : ChangeSpec := { name := "fnExactEdgeTrace", fn := fun _ => fun
  | [d1, d2] => { results := [.lit (.bool false)], args := [d1, d2] }
  | _ => none }
def FnExactEdgeTraceWrongFalsely : Prop := fnExactEdgeTraceRow.holds Try.pinned (OpenSpec.ofChange fnExactEdgeTraceWrong)

/-- 'laws.FnExactCounterStep': WHATEVER THE INPUT: true; the input reads as it did. -/
def fnExactCounterStepSpec : ChangeSpec := { name := "fnExactCounterStep", fn := fun _ => fun
  | [d1, d2, d3, d4, d5] => { results := [.lit (.bool true)], args := [d1, d2, d3, d4, d5] }
  | _ => none }
def fnExactCounterStepRow : OpenClaim := { program := "ytflemeaaiokjmaa", sum := "1ecea4e8a792f8c98145b904be09d37e8e227b72e891d424ac1ae508d743b37e", func := "loop.example/plcruntime/laws.FnExactCounterStep", spec := "fnExactCounterStep", apart := false }
def FnExactCounterStepSaid : Prop := fnExactCounterStepRow.holds Try.pinned (OpenSpec.ofChange fnExactCounterStepSpec)

/-- ITS FALSE NEIGHBOUR: 'it returns false'. Refute it at one input. -/
def fnExactCounterStepWrong : ChangeSpec := { name := "fnExactCounterStep", fn := fun _ => fun
  | [d1, d2, d3, d4, d5] => { results := [.lit (.bool false)], args := [d1, d2, d3, d4, d5] }
  | _ => none }
def FnExactCounterStepWrongFalsely : Prop := fnExactCounterStepRow.holds Try.pinned (OpenSpec.ofChange fnExactCounterStepWrong)

/-- 'laws.FnExactDebounce': WHATEVER THE INPUT: true; the input reads as it did. -/
def fnExactDebounceSpec : ChangeSpec := { name := "fnExactDebounce", fn := fun _ => fun
  | [d1, d2, d3] => { results := [.lit (.bool true)], args := [d1, d2, d3] }
  | _ => none }
def fnExactDebounceRow : OpenClaim := { program := "ytflemeaaiokjmaa", sum := "1ecea4e8a792f8c98145b904be09d37e8e227b72e891d424ac1ae508d743b37e", func := "loop.example/plcruntime/laws.FnExactDebounce", spec := "fnExactDebounce", apart := false }
def FnExactDebounceSaid : Prop := fnExactDebounceRow.holds Try.pinned (OpenSpec.ofChange fnExactDebounceSpec)

/-- ITS FALSE NEIGHBOUR: 'it returns false'. Refute it at one input. -/
def fnExactDebounceWrong : ChangeSpec := { name := "fnExactDebounce", fn := fun _ => fun
  | [d1, d2, d3] => { results := [.lit (.bool false)], args := [d1, d2, d3] }
  | _ => none }
def FnExactDebounceWrongFalsely : Prop := fnExactDebounceRow.holds Try.pinned (OpenSpec.ofChange fnExactDebounceWrong)

/-- 'laws.FnExactGetBit': WHATEVER THE INPUT: true; the input reads as it did. -/
def fnExactGetBitSpec : ChangeSpec := { name := "fnExactGetBit", fn := fun _ => fun
  | [d1, d2] => { results := [.lit (.bool true)], args := [d1, d2] }
  | _ => none }
def fnExactGetBitRow : OpenClaim := { program := "ytflemeaaiokjmaa", sum := "1ecea4e8a792f8c98145b904be09d37e8e227b72e891d424ac1ae508d743b37e", func := "loop.example/plcruntime/laws.FnExactGetBit", spec := "fnExactGetBit", apart := false }
def FnExactGetBitSaid : Prop := fnExactGetBitRow.holds Try.pinned (OpenSpec.ofChange fnExactGetBitSpec)

/-- ITS FALSE NEIGHBOUR: 'it returns false'. Refute it at one input. -/
def fnExactGetBitWrong : ChangeSpec := { name := "fnExactGetBit", fn := fun _ => fun
  | [d1, d2] => { results := [.lit (.bool false)], args := [d1, d2] }
  | _ => none }
def FnExactGetBitWrongFalsely : Prop := fnExactGetBitRow.holds Try.pinned (OpenSpec.ofChange fnExactGetBitWrong)

/-- 'laws.FnExactGetWord': WHATEVER THE INPUT: true; the input reads as it did. -/
def fnExactGetWordSpec : ChangeSpec := { name := "fnExactGetWord", fn := fun _ => fun
  | [d1, d2] => { results := [.lit (.bool true)], args := [d1, d2] }
  | _ => none }
def fnExactGetWordRow : OpenClaim := { program := "ytflemeaaiokjmaa", sum := "1ecea4e8a792f8c98145b904be09d37e8e227b72e891d424ac1ae508d743b37e", func := "loop.example/plcruntime/laws.FnExactGetWord", spec := "fnExactGetWord", apart := false }
def FnExactGetWordSaid : Prop := fnExactGetWordRow.holds Try.pinned (OpenSpec.ofChange fnExactGetWordSpec)

/-- ITS FALSE NEIGHBOUR: 'it returns false'. Refute it at one input. -/
def fnExactGetWordWrong : ChangeSpec := { name := "fnExactGetWord", fn := fun _ => fun
  | [d1, d2] => { results := [.lit (.bool false)], args := [d1, d2] }
  | _ => none }
def FnExactGetWordWrongFalsely : Prop := fnExactGetWordRow.holds Try.pinned (OpenSpec.ofChange fnExactGetWordWrong)

/-- 'laws.FnExactCountEdges': WHATEVER THE INPUT: true; the input reads as it did. -/
def fnExactCountEdgesSpec : ChangeSpec := { name := "fnExactCountEdges", fn := fun _ => fun
  | [d1, d2] => { results := [.lit (.bool true)], args := [d1, d2] }
  | _ => none }
def fnExactCountEdgesRow : OpenClaim := { program := "ytflemeaaiokjmaa", sum := "1ecea4e8a792f8c98145b904be09d37e8e227b72e891d424ac1ae508d743b37e", func := "loop.example/plcruntime/laws.FnExactCountEdges", spec := "fnExactCountEdges", apart := false }
def FnExactCountEdgesSaid : Prop := fnExactCountEdgesRow.holds Try.pinned (OpenSpec.ofChange fnExactCountEdgesSpec)

/-- ITS FALSE NEIGHBOUR: 'it returns false'. Refute it at one input. -/
def fnExactCountEdgesWrong : ChangeSpec := { name := "fnExactCountEdges", fn := fun _ => fun
  | [d1, d2] => { results := [.lit (.bool false)], args := [d1, d2] }
  | _ => none }
def FnExactCountEdgesWrongFalsely : Prop := fnExactCountEdgesRow.holds Try.pinned (OpenSpec.ofChange fnExactCountEdgesWrong)

/-- 'laws.FnExactTimerStep': WHATEVER THE INPUT: true; the input reads as it did. -/
def fnExactTimerStepSpec : ChangeSpec := { name := "fnExactTimerStep", fn := fun _ => fun
  | [d1, d2, d3] => { results := [.lit (.bool true)], args := [d1, d2, d3] }
  | _ => none }
def fnExactTimerStepRow : OpenClaim := { program := "ytflemeaaiokjmaa", sum := "1ecea4e8a792f8c98145b904be09d37e8e227b72e891d424ac1ae508d743b37e", func := "loop.example/plcruntime/laws.FnExactTimerStep", spec := "fnExactTimerStep", apart := false }
def FnExactTimerStepSaid : Prop := fnExactTimerStepRow.holds Try.pinned (OpenSpec.ofChange fnExactTimerStepSpec)

/-- ITS FALSE NEIGHBOUR: 'it returns false'. Refute it at one input. -/
def fnExactTimerStepWrong : ChangeSpec := { name := "fnExactTimerStep", fn := fun _ => fun
  | [d1, d2, d3] => { results := [.lit (.bool false)], args := [d1, d2, d3] }
  | _ => none }
def FnExactTimerStepWrongFalsely : Prop := fnExactTimerStepRow.holds Try.pinned (OpenSpec.ofChange fnExactTimerStepWrong)

/-- 'laws.FnExactTimerTrace': WHATEVER THE INPUT: true; the input reads as it did. -/
def fnExactTimerTraceSpec : ChangeSpec := { name := "fnExactTimerTrace", fn := fun _ => fun
  | [d1, d2, d3] => { results := [.lit (.bool true)], args := [d1, d2, d3] }
  | _ => none }
def fnExactTimerTraceRow : OpenClaim := { program := "ytflemeaaiokjmaa", sum := "1ecea4e8a792f8c98145b904be09d37e8e227b72e891d424ac1ae508d743b37e", func := "loop.example/plcruntime/laws.FnExactTimerTrace", spec := "fnExactTimerTrace", apart := false }
def FnExactTimerTraceSaid : Prop := fnExactTimerTraceRow.holds Try.pinned (OpenSpec.ofChange fnExactTimerTraceSpec)

/-- ITS FALSE NEIGHBOUR: 'it returns false'. Refute it at one input. -/
def fnExactTimerTraceWrong : ChangeSpec := { name := "fnExactTimerTrace", fn := fun _ => fun
  | [d1, d2, d3] => { results := [.lit (.bool false)], args := [d1, d2, d3] }
  | _ => none }
def FnExactTimerTraceWrongFalsely : Prop := fnExactTimerTraceRow.holds Try.pinned (OpenSpec.ofChange fnExactTimerTraceWrong)

/-- 'laws.FnTimerOn': WHATEVER THE INPUT: true; the input reads as it did. -/
def fnTimerOnSpec : ChangeSpec := { name := "fnTimerOn", fn := fun _ => fun
  | [d1, d2] => { results := [.lit (.bool true)], args := [d1, d2] }
  | _ => none }
def fnTimerOnRow : OpenClaim := { program := "ytflemeaaiokjmaa", sum := "1ecea4e8a792f8c98145b904be09d37e8e227b72e891d424ac1ae508d743b37e", func := "loop.example/plcruntime/laws.FnTimerOn", spec := "fnTimerOn", apart := false }
def FnTimerOnSaid : Prop := fnTimerOnRow.holds Try.pinned (OpenSpec.ofChange fnTimerOnSpec)

/-- ITS FALSE NEIGHBOUR: 'it returns false'. Refute it at one input. -/
def fnTimerOnWrong : ChangeSpec := { name := "fnTimerOn", fn := fun _ => fun
  | [d1, d2] => { results := [.lit (.bool false)], args := [d1, d2] }
  | _ => none }
def FnTimerOnWrongFalsely : Prop := fnTimerOnRow.holds Try.pinned (OpenSpec.ofChange fnTimerOnWrong)

/-- 'laws.FnTimerPulse': WHATEVER THE INPUT: true; the input reads as it did. -/
def fnTimerPulseSpec : ChangeSpec := { name := "fnTimerPulse", fn := fun _ => fun
  | [d1, d2] => { results := [.lit (.bool true)], args := [d1, d2] }
  | _ => none }
def fnTimerPulseRow : OpenClaim := { program := "ytflemeaaiokjmaa", sum := "1ecea4e8a792f8c98145b904be09d37e8e227b72e891d424ac1ae508d743b37e", func := "loop.example/plcruntime/laws.FnTimerPulse", spec := "fnTimerPulse", apart := false }
def FnTimerPulseSaid : Prop := fnTimerPulseRow.holds Try.pinned (OpenSpec.ofChange fnTimerPulseSpec)

/-- ITS FALSE NEIGHBOUR: 'it returns false'. Refute it at one input. -/
def fnTimerPulseWrong : ChangeSpec := { name := "fnTimerPulse", fn := fun _ => fun
  | [d1, d2] => { results := [.lit (.bool false)], args := [d1, d2] }
  | _ => none }
def FnTimerPulseWrongFalsely : Prop := fnTimerPulseRow.holds Try.pinned (OpenSpec.ofChange fnTimerPulseWrong)

/-- 'laws.FnTimerOff': WHATEVER THE INPUT: true; the input reads as it did. -/
def fnTimerOffSpec : ChangeSpec := { name := "fnTimerOff", fn := fun _ => fun
  | [d1, d2] => { results := [.lit (.bool true)], args := [d1, d2] }
  | _ => none }
def fnTimerOffRow : OpenClaim := { program := "ytflemeaaiokjmaa", sum := "1ecea4e8a792f8c98145b904be09d37e8e227b72e891d424ac1ae508d743b37e", func := "loop.example/plcruntime/laws.FnTimerOff", spec := "fnTimerOff", apart := false }
def FnTimerOffSaid : Prop := fnTimerOffRow.holds Try.pinned (OpenSpec.ofChange fnTimerOffSpec)

/-- ITS FALSE NEIGHBOUR: 'it returns false'. Refute it at one input. -/
def fnTimerOffWrong : ChangeSpec := { name := "fnTimerOff", fn := fun _ => fun
  | [d1, d2] => { results := [.lit (.bool false)], args := [d1, d2] }
  | _ => none }
def FnTimerOffWrongFalsely : Prop := fnTimerOffRow.holds Try.pinned (OpenSpec.ofChange fnTimerOffWrong)

/-- 'laws.FnExactStatementTokens': WHATEVER THE INPUT: true; the input reads as it did. -/
def fnExactStatementTokensSpec : ChangeSpec := { name := "fnExactStatementTokens", fn := fun _ => fun
  | [d] => { results := [.lit (.bool true)], args := [d] }
  | _ => none }
def fnExactStatementTokensRow : OpenClaim := { program := "ytflemeaaiokjmaa", sum := "1ecea4e8a792f8c98145b904be09d37e8e227b72e891d424ac1ae508d743b37e", func := "loop.example/plcruntime/laws.FnExactStatementTokens", spec := "fnExactStatementTokens", apart := false }
def FnExactStatementTokensSaid : Prop := fnExactStatementTokensRow.holds Try.pinned (OpenSpec.ofChange fnExactStatementTokensSpec)

/-- ITS FALSE NEIGHBOUR: 'it returns false'. Refute it at one input. -/
def fnExactStatementTokensWrong : ChangeSpec := { name := "fnExactStatementTokens", fn := fun _ => fun
  | [d] => { results := [.lit (.bool false)], args := [d] }
  | _ => none }
def FnExactStatementTokensWrongFalsely : Prop := fnExactStatementTokensRow.holds Try.pinned (OpenSpec.ofChange fnExactStatementTokensWrong)

/- THE SECOND FORM. 'bulk': how many values and letters a reading holds, each counted each time it is reached (what is shared counts as often as it is met; a slice's spare places count too). A statement '..UptoSaid' is the law's where the arguments, and the package variables that the reading takes, are together of bulk at most 1048576: NARROWER than '..Said'. Prove '..Said' where nothing that the law and all that it calls make is longer than what came in: it says more and counts as full. Else prove '..UptoSaid'. A law counts once. -/
mutual
def uptoBulk {H : Type} : DataW H → Nat
  | .lit (.string bytes) => bytes.length + 1
  | .lit _ => 1
  | .nil => 1
  | .ptr d => uptoBulk d + 1
  | .slice elems spare => uptoBulkAll elems + uptoBulkAll spare + 1
  | .agg parts => uptoBulkAll parts + 1
  | .iface _ d => uptoBulk d + 1
  | .map entries => uptoBulkEntries entries + 1
  | .held _ => 1
def uptoBulkAll {H : Type} : List (DataW H) → Nat
  | [] => 0
  | d :: r => uptoBulk d + uptoBulkAll r
def uptoBulkEntries {H : Type} : List (Lit × DataW H) → Nat
  | [] => 0
  | x :: r => uptoBulkEntry x + uptoBulkEntries r
def uptoBulkEntry {H : Type} : Lit × DataW H → Nat
  | (.string bytes, d) => bytes.length + uptoBulk d + 1
  | (_, d) => uptoBulk d + 1
 end
def uptoSmall : (H : Type) → List (DataW H) → Bool := fun _ ds => decide (uptoBulkAll ds ≤ 1048576)
def OpenSpec.upto (s : _root_.Go.ChangeSpec) : _root_.Go.OpenSpec := { _root_.Go.OpenSpec.ofChange s with cond := some uptoSmall }

/-- 'laws.FnResetDominant', WHERE WHAT IT READS IS OF BULK AT MOST 1048576: true; the input reads as it did. -/
def fnResetDominantUptoRow : OpenClaim := { program := "ytflemeaaiokjmaa", sum := "1ecea4e8a792f8c98145b904be09d37e8e227b72e891d424ac1ae508d743b37e", func := "loop.example/plcruntime/laws.FnResetDominant", spec := "fnResetDominant", apart := false, narrowed := true }
def FnResetDominantUptoSaid : Prop := fnResetDominantUptoRow.holds Try.pinned (OpenSpec.upto fnResetDominantSpec)

/-- 'laws.FnExactNewTimer', WHERE WHAT IT READS IS OF BULK AT MOST 1048576: true; the input reads as it did. -/
def fnExactNewTimerUptoRow : OpenClaim := { program := "ytflemeaaiokjmaa", sum := "1ecea4e8a792f8c98145b904be09d37e8e227b72e891d424ac1ae508d743b37e", func := "loop.example/plcruntime/laws.FnExactNewTimer", spec := "fnExactNewTimer", apart := false, narrowed := true }
def FnExactNewTimerUptoSaid : Prop := fnExactNewTimerUptoRow.holds Try.pinned (OpenSpec.upto fnExactNewTimerSpec)

/-- 'laws.FnExactEdgeTrace', WHERE WHAT IT READS IS OF BULK AT MOST 1048576: true; the input reads as it did. -/
def fnExactEdgeTraceUptoRow : OpenClaim := { program := "ytflemeaaiokjmaa", sum := "1ecea4e8a792f8c98145b904be09d37e8e227b72e891d424ac1ae508d743b37e", func := "loop.example/plcruntime/laws.FnExactEdgeTrace", spec := "fnExactEdgeTrace", apart := false, narrowed := true }
def FnExactEdgeTraceUptoSaid : Prop := fnExactEdgeTraceUptoRow.holds Try.pinned (OpenSpec.upto fnExactEdgeTraceSpec)

/-- 'laws.FnExactCounterStep', WHERE WHAT IT READS IS OF BULK AT MOST 1048576: true; the input reads as it did. -/
def fnExactCounterStepUptoRow : OpenClaim := { program := "ytflemeaaiokjmaa", sum := "1ecea4e8a792f8c98145b904be09d37e8e227b72e891d424ac1ae508d743b37e", func := "loop.example/plcruntime/laws.FnExactCounterStep", spec := "fnExactCounterStep", apart := false, narrowed := true }
def FnExactCounterStepUptoSaid : Prop := fnExactCounterStepUptoRow.holds Try.pinned (OpenSpec.upto fnExactCounterStepSpec)

/-- 'laws.FnExactDebounce', WHERE WHAT IT READS IS OF BULK AT MOST 1048576: true; the input reads as it did. -/
def fnExactDebounceUptoRow : OpenClaim := { program := "ytflemeaaiokjmaa", sum := "1ecea4e8a792f8c98145b904be09d37e8e227b72e891d424ac1ae508d743b37e", func := "loop.example/plcruntime/laws.FnExactDebounce", spec := "fnExactDebounce", apart := false, narrowed := true }
def FnExactDebounceUptoSaid : Prop := fnExactDebounceUptoRow.holds Try.pinned (OpenSpec.upto fnExactDebounceSpec)

/-- 'laws.FnExactGetBit', WHERE WHAT IT READS IS OF BULK AT MOST 1048576: true; the input reads as it did. -/
def fnExactGetBitUptoRow : OpenClaim := { program := "ytflemeaaiokjmaa", sum := "1ecea4e8a792f8c98145b904be09d37e8e227b72e891d424ac1ae508d743b37e", func := "loop.example/plcruntime/laws.FnExactGetBit", spec := "fnExactGetBit", apart := false, narrowed := true }
def FnExactGetBitUptoSaid : Prop := fnExactGetBitUptoRow.holds Try.pinned (OpenSpec.upto fnExactGetBitSpec)

/-- 'laws.FnExactGetWord', WHERE WHAT IT READS IS OF BULK AT MOST 1048576: true; the input reads as it did. -/
def fnExactGetWordUptoRow : OpenClaim := { program := "ytflemeaaiokjmaa", sum := "1ecea4e8a792f8c98145b904be09d37e8e227b72e891d424ac1ae508d743b37e", func := "loop.example/plcruntime/laws.FnExactGetWord", spec := "fnExactGetWord", apart := false, narrowed := true }
def FnExactGetWordUptoSaid : Prop := fnExactGetWordUptoRow.holds Try.pinned (OpenSpec.upto fnExactGetWordSpec)

/-- 'laws.FnExactCountEdges', WHERE WHAT IT READS IS OF BULK AT MOST 1048576: true; the input reads as it did. -/
def fnExactCountEdgesUptoRow : OpenClaim := { program := "ytflemeaaiokjmaa", sum := "1ecea4e8a792f8c98145b904be09d37e8e227b72e891d424ac1ae508d743b37e", func := "loop.example/plcruntime/laws.FnExactCountEdges", spec := "fnExactCountEdges", apart := false, narrowed := true }
def FnExactCountEdgesUptoSaid : Prop := fnExactCountEdgesUptoRow.holds Try.pinned (OpenSpec.upto fnExactCountEdgesSpec)

/-- 'laws.FnExactTimerStep', WHERE WHAT IT READS IS OF BULK AT MOST 1048576: true; the input reads as it did. -/
def fnExactTimerStepUptoRow : OpenClaim := { program := "ytflemeaaiokjmaa", sum := "1ecea4e8a792f8c98145b904be09d37e8e227b72e891d424ac1ae508d743b37e", func := "loop.example/plcruntime/laws.FnExactTimerStep", spec := "fnExactTimerStep", apart := false, narrowed := true }
def FnExactTimerStepUptoSaid : Prop := fnExactTimerStepUptoRow.holds Try.pinned (OpenSpec.upto fnExactTimerStepSpec)

/-- 'laws.FnExactTimerTrace', WHERE WHAT IT READS IS OF BULK AT MOST 1048576: true; the input reads as it did. -/
def fnExactTimerTraceUptoRow : OpenClaim := { program := "ytflemeaaiokjmaa", sum := "1ecea4e8a792f8c98145b904be09d37e8e227b72e891d424ac1ae508d743b37e", func := "loop.example/plcruntime/laws.FnExactTimerTrace", spec := "fnExactTimerTrace", apart := false, narrowed := true }
def FnExactTimerTraceUptoSaid : Prop := fnExactTimerTraceUptoRow.holds Try.pinned (OpenSpec.upto fnExactTimerTraceSpec)

/-- 'laws.FnTimerOn', WHERE WHAT IT READS IS OF BULK AT MOST 1048576: true; the input reads as it did. -/
def fnTimerOnUptoRow : OpenClaim := { program := "ytflemeaaiokjmaa", sum := "1ecea4e8a792f8c98145b904be09d37e8e227b72e891d424ac1ae508d743b37e", func := "loop.example/plcruntime/laws.FnTimerOn", spec := "fnTimerOn", apart := false, narrowed := true }
def FnTimerOnUptoSaid : Prop := fnTimerOnUptoRow.holds Try.pinned (OpenSpec.upto fnTimerOnSpec)

/-- 'laws.FnTimerPulse', WHERE WHAT IT READS IS OF BULK AT MOST 1048576: true; the input reads as it did. -/
def fnTimerPulseUptoRow : OpenClaim := { program := "ytflemeaaiokjmaa", sum := "1ecea4e8a792f8c98145b904be09d37e8e227b72e891d424ac1ae508d743b37e", func := "loop.example/plcruntime/laws.FnTimerPulse", spec := "fnTimerPulse", apart := false, narrowed := true }
def FnTimerPulseUptoSaid : Prop := fnTimerPulseUptoRow.holds Try.pinned (OpenSpec.upto fnTimerPulseSpec)

/-- 'laws.FnTimerOff', WHERE WHAT IT READS IS OF BULK AT MOST 1048576: true; the input reads as it did. -/
def fnTimerOffUptoRow : OpenClaim := { program := "ytflemeaaiokjmaa", sum := "1ecea4e8a792f8c98145b904be09d37e8e227b72e891d424ac1ae508d743b37e", func := "loop.example/plcruntime/laws.FnTimerOff", spec := "fnTimerOff", apart := false, narrowed := true }
def FnTimerOffUptoSaid : Prop := fnTimerOffUptoRow.holds Try.pinned (OpenSpec.upto fnTimerOffSpec)

/-- 'laws.FnExactStatementTokens', WHERE WHAT IT READS IS OF BULK AT MOST 1048576: true; the input reads as it did. -/
def fnExactStatementTokensUptoRow : OpenClaim := { program := "ytflemeaaiokjmaa", sum := "1ecea4e8a792f8c98145b904be09d37e8e227b72e891d424ac1ae508d743b37e", func := "loop.example/plcruntime/laws.FnExactStatementTokens", spec := "fnExactStatementTokens", apart := false, narrowed := true }
def FnExactStatementTokensUptoSaid : Prop := fnExactStatementTokensUptoRow.holds Try.pinned (OpenSpec.upto fnExactStatementTokensSpec)

end Rows
end Go.Proofs.Ytflemeaaiokjmaa
