/-
  No cell of these rows narrows 'for every input' (looked for: loops, veiled, ifaces, maps, wideKeys, modest, calm, conditions, laid).
  DERIVED. THE GIVEN ROWS OF THIS SEAT. 12 by the template 'for every input the law returns true; each argument reads behind the call as it read before'; 0 by the template 'total and deterministic' (their statements: YtdcjbnedbohofaaTotals.lean).
  GIVEN WITH THE SEED: the statements are not yours to turn. If you find one false, say at which input.
  Laid BY PROGRAM, IN A SANDBOX (cutbox-rows.mjs): the forced cells as the released guide's own fill.sh prints them over the translation 436a44d69a4fa7d9… (all of the seat's roots in one cut). By AI agents, Wed Nov 11 2026. No macro, syntax, notation, axiom, sorry.
-/
import Derived.Test.YtdcjbnedbohofaaChecked
import GoSem.Claim
import GoSem.ClaimJoined
import GoSem.ClaimMapViews
import Derived.JoinedTies
import Derived.KernelRfl
namespace Go.Proofs.Ytdcjbnedbohofaa
/- THE CELL 'sum', in the pinned program and in every row, IS THE sha256 OF THE DUMP (.gsa) THAT YtdcjbnedbohofaaProg.lean LOADS. Nothing in Lean hashes anything: it is a label: what it is worth is what the hold of that sum in a sandbox is worth. -/
noncomputable def Try.pinned : Pinned := { name := "ytdcjbnedbohofaa", sum := "436a44d69a4fa7d94172da84ecb2626cb5b3ad1e454126bf328343abe0245c5d", checked := Try.checked }
namespace Rows
def none {H : Type} : Left H := { results := [], args := [] }

/-- 'laws.FnExactConstants': WHATEVER THE INPUT: true; the input reads as it did. -/
def fnExactConstantsSpec : ChangeSpec := { name := "fnExactConstants", fn := fun _ => fun
  | [] => { results := [.lit (.bool true)], args := [] }
  | _ => none }
def fnExactConstantsRow : OpenClaim := { program := "ytdcjbnedbohofaa", sum := "436a44d69a4fa7d94172da84ecb2626cb5b3ad1e454126bf328343abe0245c5d", func := "loop.example/plcruntime/laws.FnExactConstants", spec := "fnExactConstants", apart := false }
def FnExactConstantsSaid : Prop := fnExactConstantsRow.holds Try.pinned (OpenSpec.ofChange fnExactConstantsSpec)

/-- ITS FALSE NEIGHBOUR: 'it returns false'. Refute it at one input. -/
def fnExactConstantsWrong : ChangeSpec := { name := "fnExactConstants", fn := fun _ => fun
  | [] => { results := [.lit (.bool false)], args := [] }
  | _ => none }
def FnExactConstantsWrongFalsely : Prop := fnExactConstantsRow.holds Try.pinned (OpenSpec.ofChange fnExactConstantsWrong)

/-- 'laws.FnExactResetDominant': WHATEVER THE INPUT: true; the input reads as it did. -/
def fnExactResetDominantSpec : ChangeSpec := { name := "fnExactResetDominant", fn := fun _ => fun
  | [d1, d2, d3] => { results := [.lit (.bool true)], args := [d1, d2, d3] }
  | _ => none }
def fnExactResetDominantRow : OpenClaim := { program := "ytdcjbnedbohofaa", sum := "436a44d69a4fa7d94172da84ecb2626cb5b3ad1e454126bf328343abe0245c5d", func := "loop.example/plcruntime/laws.FnExactResetDominant", spec := "fnExactResetDominant", apart := false }
def FnExactResetDominantSaid : Prop := fnExactResetDominantRow.holds Try.pinned (OpenSpec.ofChange fnExactResetDominantSpec)

/-- ITS FALSE NEIGHBOUR: 'it returns false'. Refute it at one input. -/
def fnExactResetDominantWrong : ChangeSpec := { name := "fnExactResetDominant", fn := fun _ => fun
  | [d1, d2, d3] => { results := [.lit (.bool false)], args := [d1, d2, d3] }
  | _ => none }
def FnExactResetDominantWrongFalsely : Prop := fnExactResetDominantRow.holds Try.pinned (OpenSpec.ofChange fnExactResetDominantWrong)

/-- 'laws.FnExactRisingEdge': WHATEVER THE INPUT: true; the input reads as it did. -/
def fnExactRisingEdgeSpec : ChangeSpec := { name := "fnExactRisingEdge", fn := fun _ => fun
  | [d1, d2] => { results := [.lit (.bool true)], args := [d1, d2] }
  | _ => none }
def fnExactRisingEdgeRow : OpenClaim := { program := "ytdcjbnedbohofaa", sum := "436a44d69a4fa7d94172da84ecb2626cb5b3ad1e454126bf328343abe0245c5d", func := "loop.example/plcruntime/laws.FnExactRisingEdge", spec := "fnExactRisingEdge", apart := false }
def FnExactRisingEdgeSaid : Prop := fnExactRisingEdgeRow.holds Try.pinned (OpenSpec.ofChange fnExactRisingEdgeSpec)

/-- ITS FALSE NEIGHBOUR: 'it returns false'. Refute it at one input. -/
def fnExactRisingEdgeWrong : ChangeSpec := { name := "fnExactRisingEdge", fn := fun _ => fun
  | [d1, d2] => { results := [.lit (.bool false)], args := [d1, d2] }
  | _ => none }
def FnExactRisingEdgeWrongFalsely : Prop := fnExactRisingEdgeRow.holds Try.pinned (OpenSpec.ofChange fnExactRisingEdgeWrong)

/-- 'laws.FnExactSetDominant': WHATEVER THE INPUT: true; the input reads as it did. -/
def fnExactSetDominantSpec : ChangeSpec := { name := "fnExactSetDominant", fn := fun _ => fun
  | [d1, d2, d3] => { results := [.lit (.bool true)], args := [d1, d2, d3] }
  | _ => none }
def fnExactSetDominantRow : OpenClaim := { program := "ytdcjbnedbohofaa", sum := "436a44d69a4fa7d94172da84ecb2626cb5b3ad1e454126bf328343abe0245c5d", func := "loop.example/plcruntime/laws.FnExactSetDominant", spec := "fnExactSetDominant", apart := false }
def FnExactSetDominantSaid : Prop := fnExactSetDominantRow.holds Try.pinned (OpenSpec.ofChange fnExactSetDominantSpec)

/-- ITS FALSE NEIGHBOUR: 'it returns false'. Refute it at one input. -/
def fnExactSetDominantWrong : ChangeSpec := { name := "fnExactSetDominant", fn := fun _ => fun
  | [d1, d2, d3] => { results := [.lit (.bool false)], args := [d1, d2, d3] }
  | _ => none }
def FnExactSetDominantWrongFalsely : Prop := fnExactSetDominantRow.holds Try.pinned (OpenSpec.ofChange fnExactSetDominantWrong)

/-- 'laws.FnExactCounterValid': WHATEVER THE INPUT: true; the input reads as it did. -/
def fnExactCounterValidSpec : ChangeSpec := { name := "fnExactCounterValid", fn := fun _ => fun
  | [d] => { results := [.lit (.bool true)], args := [d] }
  | _ => none }
def fnExactCounterValidRow : OpenClaim := { program := "ytdcjbnedbohofaa", sum := "436a44d69a4fa7d94172da84ecb2626cb5b3ad1e454126bf328343abe0245c5d", func := "loop.example/plcruntime/laws.FnExactCounterValid", spec := "fnExactCounterValid", apart := false }
def FnExactCounterValidSaid : Prop := fnExactCounterValidRow.holds Try.pinned (OpenSpec.ofChange fnExactCounterValidSpec)

/-- ITS FALSE NEIGHBOUR: 'it returns false'. Refute it at one input. -/
def fnExactCounterValidWrong : ChangeSpec := { name := "fnExactCounterValid", fn := fun _ => fun
  | [d] => { results := [.lit (.bool false)], args := [d] }
  | _ => none }
def FnExactCounterValidWrongFalsely : Prop := fnExactCounterValidRow.holds Try.pinned (OpenSpec.ofChange fnExactCounterValidWrong)

/-- 'laws.FnExactHysteresis': WHATEVER THE INPUT: true; the input reads as it did. -/
def fnExactHysteresisSpec : ChangeSpec := { name := "fnExactHysteresis", fn := fun _ => fun
  | [d1, d2, d3, d4] => { results := [.lit (.bool true)], args := [d1, d2, d3, d4] }
  | _ => none }
def fnExactHysteresisRow : OpenClaim := { program := "ytdcjbnedbohofaa", sum := "436a44d69a4fa7d94172da84ecb2626cb5b3ad1e454126bf328343abe0245c5d", func := "loop.example/plcruntime/laws.FnExactHysteresis", spec := "fnExactHysteresis", apart := false }
def FnExactHysteresisSaid : Prop := fnExactHysteresisRow.holds Try.pinned (OpenSpec.ofChange fnExactHysteresisSpec)

/-- ITS FALSE NEIGHBOUR: 'it returns false'. Refute it at one input. -/
def fnExactHysteresisWrong : ChangeSpec := { name := "fnExactHysteresis", fn := fun _ => fun
  | [d1, d2, d3, d4] => { results := [.lit (.bool false)], args := [d1, d2, d3, d4] }
  | _ => none }
def FnExactHysteresisWrongFalsely : Prop := fnExactHysteresisRow.holds Try.pinned (OpenSpec.ofChange fnExactHysteresisWrong)

/-- 'laws.FnExactTimerValid': WHATEVER THE INPUT: true; the input reads as it did. -/
def fnExactTimerValidSpec : ChangeSpec := { name := "fnExactTimerValid", fn := fun _ => fun
  | [d] => { results := [.lit (.bool true)], args := [d] }
  | _ => none }
def fnExactTimerValidRow : OpenClaim := { program := "ytdcjbnedbohofaa", sum := "436a44d69a4fa7d94172da84ecb2626cb5b3ad1e454126bf328343abe0245c5d", func := "loop.example/plcruntime/laws.FnExactTimerValid", spec := "fnExactTimerValid", apart := false }
def FnExactTimerValidSaid : Prop := fnExactTimerValidRow.holds Try.pinned (OpenSpec.ofChange fnExactTimerValidSpec)

/-- ITS FALSE NEIGHBOUR: 'it returns false'. Refute it at one input. -/
def fnExactTimerValidWrong : ChangeSpec := { name := "fnExactTimerValid", fn := fun _ => fun
  | [d] => { results := [.lit (.bool false)], args := [d] }
  | _ => none }
def FnExactTimerValidWrongFalsely : Prop := fnExactTimerValidRow.holds Try.pinned (OpenSpec.ofChange fnExactTimerValidWrong)

/-- 'laws.FnExactCounterEmpty': WHATEVER THE INPUT: true; the input reads as it did. -/
def fnExactCounterEmptySpec : ChangeSpec := { name := "fnExactCounterEmpty", fn := fun _ => fun
  | [d] => { results := [.lit (.bool true)], args := [d] }
  | _ => none }
def fnExactCounterEmptyRow : OpenClaim := { program := "ytdcjbnedbohofaa", sum := "436a44d69a4fa7d94172da84ecb2626cb5b3ad1e454126bf328343abe0245c5d", func := "loop.example/plcruntime/laws.FnExactCounterEmpty", spec := "fnExactCounterEmpty", apart := false }
def FnExactCounterEmptySaid : Prop := fnExactCounterEmptyRow.holds Try.pinned (OpenSpec.ofChange fnExactCounterEmptySpec)

/-- ITS FALSE NEIGHBOUR: 'it returns false'. Refute it at one input. -/
def fnExactCounterEmptyWrong : ChangeSpec := { name := "fnExactCounterEmpty", fn := fun _ => fun
  | [d] => { results := [.lit (.bool false)], args := [d] }
  | _ => none }
def FnExactCounterEmptyWrongFalsely : Prop := fnExactCounterEmptyRow.holds Try.pinned (OpenSpec.ofChange fnExactCounterEmptyWrong)

/-- 'laws.FnExactCounterReached': WHATEVER THE INPUT: true; the input reads as it did. -/
def fnExactCounterReachedSpec : ChangeSpec := { name := "fnExactCounterReached", fn := fun _ => fun
  | [d] => { results := [.lit (.bool true)], args := [d] }
  | _ => none }
def fnExactCounterReachedRow : OpenClaim := { program := "ytdcjbnedbohofaa", sum := "436a44d69a4fa7d94172da84ecb2626cb5b3ad1e454126bf328343abe0245c5d", func := "loop.example/plcruntime/laws.FnExactCounterReached", spec := "fnExactCounterReached", apart := false }
def FnExactCounterReachedSaid : Prop := fnExactCounterReachedRow.holds Try.pinned (OpenSpec.ofChange fnExactCounterReachedSpec)

/-- ITS FALSE NEIGHBOUR: 'it returns false'. Refute it at one input. -/
def fnExactCounterReachedWrong : ChangeSpec := { name := "fnExactCounterReached", fn := fun _ => fun
  | [d] => { results := [.lit (.bool false)], args := [d] }
  | _ => none }
def FnExactCounterReachedWrongFalsely : Prop := fnExactCounterReachedRow.holds Try.pinned (OpenSpec.ofChange fnExactCounterReachedWrong)

/-- 'laws.FnRisingEdge': WHATEVER THE INPUT: true; the input reads as it did. -/
def fnRisingEdgeSpec : ChangeSpec := { name := "fnRisingEdge", fn := fun _ => fun
  | [d] => { results := [.lit (.bool true)], args := [d] }
  | _ => none }
def fnRisingEdgeRow : OpenClaim := { program := "ytdcjbnedbohofaa", sum := "436a44d69a4fa7d94172da84ecb2626cb5b3ad1e454126bf328343abe0245c5d", func := "loop.example/plcruntime/laws.FnRisingEdge", spec := "fnRisingEdge", apart := false }
def FnRisingEdgeSaid : Prop := fnRisingEdgeRow.holds Try.pinned (OpenSpec.ofChange fnRisingEdgeSpec)

/-- ITS FALSE NEIGHBOUR: 'it returns false'. Refute it at one input. -/
def fnRisingEdgeWrong : ChangeSpec := { name := "fnRisingEdge", fn := fun _ => fun
  | [d] => { results := [.lit (.bool false)], args := [d] }
  | _ => none }
def FnRisingEdgeWrongFalsely : Prop := fnRisingEdgeRow.holds Try.pinned (OpenSpec.ofChange fnRisingEdgeWrong)

/-- 'laws.FnExactDeadBand': WHATEVER THE INPUT: true; the input reads as it did. -/
def fnExactDeadBandSpec : ChangeSpec := { name := "fnExactDeadBand", fn := fun _ => fun
  | [d1, d2] => { results := [.lit (.bool true)], args := [d1, d2] }
  | _ => none }
def fnExactDeadBandRow : OpenClaim := { program := "ytdcjbnedbohofaa", sum := "436a44d69a4fa7d94172da84ecb2626cb5b3ad1e454126bf328343abe0245c5d", func := "loop.example/plcruntime/laws.FnExactDeadBand", spec := "fnExactDeadBand", apart := false }
def FnExactDeadBandSaid : Prop := fnExactDeadBandRow.holds Try.pinned (OpenSpec.ofChange fnExactDeadBandSpec)

/-- ITS FALSE NEIGHBOUR: 'it returns false'. Refute it at one input. -/
def fnExactDeadBandWrong : ChangeSpec := { name := "fnExactDeadBand", fn := fun _ => fun
  | [d1, d2] => { results := [.lit (.bool false)], args := [d1, d2] }
  | _ => none }
def FnExactDeadBandWrongFalsely : Prop := fnExactDeadBandRow.holds Try.pinned (OpenSpec.ofChange fnExactDeadBandWrong)

/-- 'laws.FnSetDominant': WHATEVER THE INPUT: true; the input reads as it did. -/
def fnSetDominantSpec : ChangeSpec := { name := "fnSetDominant", fn := fun _ => fun
  | [d] => { results := [.lit (.bool true)], args := [d] }
  | _ => none }
def fnSetDominantRow : OpenClaim := { program := "ytdcjbnedbohofaa", sum := "436a44d69a4fa7d94172da84ecb2626cb5b3ad1e454126bf328343abe0245c5d", func := "loop.example/plcruntime/laws.FnSetDominant", spec := "fnSetDominant", apart := false }
def FnSetDominantSaid : Prop := fnSetDominantRow.holds Try.pinned (OpenSpec.ofChange fnSetDominantSpec)

/-- ITS FALSE NEIGHBOUR: 'it returns false'. Refute it at one input. -/
def fnSetDominantWrong : ChangeSpec := { name := "fnSetDominant", fn := fun _ => fun
  | [d] => { results := [.lit (.bool false)], args := [d] }
  | _ => none }
def FnSetDominantWrongFalsely : Prop := fnSetDominantRow.holds Try.pinned (OpenSpec.ofChange fnSetDominantWrong)

/- THE SECOND FORM. 'bulk': how many values and letters a reading holds, each counted each time it is reached (what is shared counts as often as it is met; a slice's spare places count too). A statement '..UptoSaid' is the law's where the arguments, and the package variables that the reading takes, are together of bulk at most 1048576: NARROWER than '..Said'. Prove '..Said' where nothing that the law and all that it calls make is longer than what came in: it says more and counts as full. Else prove '..UptoSaid'. A law counts once. -/
mutual
def uptoBulk {H : Type} : DataW H → Nat
  | .lit (.string bytes) => bytes.length + 1
  | .lit _ => 1
  | .nil => 1
  | .ptr d => uptoBulk d + 1
  | .slice elems spare => uptoBulkAll elems + uptoBulkAll spare + 1
  | .agg parts => uptoBulkAll parts + 1
  | .iface _ d => uptoBulk d + 1
  | .map entries => uptoBulkEntries entries + 1
  | .held _ => 1
def uptoBulkAll {H : Type} : List (DataW H) → Nat
  | [] => 0
  | d :: r => uptoBulk d + uptoBulkAll r
def uptoBulkEntries {H : Type} : List (Lit × DataW H) → Nat
  | [] => 0
  | x :: r => uptoBulkEntry x + uptoBulkEntries r
def uptoBulkEntry {H : Type} : Lit × DataW H → Nat
  | (.string bytes, d) => bytes.length + uptoBulk d + 1
  | (_, d) => uptoBulk d + 1
 end
def uptoSmall : (H : Type) → List (DataW H) → Bool := fun _ ds => decide (uptoBulkAll ds ≤ 1048576)
def OpenSpec.upto (s : _root_.Go.ChangeSpec) : _root_.Go.OpenSpec := { _root_.Go.OpenSpec.ofChange s with cond := some uptoSmall }

/-- 'laws.FnExactConstants', WHERE WHAT IT READS IS OF BULK AT MOST 1048576: true; the input reads as it did. -/
def fnExactConstantsUptoRow : OpenClaim := { program := "ytdcjbnedbohofaa", sum := "436a44d69a4fa7d94172da84ecb2626cb5b3ad1e454126bf328343abe0245c5d", func := "loop.example/plcruntime/laws.FnExactConstants", spec := "fnExactConstants", apart := false, narrowed := true }
def FnExactConstantsUptoSaid : Prop := fnExactConstantsUptoRow.holds Try.pinned (OpenSpec.upto fnExactConstantsSpec)

/-- 'laws.FnExactResetDominant', WHERE WHAT IT READS IS OF BULK AT MOST 1048576: true; the input reads as it did. -/
def fnExactResetDominantUptoRow : OpenClaim := { program := "ytdcjbnedbohofaa", sum := "436a44d69a4fa7d94172da84ecb2626cb5b3ad1e454126bf328343abe0245c5d", func := "loop.example/plcruntime/laws.FnExactResetDominant", spec := "fnExactResetDominant", apart := false, narrowed := true }
def FnExactResetDominantUptoSaid : Prop := fnExactResetDominantUptoRow.holds Try.pinned (OpenSpec.upto fnExactResetDominantSpec)

/-- 'laws.FnExactRisingEdge', WHERE WHAT IT READS IS OF BULK AT MOST 1048576: true; the input reads as it did. -/
def fnExactRisingEdgeUptoRow : OpenClaim := { program := "ytdcjbnedbohofaa", sum := "436a44d69a4fa7d94172da84ecb2626cb5b3ad1e454126bf328343abe0245c5d", func := "loop.example/plcruntime/laws.FnExactRisingEdge", spec := "fnExactRisingEdge", apart := false, narrowed := true }
def FnExactRisingEdgeUptoSaid : Prop := fnExactRisingEdgeUptoRow.holds Try.pinned (OpenSpec.upto fnExactRisingEdgeSpec)

/-- 'laws.FnExactSetDominant', WHERE WHAT IT READS IS OF BULK AT MOST 1048576: true; the input reads as it did. -/
def fnExactSetDominantUptoRow : OpenClaim := { program := "ytdcjbnedbohofaa", sum := "436a44d69a4fa7d94172da84ecb2626cb5b3ad1e454126bf328343abe0245c5d", func := "loop.example/plcruntime/laws.FnExactSetDominant", spec := "fnExactSetDominant", apart := false, narrowed := true }
def FnExactSetDominantUptoSaid : Prop := fnExactSetDominantUptoRow.holds Try.pinned (OpenSpec.upto fnExactSetDominantSpec)

/-- 'laws.FnExactCounterValid', WHERE WHAT IT READS IS OF BULK AT MOST 1048576: true; the input reads as it did. -/
def fnExactCounterValidUptoRow : OpenClaim := { program := "ytdcjbnedbohofaa", sum := "436a44d69a4fa7d94172da84ecb2626cb5b3ad1e454126bf328343abe0245c5d", func := "loop.example/plcruntime/laws.FnExactCounterValid", spec := "fnExactCounterValid", apart := false, narrowed := true }
def FnExactCounterValidUptoSaid : Prop := fnExactCounterValidUptoRow.holds Try.pinned (OpenSpec.upto fnExactCounterValidSpec)

/-- 'laws.FnExactHysteresis', WHERE WHAT IT READS IS OF BULK AT MOST 1048576: true; the input reads as it did. -/
def fnExactHysteresisUptoRow : OpenClaim := { program := "ytdcjbnedbohofaa", sum := "436a44d69a4fa7d94172da84ecb2626cb5b3ad1e454126bf328343abe0245c5d", func := "loop.example/plcruntime/laws.FnExactHysteresis", spec := "fnExactHysteresis", apart := false, narrowed := true }
def FnExactHysteresisUptoSaid : Prop := fnExactHysteresisUptoRow.holds Try.pinned (OpenSpec.upto fnExactHysteresisSpec)

/-- 'laws.FnExactTimerValid', WHERE WHAT IT READS IS OF BULK AT MOST 1048576: true; the input reads as it did. -/
def fnExactTimerValidUptoRow : OpenClaim := { program := "ytdcjbnedbohofaa", sum := "436a44d69a4fa7d94172da84ecb2626cb5b3ad1e454126bf328343abe0245c5d", func := "loop.example/plcruntime/laws.FnExactTimerValid", spec := "fnExactTimerValid", apart := false, narrowed := true }
def FnExactTimerValidUptoSaid : Prop := fnExactTimerValidUptoRow.holds Try.pinned (OpenSpec.upto fnExactTimerValidSpec)

/-- 'laws.FnExactCounterEmpty', WHERE WHAT IT READS IS OF BULK AT MOST 1048576: true; the input reads as it did. -/
def fnExactCounterEmptyUptoRow : OpenClaim := { program := "ytdcjbnedbohofaa", sum := "436a44d69a4fa7d94172da84ecb2626cb5b3ad1e454126bf328343abe0245c5d", func := "loop.example/plcruntime/laws.FnExactCounterEmpty", spec := "fnExactCounterEmpty", apart := false, narrowed := true }
def FnExactCounterEmptyUptoSaid : Prop := fnExactCounterEmptyUptoRow.holds Try.pinned (OpenSpec.upto fnExactCounterEmptySpec)

/-- 'laws.FnExactCounterReached', WHERE WHAT IT READS IS OF BULK AT MOST 1048576: true; the input reads as it did. -/
def fnExactCounterReachedUptoRow : OpenClaim := { program := "ytdcjbnedbohofaa", sum := "436a44d69a4fa7d94172da84ecb2626cb5b3ad1e454126bf328343abe0245c5d", func := "loop.example/plcruntime/laws.FnExactCounterReached", spec := "fnExactCounterReached", apart := false, narrowed := true }
def FnExactCounterReachedUptoSaid : Prop := fnExactCounterReachedUptoRow.holds Try.pinned (OpenSpec.upto fnExactCounterReachedSpec)

/-- 'laws.FnRisingEdge', WHERE WHAT IT READS IS OF BULK AT MOST 1048576: true; the input reads as it did. -/
def fnRisingEdgeUptoRow : OpenClaim := { program := "ytdcjbnedbohofaa", sum := "436a44d69a4fa7d94172da84ecb2626cb5b3ad1e454126bf328343abe0245c5d", func := "loop.example/plcruntime/laws.FnRisingEdge", spec := "fnRisingEdge", apart := false, narrowed := true }
def FnRisingEdgeUptoSaid : Prop := fnRisingEdgeUptoRow.holds Try.pinned (OpenSpec.upto fnRisingEdgeSpec)

/-- 'laws.FnExactDeadBand', WHERE WHAT IT READS IS OF BULK AT MOST 1048576: true; the input reads as it did. -/
def fnExactDeadBandUptoRow : OpenClaim := { program := "ytdcjbnedbohofaa", sum := "436a44d69a4fa7d94172da84ecb2626cb5b3ad1e454126bf328343abe0245c5d", func := "loop.example/plcruntime/laws.FnExactDeadBand", spec := "fnExactDeadBand", apart := false, narrowed := true }
def FnExactDeadBandUptoSaid : Prop := fnExactDeadBandUptoRow.holds Try.pinned (OpenSpec.upto fnExactDeadBandSpec)

/-- 'laws.FnSetDominant', WHERE WHAT IT READS IS OF BULK AT MOST 1048576: true; the input reads as it did. -/
def fnSetDominantUptoRow : OpenClaim := { program := "ytdcjbnedbohofaa", sum := "436a44d69a4fa7d94172da84ecb2626cb5b3ad1e454126bf328343abe0245c5d", func := "loop.example/plcruntime/laws.FnSetDominant", spec := "fnSetDominant", apart := false, narrowed := true }
def FnSetDominantUptoSaid : Prop := fnSetDominantUptoRow.holds Try.pinned (OpenSpec.upto fnSetDominantSpec)

end Rows
end Go.Proofs.Ytdcjbnedbohofaa
