/-
  No cell of these rows narrows 'for every input' (looked for: loops, veiled, ifaces, maps, wideKeys, modest, calm, conditions, laid).
  DERIVED. THE GIVEN ROWS OF THIS SEAT. 6 by the template 'for every input the law returns true; each argument reads behind the call as it read before'; 0 by the template 'total and deterministic' (their statements: YtmphligplngeaaaTotals.lean).
  GIVEN WITH THE SEED: the statements are not yours to turn. If you find one false, say at which input.
  Laid BY PROGRAM, IN A SANDBOX (cutbox-rows.mjs): the forced cells as the released guide's own fill.sh prints them over the translation 6d1be58b056f0cb4… (all of the seat's roots in one cut). By AI agents, Wed Nov 11 2026. No macro, syntax, notation, axiom, sorry.
-/
import Derived.Test.YtmphligplngeaaaChecked
import GoSem.Claim
import GoSem.ClaimJoined
import GoSem.ClaimMapViews
import Derived.JoinedTies
import Derived.KernelRfl
namespace Go.Proofs.Ytmphligplngeaaa
/- THE CELL 'sum', in the pinned program and in every row, IS THE sha256 OF THE DUMP (.gsa) THAT YtmphligplngeaaaProg.lean LOADS. Nothing in Lean hashes anything: it is a label: what it is worth is what the hold of that sum in a sandbox is worth. -/
noncomputable def Try.pinned : Pinned := { name := "ytmphligplngeaaa", sum := "6d1be58b056f0cb44a795e310e98775ff5736d8d7b2f892332d8229499581c3c", checked := Try.checked }
namespace Rows
def none {H : Type} : Left H := { results := [], args := [] }

/-- 'laws.FnExactDoubleCoils': WHATEVER THE INPUT: true; the input reads as it did. -/
def fnExactDoubleCoilsSpec : ChangeSpec := { name := "fnExactDoubleCoils", fn := fun _ => fun
  | [d] => { results := [.lit (.bool true)], args := [d] }
  | _ => none }
def fnExactDoubleCoilsRow : OpenClaim := { program := "ytmphligplngeaaa", sum := "6d1be58b056f0cb44a795e310e98775ff5736d8d7b2f892332d8229499581c3c", func := "loop.example/plcruntime/laws.FnExactDoubleCoils", spec := "fnExactDoubleCoils", unfollowed := true, recurses := true, apart := false }
def FnExactDoubleCoilsSaid : Prop := fnExactDoubleCoilsRow.holds Try.pinned (OpenSpec.ofChange fnExactDoubleCoilsSpec)

/-- ITS FALSE NEIGHBOUR: 'it returns false'. Refute it at one input. -/
def fnExactDoubleCoilsWrong : ChangeSpec := { name := "fnExactDoubleCoils", fn := fun _ => fun
  | [d] => { results := [.lit (.bool false)], args := [d] }
  | _ => none }
def FnExactDoubleCoilsWrongFalsely : Prop := fnExactDoubleCoilsRow.holds Try.pinned (OpenSpec.ofChange fnExactDoubleCoilsWrong)

/-- 'laws.FnExactLadderCoils': WHATEVER THE INPUT: true; the input reads as it did. -/
def fnExactLadderCoilsSpec : ChangeSpec := { name := "fnExactLadderCoils", fn := fun _ => fun
  | [d] => { results := [.lit (.bool true)], args := [d] }
  | _ => none }
def fnExactLadderCoilsRow : OpenClaim := { program := "ytmphligplngeaaa", sum := "6d1be58b056f0cb44a795e310e98775ff5736d8d7b2f892332d8229499581c3c", func := "loop.example/plcruntime/laws.FnExactLadderCoils", spec := "fnExactLadderCoils", unfollowed := true, recurses := true, apart := false }
def FnExactLadderCoilsSaid : Prop := fnExactLadderCoilsRow.holds Try.pinned (OpenSpec.ofChange fnExactLadderCoilsSpec)

/-- ITS FALSE NEIGHBOUR: 'it returns false'. Refute it at one input. -/
def fnExactLadderCoilsWrong : ChangeSpec := { name := "fnExactLadderCoils", fn := fun _ => fun
  | [d] => { results := [.lit (.bool false)], args := [d] }
  | _ => none }
def FnExactLadderCoilsWrongFalsely : Prop := fnExactLadderCoilsRow.holds Try.pinned (OpenSpec.ofChange fnExactLadderCoilsWrong)

/-- 'laws.FnExactLogicDepends': WHATEVER THE INPUT: true; the input reads as it did. -/
def fnExactLogicDependsSpec : ChangeSpec := { name := "fnExactLogicDepends", fn := fun _ => fun
  | [d1, d2, d3] => { results := [.lit (.bool true)], args := [d1, d2, d3] }
  | _ => none }
def fnExactLogicDependsRow : OpenClaim := { program := "ytmphligplngeaaa", sum := "6d1be58b056f0cb44a795e310e98775ff5736d8d7b2f892332d8229499581c3c", func := "loop.example/plcruntime/laws.FnExactLogicDepends", spec := "fnExactLogicDepends", unfollowed := true, recurses := true, apart := false }
def FnExactLogicDependsSaid : Prop := fnExactLogicDependsRow.holds Try.pinned (OpenSpec.ofChange fnExactLogicDependsSpec)

/-- ITS FALSE NEIGHBOUR: 'it returns false'. Refute it at one input. -/
def fnExactLogicDependsWrong : ChangeSpec := { name := "fnExactLogicDepends", fn := fun _ => fun
  | [d1, d2, d3] => { results := [.lit (.bool false)], args := [d1, d2, d3] }
  | _ => none }
def FnExactLogicDependsWrongFalsely : Prop := fnExactLogicDependsRow.holds Try.pinned (OpenSpec.ofChange fnExactLogicDependsWrong)

/-- 'laws.FnExactLogicEquivalent': WHATEVER THE INPUT: true; the input reads as it did. -/
def fnExactLogicEquivalentSpec : ChangeSpec := { name := "fnExactLogicEquivalent", fn := fun _ => fun
  | [d1, d2, d3] => { results := [.lit (.bool true)], args := [d1, d2, d3] }
  | _ => none }
def fnExactLogicEquivalentRow : OpenClaim := { program := "ytmphligplngeaaa", sum := "6d1be58b056f0cb44a795e310e98775ff5736d8d7b2f892332d8229499581c3c", func := "loop.example/plcruntime/laws.FnExactLogicEquivalent", spec := "fnExactLogicEquivalent", unfollowed := true, recurses := true, apart := false }
def FnExactLogicEquivalentSaid : Prop := fnExactLogicEquivalentRow.holds Try.pinned (OpenSpec.ofChange fnExactLogicEquivalentSpec)

/-- ITS FALSE NEIGHBOUR: 'it returns false'. Refute it at one input. -/
def fnExactLogicEquivalentWrong : ChangeSpec := { name := "fnExactLogicEquivalent", fn := fun _ => fun
  | [d1, d2, d3] => { results := [.lit (.bool false)], args := [d1, d2, d3] }
  | _ => none }
def FnExactLogicEquivalentWrongFalsely : Prop := fnExactLogicEquivalentRow.holds Try.pinned (OpenSpec.ofChange fnExactLogicEquivalentWrong)

/-- 'laws.FnExactLogicTable': WHATEVER THE INPUT: true; the input reads as it did. -/
def fnExactLogicTableSpec : ChangeSpec := { name := "fnExactLogicTable", fn := fun _ => fun
  | [d1, d2] => { results := [.lit (.bool true)], args := [d1, d2] }
  | _ => none }
def fnExactLogicTableRow : OpenClaim := { program := "ytmphligplngeaaa", sum := "6d1be58b056f0cb44a795e310e98775ff5736d8d7b2f892332d8229499581c3c", func := "loop.example/plcruntime/laws.FnExactLogicTable", spec := "fnExactLogicTable", unfollowed := true, recurses := true, apart := false }
def FnExactLogicTableSaid : Prop := fnExactLogicTableRow.holds Try.pinned (OpenSpec.ofChange fnExactLogicTableSpec)

/-- ITS FALSE NEIGHBOUR: 'it returns false'. Refute it at one input. -/
def fnExactLogicTableWrong : ChangeSpec := { name := "fnExactLogicTable", fn := fun _ => fun
  | [d1, d2] => { results := [.lit (.bool false)], args := [d1, d2] }
  | _ => none }
def FnExactLogicTableWrongFalsely : Prop := fnExactLogicTableRow.holds Try.pinned (OpenSpec.ofChange fnExactLogicTableWrong)

/-- 'laws.FnExactEvalLogic': WHATEVER THE INPUT: true; the input reads as it did. -/
def fnExactEvalLogicSpec : ChangeSpec := { name := "fnExactEvalLogic", fn := fun _ => fun
  | [d1, d2] => { results := [.lit (.bool true)], args := [d1, d2] }
  | _ => none }
def fnExactEvalLogicRow : OpenClaim := { program := "ytmphligplngeaaa", sum := "6d1be58b056f0cb44a795e310e98775ff5736d8d7b2f892332d8229499581c3c", func := "loop.example/plcruntime/laws.FnExactEvalLogic", spec := "fnExactEvalLogic", unfollowed := true, recurses := true, apart := false }
def FnExactEvalLogicSaid : Prop := fnExactEvalLogicRow.holds Try.pinned (OpenSpec.ofChange fnExactEvalLogicSpec)

/-- ITS FALSE NEIGHBOUR: 'it returns false'. Refute it at one input. -/
def fnExactEvalLogicWrong : ChangeSpec := { name := "fnExactEvalLogic", fn := fun _ => fun
  | [d1, d2] => { results := [.lit (.bool false)], args := [d1, d2] }
  | _ => none }
def FnExactEvalLogicWrongFalsely : Prop := fnExactEvalLogicRow.holds Try.pinned (OpenSpec.ofChange fnExactEvalLogicWrong)

/- THE SECOND FORM. 'bulk': how many values and letters a reading holds, each counted each time it is reached (what is shared counts as often as it is met; a slice's spare places count too). A statement '..UptoSaid' is the law's where the arguments, and the package variables that the reading takes, are together of bulk at most 1048576: NARROWER than '..Said'. Prove '..Said' where nothing that the law and all that it calls make is longer than what came in: it says more and counts as full. Else prove '..UptoSaid'. A law counts once. -/
mutual
def uptoBulk {H : Type} : DataW H → Nat
  | .lit (.string bytes) => bytes.length + 1
  | .lit _ => 1
  | .nil => 1
  | .ptr d => uptoBulk d + 1
  | .slice elems spare => uptoBulkAll elems + uptoBulkAll spare + 1
  | .agg parts => uptoBulkAll parts + 1
  | .iface _ d => uptoBulk d + 1
  | .map entries => uptoBulkEntries entries + 1
  | .held _ => 1
def uptoBulkAll {H : Type} : List (DataW H) → Nat
  | [] => 0
  | d :: r => uptoBulk d + uptoBulkAll r
def uptoBulkEntries {H : Type} : List (Lit × DataW H) → Nat
  | [] => 0
  | x :: r => uptoBulkEntry x + uptoBulkEntries r
def uptoBulkEntry {H : Type} : Lit × DataW H → Nat
  | (.string bytes, d) => bytes.length + uptoBulk d + 1
  | (_, d) => uptoBulk d + 1
 end
def uptoSmall : (H : Type) → List (DataW H) → Bool := fun _ ds => decide (uptoBulkAll ds ≤ 1048576)
def OpenSpec.upto (s : _root_.Go.ChangeSpec) : _root_.Go.OpenSpec := { _root_.Go.OpenSpec.ofChange s with cond := some uptoSmall }

/-- 'laws.FnExactDoubleCoils', WHERE WHAT IT READS IS OF BULK AT MOST 1048576: true; the input reads as it did. -/
def fnExactDoubleCoilsUptoRow : OpenClaim := { program := "ytmphligplngeaaa", sum := "6d1be58b056f0cb44a795e310e98775ff5736d8d7b2f892332d8229499581c3c", func := "loop.example/plcruntime/laws.FnExactDoubleCoils", spec := "fnExactDoubleCoils", unfollowed := true, recurses := true, apart := false, narrowed := true }
def FnExactDoubleCoilsUptoSaid : Prop := fnExactDoubleCoilsUptoRow.holds Try.pinned (OpenSpec.upto fnExactDoubleCoilsSpec)

/-- 'laws.FnExactLadderCoils', WHERE WHAT IT READS IS OF BULK AT MOST 1048576: true; the input reads as it did. -/
def fnExactLadderCoilsUptoRow : OpenClaim := { program := "ytmphligplngeaaa", sum := "6d1be58b056f0cb44a795e310e98775ff5736d8d7b2f892332d8229499581c3c", func := "loop.example/plcruntime/laws.FnExactLadderCoils", spec := "fnExactLadderCoils", unfollowed := true, recurses := true, apart := false, narrowed := true }
def FnExactLadderCoilsUptoSaid : Prop := fnExactLadderCoilsUptoRow.holds Try.pinned (OpenSpec.upto fnExactLadderCoilsSpec)

/-- 'laws.FnExactLogicDepends', WHERE WHAT IT READS IS OF BULK AT MOST 1048576: true; the input reads as it did. -/
def fnExactLogicDependsUptoRow : OpenClaim := { program := "ytmphligplngeaaa", sum := "6d1be58b056f0cb44a795e310e98775ff5736d8d7b2f892332d8229499581c3c", func := "loop.example/plcruntime/laws.FnExactLogicDepends", spec := "fnExactLogicDepends", unfollowed := true, recurses := true, apart := false, narrowed := true }
def FnExactLogicDependsUptoSaid : Prop := fnExactLogicDependsUptoRow.holds Try.pinned (OpenSpec.upto fnExactLogicDependsSpec)

/-- 'laws.FnExactLogicEquivalent', WHERE WHAT IT READS IS OF BULK AT MOST 1048576: true; the input reads as it did. -/
def fnExactLogicEquivalentUptoRow : OpenClaim := { program := "ytmphligplngeaaa", sum := "6d1be58b056f0cb44a795e310e98775ff5736d8d7b2f892332d8229499581c3c", func := "loop.example/plcruntime/laws.FnExactLogicEquivalent", spec := "fnExactLogicEquivalent", unfollowed := true, recurses := true, apart := false, narrowed := true }
def FnExactLogicEquivalentUptoSaid : Prop := fnExactLogicEquivalentUptoRow.holds Try.pinned (OpenSpec.upto fnExactLogicEquivalentSpec)

/-- 'laws.FnExactLogicTable', WHERE WHAT IT READS IS OF BULK AT MOST 1048576: true; the input reads as it did. -/
def fnExactLogicTableUptoRow : OpenClaim := { program := "ytmphligplngeaaa", sum := "6d1be58b056f0cb44a795e310e98775ff5736d8d7b2f892332d8229499581c3c", func := "loop.example/plcruntime/laws.FnExactLogicTable", spec := "fnExactLogicTable", unfollowed := true, recurses := true, apart := false, narrowed := true }
def FnExactLogicTableUptoSaid : Prop := fnExactLogicTableUptoRow.holds Try.pinned (OpenSpec.upto fnExactLogicTableSpec)

/-- 'laws.FnExactEvalLogic', WHERE WHAT IT READS IS OF BULK AT MOST 1048576: true; the input reads as it did. -/
def fnExactEvalLogicUptoRow : OpenClaim := { program := "ytmphligplngeaaa", sum := "6d1be58b056f0cb44a795e310e98775ff5736d8d7b2f892332d8229499581c3c", func := "loop.example/plcruntime/laws.FnExactEvalLogic", spec := "fnExactEvalLogic", unfollowed := true, recurses := true, apart := false, narrowed := true }
def FnExactEvalLogicUptoSaid : Prop := fnExactEvalLogicUptoRow.holds Try.pinned (OpenSpec.upto fnExactEvalLogicSpec)

end Rows
end Go.Proofs.Ytmphligplngeaaa
