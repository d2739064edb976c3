/-
  No cell of these rows narrows 'for every input' (looked for: loops, veiled, ifaces, maps, wideKeys, modest, calm, conditions, laid).
  DERIVED. THE GIVEN ROWS OF THIS SEAT. 10 by the template 'for every input the law returns true; each argument reads behind the call as it read before'; 0 by the template 'total and deterministic' (their statements: YtnnihiajggdplaaTotals.lean).
  GIVEN WITH THE SEED: the statements are not yours to turn. If you find one false, say at which input.
  Laid BY PROGRAM, IN A SANDBOX (cutbox-rows.mjs): the forced cells as the released guide's own fill.sh prints them over the translation 70c98af05173a37b… (all of the seat's roots in one cut). By AI agents, Wed Nov 11 2026. No macro, syntax, notation, axiom, sorry.
-/
import Derived.Test.YtnnihiajggdplaaChecked
import GoSem.Claim
import GoSem.ClaimJoined
import GoSem.ClaimMapViews
import Derived.JoinedTies
import Derived.KernelRfl
namespace Go.Proofs.Ytnnihiajggdplaa
/- THE CELL 'sum', in the pinned program and in every row, IS THE sha256 OF THE DUMP (.gsa) THAT YtnnihiajggdplaaProg.lean LOADS. Nothing in Lean hashes anything: it is a label: what it is worth is what the hold of that sum in a sandbox is worth. -/
noncomputable def Try.pinned : Pinned := { name := "ytnnihiajggdplaa", sum := "70c98af05173a37bc31508048a564cba15ae66635e0718dd54607ed85b7f9419", checked := Try.checked }
namespace Rows
def none {H : Type} : Left H := { results := [], args := [] }

/-- 'laws.FnExactIsFlow': WHATEVER THE INPUT: true; the input reads as it did. -/
def fnExactIsFlowSpec : ChangeSpec := { name := "fnExactIsFlow", fn := fun _ => fun
  | [d] => { results := [.lit (.bool true)], args := [d] }
  | _ => none }
def fnExactIsFlowRow : OpenClaim := { program := "ytnnihiajggdplaa", sum := "70c98af05173a37bc31508048a564cba15ae66635e0718dd54607ed85b7f9419", func := "loop.example/g00838/laws.FnExactIsFlow", spec := "fnExactIsFlow", apart := false }
def FnExactIsFlowSaid : Prop := fnExactIsFlowRow.holds Try.pinned (OpenSpec.ofChange fnExactIsFlowSpec)

/-- ITS FALSE NEIGHBOUR: 'it returns false'. Refute it at one input. -/
def fnExactIsFlowWrong : ChangeSpec := { name := "fnExactIsFlow", fn := fun _ => fun
  | [d] => { results := [.lit (.bool false)], args := [d] }
  | _ => none }
def FnExactIsFlowWrongFalsely : Prop := fnExactIsFlowRow.holds Try.pinned (OpenSpec.ofChange fnExactIsFlowWrong)

/-- 'laws.FnExactMixOf': WHATEVER THE INPUT: true; the input reads as it did. -/
def fnExactMixOfSpec : ChangeSpec := { name := "fnExactMixOf", fn := fun _ => fun
  | [d] => { results := [.lit (.bool true)], args := [d] }
  | _ => none }
def fnExactMixOfRow : OpenClaim := { program := "ytnnihiajggdplaa", sum := "70c98af05173a37bc31508048a564cba15ae66635e0718dd54607ed85b7f9419", func := "loop.example/g00838/laws.FnExactMixOf", spec := "fnExactMixOf", apart := false }
def FnExactMixOfSaid : Prop := fnExactMixOfRow.holds Try.pinned (OpenSpec.ofChange fnExactMixOfSpec)

/-- ITS FALSE NEIGHBOUR: 'it returns false'. Refute it at one input. -/
def fnExactMixOfWrong : ChangeSpec := { name := "fnExactMixOf", fn := fun _ => fun
  | [d] => { results := [.lit (.bool false)], args := [d] }
  | _ => none }
def FnExactMixOfWrongFalsely : Prop := fnExactMixOfRow.holds Try.pinned (OpenSpec.ofChange fnExactMixOfWrong)

/-- 'laws.FnExactNumberFor': WHATEVER THE INPUT: true; the input reads as it did. -/
def fnExactNumberForSpec : ChangeSpec := { name := "fnExactNumberFor", fn := fun _ => fun
  | [d1, d2] => { results := [.lit (.bool true)], args := [d1, d2] }
  | _ => none }
def fnExactNumberForRow : OpenClaim := { program := "ytnnihiajggdplaa", sum := "70c98af05173a37bc31508048a564cba15ae66635e0718dd54607ed85b7f9419", func := "loop.example/g00838/laws.FnExactNumberFor", spec := "fnExactNumberFor", apart := false }
def FnExactNumberForSaid : Prop := fnExactNumberForRow.holds Try.pinned (OpenSpec.ofChange fnExactNumberForSpec)

/-- ITS FALSE NEIGHBOUR: 'it returns false'. Refute it at one input. -/
def fnExactNumberForWrong : ChangeSpec := { name := "fnExactNumberFor", fn := fun _ => fun
  | [d1, d2] => { results := [.lit (.bool false)], args := [d1, d2] }
  | _ => none }
def FnExactNumberForWrongFalsely : Prop := fnExactNumberForRow.holds Try.pinned (OpenSpec.ofChange fnExactNumberForWrong)

/-- 'laws.FnExactShiftFlow': WHATEVER THE INPUT: true; the input reads as it did. -/
def fnExactShiftFlowSpec : ChangeSpec := { name := "fnExactShiftFlow", fn := fun _ => fun
  | [d1, d2] => { results := [.lit (.bool true)], args := [d1, d2] }
  | _ => none }
def fnExactShiftFlowRow : OpenClaim := { program := "ytnnihiajggdplaa", sum := "70c98af05173a37bc31508048a564cba15ae66635e0718dd54607ed85b7f9419", func := "loop.example/g00838/laws.FnExactShiftFlow", spec := "fnExactShiftFlow", apart := false }
def FnExactShiftFlowSaid : Prop := fnExactShiftFlowRow.holds Try.pinned (OpenSpec.ofChange fnExactShiftFlowSpec)

/-- ITS FALSE NEIGHBOUR: 'it returns false'. Refute it at one input. -/
def fnExactShiftFlowWrong : ChangeSpec := { name := "fnExactShiftFlow", fn := fun _ => fun
  | [d1, d2] => { results := [.lit (.bool false)], args := [d1, d2] }
  | _ => none }
def FnExactShiftFlowWrongFalsely : Prop := fnExactShiftFlowRow.holds Try.pinned (OpenSpec.ofChange fnExactShiftFlowWrong)

/-- 'laws.FnExactMergeFlows': WHATEVER THE INPUT: true; the input reads as it did. -/
def fnExactMergeFlowsSpec : ChangeSpec := { name := "fnExactMergeFlows", fn := fun _ => fun
  | [d1, d2] => { results := [.lit (.bool true)], args := [d1, d2] }
  | _ => none }
def fnExactMergeFlowsRow : OpenClaim := { program := "ytnnihiajggdplaa", sum := "70c98af05173a37bc31508048a564cba15ae66635e0718dd54607ed85b7f9419", func := "loop.example/g00838/laws.FnExactMergeFlows", spec := "fnExactMergeFlows", unfollowed := true, recurses := true, apart := false }
def FnExactMergeFlowsSaid : Prop := fnExactMergeFlowsRow.holds Try.pinned (OpenSpec.ofChange fnExactMergeFlowsSpec)

/-- ITS FALSE NEIGHBOUR: 'it returns false'. Refute it at one input. -/
def fnExactMergeFlowsWrong : ChangeSpec := { name := "fnExactMergeFlows", fn := fun _ => fun
  | [d1, d2] => { results := [.lit (.bool false)], args := [d1, d2] }
  | _ => none }
def FnExactMergeFlowsWrongFalsely : Prop := fnExactMergeFlowsRow.holds Try.pinned (OpenSpec.ofChange fnExactMergeFlowsWrong)

/-- 'laws.FnExactGapsOf': WHATEVER THE INPUT: true; the input reads as it did. -/
def fnExactGapsOfSpec : ChangeSpec := { name := "fnExactGapsOf", fn := fun _ => fun
  | [d1, d2] => { results := [.lit (.bool true)], args := [d1, d2] }
  | _ => none }
def fnExactGapsOfRow : OpenClaim := { program := "ytnnihiajggdplaa", sum := "70c98af05173a37bc31508048a564cba15ae66635e0718dd54607ed85b7f9419", func := "loop.example/g00838/laws.FnExactGapsOf", spec := "fnExactGapsOf", apart := false }
def FnExactGapsOfSaid : Prop := fnExactGapsOfRow.holds Try.pinned (OpenSpec.ofChange fnExactGapsOfSpec)

/-- ITS FALSE NEIGHBOUR: 'it returns false'. Refute it at one input. -/
def fnExactGapsOfWrong : ChangeSpec := { name := "fnExactGapsOf", fn := fun _ => fun
  | [d1, d2] => { results := [.lit (.bool false)], args := [d1, d2] }
  | _ => none }
def FnExactGapsOfWrongFalsely : Prop := fnExactGapsOfRow.holds Try.pinned (OpenSpec.ofChange fnExactGapsOfWrong)

/-- 'laws.FnExactPacketAt': WHATEVER THE INPUT: true; the input reads as it did. -/
def fnExactPacketAtSpec : ChangeSpec := { name := "fnExactPacketAt", fn := fun _ => fun
  | [d1, d2] => { results := [.lit (.bool true)], args := [d1, d2] }
  | _ => none }
def fnExactPacketAtRow : OpenClaim := { program := "ytnnihiajggdplaa", sum := "70c98af05173a37bc31508048a564cba15ae66635e0718dd54607ed85b7f9419", func := "loop.example/g00838/laws.FnExactPacketAt", spec := "fnExactPacketAt", apart := false }
def FnExactPacketAtSaid : Prop := fnExactPacketAtRow.holds Try.pinned (OpenSpec.ofChange fnExactPacketAtSpec)

/-- ITS FALSE NEIGHBOUR: 'it returns false'. Refute it at one input. -/
def fnExactPacketAtWrong : ChangeSpec := { name := "fnExactPacketAt", fn := fun _ => fun
  | [d1, d2] => { results := [.lit (.bool false)], args := [d1, d2] }
  | _ => none }
def FnExactPacketAtWrongFalsely : Prop := fnExactPacketAtRow.holds Try.pinned (OpenSpec.ofChange fnExactPacketAtWrong)

/-- 'laws.FnExactFlowUntil': WHATEVER THE INPUT: true; the input reads as it did. -/
def fnExactFlowUntilSpec : ChangeSpec := { name := "fnExactFlowUntil", fn := fun _ => fun
  | [d1, d2] => { results := [.lit (.bool true)], args := [d1, d2] }
  | _ => none }
def fnExactFlowUntilRow : OpenClaim := { program := "ytnnihiajggdplaa", sum := "70c98af05173a37bc31508048a564cba15ae66635e0718dd54607ed85b7f9419", func := "loop.example/g00838/laws.FnExactFlowUntil", spec := "fnExactFlowUntil", apart := false }
def FnExactFlowUntilSaid : Prop := fnExactFlowUntilRow.holds Try.pinned (OpenSpec.ofChange fnExactFlowUntilSpec)

/-- ITS FALSE NEIGHBOUR: 'it returns false'. Refute it at one input. -/
def fnExactFlowUntilWrong : ChangeSpec := { name := "fnExactFlowUntil", fn := fun _ => fun
  | [d1, d2] => { results := [.lit (.bool false)], args := [d1, d2] }
  | _ => none }
def FnExactFlowUntilWrongFalsely : Prop := fnExactFlowUntilRow.holds Try.pinned (OpenSpec.ofChange fnExactFlowUntilWrong)

/-- 'laws.FnExactBytesUntil': WHATEVER THE INPUT: true; the input reads as it did. -/
def fnExactBytesUntilSpec : ChangeSpec := { name := "fnExactBytesUntil", fn := fun _ => fun
  | [d1, d2] => { results := [.lit (.bool true)], args := [d1, d2] }
  | _ => none }
def fnExactBytesUntilRow : OpenClaim := { program := "ytnnihiajggdplaa", sum := "70c98af05173a37bc31508048a564cba15ae66635e0718dd54607ed85b7f9419", func := "loop.example/g00838/laws.FnExactBytesUntil", spec := "fnExactBytesUntil", apart := false }
def FnExactBytesUntilSaid : Prop := fnExactBytesUntilRow.holds Try.pinned (OpenSpec.ofChange fnExactBytesUntilSpec)

/-- ITS FALSE NEIGHBOUR: 'it returns false'. Refute it at one input. -/
def fnExactBytesUntilWrong : ChangeSpec := { name := "fnExactBytesUntil", fn := fun _ => fun
  | [d1, d2] => { results := [.lit (.bool false)], args := [d1, d2] }
  | _ => none }
def FnExactBytesUntilWrongFalsely : Prop := fnExactBytesUntilRow.holds Try.pinned (OpenSpec.ofChange fnExactBytesUntilWrong)

/-- 'laws.FnExactPeakIn': WHATEVER THE INPUT: true; the input reads as it did. -/
def fnExactPeakInSpec : ChangeSpec := { name := "fnExactPeakIn", fn := fun _ => fun
  | [d1, d2] => { results := [.lit (.bool true)], args := [d1, d2] }
  | _ => none }
def fnExactPeakInRow : OpenClaim := { program := "ytnnihiajggdplaa", sum := "70c98af05173a37bc31508048a564cba15ae66635e0718dd54607ed85b7f9419", func := "loop.example/g00838/laws.FnExactPeakIn", spec := "fnExactPeakIn", apart := false }
def FnExactPeakInSaid : Prop := fnExactPeakInRow.holds Try.pinned (OpenSpec.ofChange fnExactPeakInSpec)

/-- ITS FALSE NEIGHBOUR: 'it returns false'. Refute it at one input. -/
def fnExactPeakInWrong : ChangeSpec := { name := "fnExactPeakIn", fn := fun _ => fun
  | [d1, d2] => { results := [.lit (.bool false)], args := [d1, d2] }
  | _ => none }
def FnExactPeakInWrongFalsely : Prop := fnExactPeakInRow.holds Try.pinned (OpenSpec.ofChange fnExactPeakInWrong)

/- THE SECOND FORM. 'bulk': how many values and letters a reading holds, each counted each time it is reached (what is shared counts as often as it is met; a slice's spare places count too). A statement '..UptoSaid' is the law's where the arguments, and the package variables that the reading takes, are together of bulk at most 1048576: NARROWER than '..Said'. Prove '..Said' where nothing that the law and all that it calls make is longer than what came in: it says more and counts as full. Else prove '..UptoSaid'. A law counts once. -/
mutual
def uptoBulk {H : Type} : DataW H → Nat
  | .lit (.string bytes) => bytes.length + 1
  | .lit _ => 1
  | .nil => 1
  | .ptr d => uptoBulk d + 1
  | .slice elems spare => uptoBulkAll elems + uptoBulkAll spare + 1
  | .agg parts => uptoBulkAll parts + 1
  | .iface _ d => uptoBulk d + 1
  | .map entries => uptoBulkEntries entries + 1
  | .held _ => 1
def uptoBulkAll {H : Type} : List (DataW H) → Nat
  | [] => 0
  | d :: r => uptoBulk d + uptoBulkAll r
def uptoBulkEntries {H : Type} : List (Lit × DataW H) → Nat
  | [] => 0
  | x :: r => uptoBulkEntry x + uptoBulkEntries r
def uptoBulkEntry {H : Type} : Lit × DataW H → Nat
  | (.string bytes, d) => bytes.length + uptoBulk d + 1
  | (_, d) => uptoBulk d + 1
 end
def uptoSmall : (H : Type) → List (DataW H) → Bool := fun _ ds => decide (uptoBulkAll ds ≤ 1048576)
def OpenSpec.upto (s : _root_.Go.ChangeSpec) : _root_.Go.OpenSpec := { _root_.Go.OpenSpec.ofChange s with cond := some uptoSmall }

/-- 'laws.FnExactIsFlow', WHERE WHAT IT READS IS OF BULK AT MOST 1048576: true; the input reads as it did. -/
def fnExactIsFlowUptoRow : OpenClaim := { program := "ytnnihiajggdplaa", sum := "70c98af05173a37bc31508048a564cba15ae66635e0718dd54607ed85b7f9419", func := "loop.example/g00838/laws.FnExactIsFlow", spec := "fnExactIsFlow", apart := false, narrowed := true }
def FnExactIsFlowUptoSaid : Prop := fnExactIsFlowUptoRow.holds Try.pinned (OpenSpec.upto fnExactIsFlowSpec)

/-- 'laws.FnExactMixOf', WHERE WHAT IT READS IS OF BULK AT MOST 1048576: true; the input reads as it did. -/
def fnExactMixOfUptoRow : OpenClaim := { program := "ytnnihiajggdplaa", sum := "70c98af05173a37bc31508048a564cba15ae66635e0718dd54607ed85b7f9419", func := "loop.example/g00838/laws.FnExactMixOf", spec := "fnExactMixOf", apart := false, narrowed := true }
def FnExactMixOfUptoSaid : Prop := fnExactMixOfUptoRow.holds Try.pinned (OpenSpec.upto fnExactMixOfSpec)

/-- 'laws.FnExactNumberFor', WHERE WHAT IT READS IS OF BULK AT MOST 1048576: true; the input reads as it did. -/
def fnExactNumberForUptoRow : OpenClaim := { program := "ytnnihiajggdplaa", sum := "70c98af05173a37bc31508048a564cba15ae66635e0718dd54607ed85b7f9419", func := "loop.example/g00838/laws.FnExactNumberFor", spec := "fnExactNumberFor", apart := false, narrowed := true }
def FnExactNumberForUptoSaid : Prop := fnExactNumberForUptoRow.holds Try.pinned (OpenSpec.upto fnExactNumberForSpec)

/-- 'laws.FnExactShiftFlow', WHERE WHAT IT READS IS OF BULK AT MOST 1048576: true; the input reads as it did. -/
def fnExactShiftFlowUptoRow : OpenClaim := { program := "ytnnihiajggdplaa", sum := "70c98af05173a37bc31508048a564cba15ae66635e0718dd54607ed85b7f9419", func := "loop.example/g00838/laws.FnExactShiftFlow", spec := "fnExactShiftFlow", apart := false, narrowed := true }
def FnExactShiftFlowUptoSaid : Prop := fnExactShiftFlowUptoRow.holds Try.pinned (OpenSpec.upto fnExactShiftFlowSpec)

/-- 'laws.FnExactMergeFlows', WHERE WHAT IT READS IS OF BULK AT MOST 1048576: true; the input reads as it did. -/
def fnExactMergeFlowsUptoRow : OpenClaim := { program := "ytnnihiajggdplaa", sum := "70c98af05173a37bc31508048a564cba15ae66635e0718dd54607ed85b7f9419", func := "loop.example/g00838/laws.FnExactMergeFlows", spec := "fnExactMergeFlows", unfollowed := true, recurses := true, apart := false, narrowed := true }
def FnExactMergeFlowsUptoSaid : Prop := fnExactMergeFlowsUptoRow.holds Try.pinned (OpenSpec.upto fnExactMergeFlowsSpec)

/-- 'laws.FnExactGapsOf', WHERE WHAT IT READS IS OF BULK AT MOST 1048576: true; the input reads as it did. -/
def fnExactGapsOfUptoRow : OpenClaim := { program := "ytnnihiajggdplaa", sum := "70c98af05173a37bc31508048a564cba15ae66635e0718dd54607ed85b7f9419", func := "loop.example/g00838/laws.FnExactGapsOf", spec := "fnExactGapsOf", apart := false, narrowed := true }
def FnExactGapsOfUptoSaid : Prop := fnExactGapsOfUptoRow.holds Try.pinned (OpenSpec.upto fnExactGapsOfSpec)

/-- 'laws.FnExactPacketAt', WHERE WHAT IT READS IS OF BULK AT MOST 1048576: true; the input reads as it did. -/
def fnExactPacketAtUptoRow : OpenClaim := { program := "ytnnihiajggdplaa", sum := "70c98af05173a37bc31508048a564cba15ae66635e0718dd54607ed85b7f9419", func := "loop.example/g00838/laws.FnExactPacketAt", spec := "fnExactPacketAt", apart := false, narrowed := true }
def FnExactPacketAtUptoSaid : Prop := fnExactPacketAtUptoRow.holds Try.pinned (OpenSpec.upto fnExactPacketAtSpec)

/-- 'laws.FnExactFlowUntil', WHERE WHAT IT READS IS OF BULK AT MOST 1048576: true; the input reads as it did. -/
def fnExactFlowUntilUptoRow : OpenClaim := { program := "ytnnihiajggdplaa", sum := "70c98af05173a37bc31508048a564cba15ae66635e0718dd54607ed85b7f9419", func := "loop.example/g00838/laws.FnExactFlowUntil", spec := "fnExactFlowUntil", apart := false, narrowed := true }
def FnExactFlowUntilUptoSaid : Prop := fnExactFlowUntilUptoRow.holds Try.pinned (OpenSpec.upto fnExactFlowUntilSpec)

/-- 'laws.FnExactBytesUntil', WHERE WHAT IT READS IS OF BULK AT MOST 1048576: true; the input reads as it did. -/
def fnExactBytesUntilUptoRow : OpenClaim := { program := "ytnnihiajggdplaa", sum := "70c98af05173a37bc31508048a564cba15ae66635e0718dd54607ed85b7f9419", func := "loop.example/g00838/laws.FnExactBytesUntil", spec := "fnExactBytesUntil", apart := false, narrowed := true }
def FnExactBytesUntilUptoSaid : Prop := fnExactBytesUntilUptoRow.holds Try.pinned (OpenSpec.upto fnExactBytesUntilSpec)

/-- 'laws.FnExactPeakIn', WHERE WHAT IT READS IS OF BULK AT MOST 1048576: true; the input reads as it did. -/
def fnExactPeakInUptoRow : OpenClaim := { program := "ytnnihiajggdplaa", sum := "70c98af05173a37bc31508048a564cba15ae66635e0718dd54607ed85b7f9419", func := "loop.example/g00838/laws.FnExactPeakIn", spec := "fnExactPeakIn", apart := false, narrowed := true }
def FnExactPeakInUptoSaid : Prop := fnExactPeakInUptoRow.holds Try.pinned (OpenSpec.upto fnExactPeakInSpec)

end Rows
end Go.Proofs.Ytnnihiajggdplaa
