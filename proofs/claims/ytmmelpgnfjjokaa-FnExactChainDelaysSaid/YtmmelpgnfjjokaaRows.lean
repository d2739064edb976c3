/-
  No cell of these rows narrows 'for every input' (looked for: loops, veiled, ifaces, maps, wideKeys, modest, calm, conditions, laid).
  DERIVED. THE GIVEN ROWS OF THIS SEAT. 13 by the template 'for every input the law returns true; each argument reads behind the call as it read before'; 0 by the template 'total and deterministic' (their statements: YtmmelpgnfjjokaaTotals.lean).
  GIVEN WITH THE SEED: the statements are not yours to turn. If you find one false, say at which input.
  Laid BY PROGRAM, IN A SANDBOX (cutbox-rows.mjs): the forced cells as the released guide's own fill.sh prints them over the translation a7ced907408739e9… (all of the seat's roots in one cut). By AI agents, Wed Nov 11 2026. No macro, syntax, notation, axiom, sorry.
-/
import Derived.Test.YtmmelpgnfjjokaaChecked
import GoSem.Claim
import GoSem.ClaimJoined
import GoSem.ClaimMapViews
import Derived.JoinedTies
import Derived.KernelRfl
namespace Go.Proofs.Ytmmelpgnfjjokaa
/- THE CELL 'sum', in the pinned program and in every row, IS THE sha256 OF THE DUMP (.gsa) THAT YtmmelpgnfjjokaaProg.lean LOADS. Nothing in Lean hashes anything: it is a label: what it is worth is what the hold of that sum in a sandbox is worth. -/
noncomputable def Try.pinned : Pinned := { name := "ytmmelpgnfjjokaa", sum := "a7ced907408739e996a26182feb7a3b7a42702726d208d79ceadb0c65f2beb0f", checked := Try.checked }
namespace Rows
def none {H : Type} : Left H := { results := [], args := [] }

/-- 'laws.FnExactIsInflow': WHATEVER THE INPUT: true; the input reads as it did. -/
def fnExactIsInflowSpec : ChangeSpec := { name := "fnExactIsInflow", fn := fun _ => fun
  | [d] => { results := [.lit (.bool true)], args := [d] }
  | _ => none }
def fnExactIsInflowRow : OpenClaim := { program := "ytmmelpgnfjjokaa", sum := "a7ced907408739e996a26182feb7a3b7a42702726d208d79ceadb0c65f2beb0f", func := "loop.example/g00838/laws.FnExactIsInflow", spec := "fnExactIsInflow", apart := false }
def FnExactIsInflowSaid : Prop := fnExactIsInflowRow.holds Try.pinned (OpenSpec.ofChange fnExactIsInflowSpec)

/-- ITS FALSE NEIGHBOUR: 'it returns false'. Refute it at one input. -/
def fnExactIsInflowWrong : ChangeSpec := { name := "fnExactIsInflow", fn := fun _ => fun
  | [d] => { results := [.lit (.bool false)], args := [d] }
  | _ => none }
def FnExactIsInflowWrongFalsely : Prop := fnExactIsInflowRow.holds Try.pinned (OpenSpec.ofChange fnExactIsInflowWrong)

/-- 'laws.FnExactIsService': WHATEVER THE INPUT: true; the input reads as it did. -/
def fnExactIsServiceSpec : ChangeSpec := { name := "fnExactIsService", fn := fun _ => fun
  | [d] => { results := [.lit (.bool true)], args := [d] }
  | _ => none }
def fnExactIsServiceRow : OpenClaim := { program := "ytmmelpgnfjjokaa", sum := "a7ced907408739e996a26182feb7a3b7a42702726d208d79ceadb0c65f2beb0f", func := "loop.example/g00838/laws.FnExactIsService", spec := "fnExactIsService", apart := false }
def FnExactIsServiceSaid : Prop := fnExactIsServiceRow.holds Try.pinned (OpenSpec.ofChange fnExactIsServiceSpec)

/-- ITS FALSE NEIGHBOUR: 'it returns false'. Refute it at one input. -/
def fnExactIsServiceWrong : ChangeSpec := { name := "fnExactIsService", fn := fun _ => fun
  | [d] => { results := [.lit (.bool false)], args := [d] }
  | _ => none }
def FnExactIsServiceWrongFalsely : Prop := fnExactIsServiceRow.holds Try.pinned (OpenSpec.ofChange fnExactIsServiceWrong)

/-- 'laws.FnExactBacklogBound': WHATEVER THE INPUT: true; the input reads as it did. -/
def fnExactBacklogBoundSpec : ChangeSpec := { name := "fnExactBacklogBound", fn := fun _ => fun
  | [d1, d2] => { results := [.lit (.bool true)], args := [d1, d2] }
  | _ => none }
def fnExactBacklogBoundRow : OpenClaim := { program := "ytmmelpgnfjjokaa", sum := "a7ced907408739e996a26182feb7a3b7a42702726d208d79ceadb0c65f2beb0f", func := "loop.example/g00838/laws.FnExactBacklogBound", spec := "fnExactBacklogBound", apart := false }
def FnExactBacklogBoundSaid : Prop := fnExactBacklogBoundRow.holds Try.pinned (OpenSpec.ofChange fnExactBacklogBoundSpec)

/-- ITS FALSE NEIGHBOUR: 'it returns false'. Refute it at one input. -/
def fnExactBacklogBoundWrong : ChangeSpec := { name := "fnExactBacklogBound", fn := fun _ => fun
  | [d1, d2] => { results := [.lit (.bool false)], args := [d1, d2] }
  | _ => none }
def FnExactBacklogBoundWrongFalsely : Prop := fnExactBacklogBoundRow.holds Try.pinned (OpenSpec.ofChange fnExactBacklogBoundWrong)

/-- 'laws.FnExactDelayBound': WHATEVER THE INPUT: true; the input reads as it did. -/
def fnExactDelayBoundSpec : ChangeSpec := { name := "fnExactDelayBound", fn := fun _ => fun
  | [d1, d2] => { results := [.lit (.bool true)], args := [d1, d2] }
  | _ => none }
def fnExactDelayBoundRow : OpenClaim := { program := "ytmmelpgnfjjokaa", sum := "a7ced907408739e996a26182feb7a3b7a42702726d208d79ceadb0c65f2beb0f", func := "loop.example/g00838/laws.FnExactDelayBound", spec := "fnExactDelayBound", apart := false }
def FnExactDelayBoundSaid : Prop := fnExactDelayBoundRow.holds Try.pinned (OpenSpec.ofChange fnExactDelayBoundSpec)

/-- ITS FALSE NEIGHBOUR: 'it returns false'. Refute it at one input. -/
def fnExactDelayBoundWrong : ChangeSpec := { name := "fnExactDelayBound", fn := fun _ => fun
  | [d1, d2] => { results := [.lit (.bool false)], args := [d1, d2] }
  | _ => none }
def FnExactDelayBoundWrongFalsely : Prop := fnExactDelayBoundRow.holds Try.pinned (OpenSpec.ofChange fnExactDelayBoundWrong)

/-- 'laws.FnExactGreedyBacklog': WHATEVER THE INPUT: true; the input reads as it did. -/
def fnExactGreedyBacklogSpec : ChangeSpec := { name := "fnExactGreedyBacklog", fn := fun _ => fun
  | [d1, d2, d3] => { results := [.lit (.bool true)], args := [d1, d2, d3] }
  | _ => none }
def fnExactGreedyBacklogRow : OpenClaim := { program := "ytmmelpgnfjjokaa", sum := "a7ced907408739e996a26182feb7a3b7a42702726d208d79ceadb0c65f2beb0f", func := "loop.example/g00838/laws.FnExactGreedyBacklog", spec := "fnExactGreedyBacklog", apart := false }
def FnExactGreedyBacklogSaid : Prop := fnExactGreedyBacklogRow.holds Try.pinned (OpenSpec.ofChange fnExactGreedyBacklogSpec)

/-- ITS FALSE NEIGHBOUR: 'it returns false'. Refute it at one input. -/
def fnExactGreedyBacklogWrong : ChangeSpec := { name := "fnExactGreedyBacklog", fn := fun _ => fun
  | [d1, d2, d3] => { results := [.lit (.bool false)], args := [d1, d2, d3] }
  | _ => none }
def FnExactGreedyBacklogWrongFalsely : Prop := fnExactGreedyBacklogRow.holds Try.pinned (OpenSpec.ofChange fnExactGreedyBacklogWrong)

/-- 'laws.FnExactLeftoverService': WHATEVER THE INPUT: true; the input reads as it did. -/
def fnExactLeftoverServiceSpec : ChangeSpec := { name := "fnExactLeftoverService", fn := fun _ => fun
  | [d1, d2] => { results := [.lit (.bool true)], args := [d1, d2] }
  | _ => none }
def fnExactLeftoverServiceRow : OpenClaim := { program := "ytmmelpgnfjjokaa", sum := "a7ced907408739e996a26182feb7a3b7a42702726d208d79ceadb0c65f2beb0f", func := "loop.example/g00838/laws.FnExactLeftoverService", spec := "fnExactLeftoverService", apart := false }
def FnExactLeftoverServiceSaid : Prop := fnExactLeftoverServiceRow.holds Try.pinned (OpenSpec.ofChange fnExactLeftoverServiceSpec)

/-- ITS FALSE NEIGHBOUR: 'it returns false'. Refute it at one input. -/
def fnExactLeftoverServiceWrong : ChangeSpec := { name := "fnExactLeftoverService", fn := fun _ => fun
  | [d1, d2] => { results := [.lit (.bool false)], args := [d1, d2] }
  | _ => none }
def FnExactLeftoverServiceWrongFalsely : Prop := fnExactLeftoverServiceRow.holds Try.pinned (OpenSpec.ofChange fnExactLeftoverServiceWrong)

/-- 'laws.FnExactOutputInflow': WHATEVER THE INPUT: true; the input reads as it did. -/
def fnExactOutputInflowSpec : ChangeSpec := { name := "fnExactOutputInflow", fn := fun _ => fun
  | [d1, d2] => { results := [.lit (.bool true)], args := [d1, d2] }
  | _ => none }
def fnExactOutputInflowRow : OpenClaim := { program := "ytmmelpgnfjjokaa", sum := "a7ced907408739e996a26182feb7a3b7a42702726d208d79ceadb0c65f2beb0f", func := "loop.example/g00838/laws.FnExactOutputInflow", spec := "fnExactOutputInflow", apart := false }
def FnExactOutputInflowSaid : Prop := fnExactOutputInflowRow.holds Try.pinned (OpenSpec.ofChange fnExactOutputInflowSpec)

/-- ITS FALSE NEIGHBOUR: 'it returns false'. Refute it at one input. -/
def fnExactOutputInflowWrong : ChangeSpec := { name := "fnExactOutputInflow", fn := fun _ => fun
  | [d1, d2] => { results := [.lit (.bool false)], args := [d1, d2] }
  | _ => none }
def FnExactOutputInflowWrongFalsely : Prop := fnExactOutputInflowRow.holds Try.pinned (OpenSpec.ofChange fnExactOutputInflowWrong)

/-- 'laws.FnExactAddInflows': WHATEVER THE INPUT: true; the input reads as it did. -/
def fnExactAddInflowsSpec : ChangeSpec := { name := "fnExactAddInflows", fn := fun _ => fun
  | [d] => { results := [.lit (.bool true)], args := [d] }
  | _ => none }
def fnExactAddInflowsRow : OpenClaim := { program := "ytmmelpgnfjjokaa", sum := "a7ced907408739e996a26182feb7a3b7a42702726d208d79ceadb0c65f2beb0f", func := "loop.example/g00838/laws.FnExactAddInflows", spec := "fnExactAddInflows", apart := false }
def FnExactAddInflowsSaid : Prop := fnExactAddInflowsRow.holds Try.pinned (OpenSpec.ofChange fnExactAddInflowsSpec)

/-- ITS FALSE NEIGHBOUR: 'it returns false'. Refute it at one input. -/
def fnExactAddInflowsWrong : ChangeSpec := { name := "fnExactAddInflows", fn := fun _ => fun
  | [d] => { results := [.lit (.bool false)], args := [d] }
  | _ => none }
def FnExactAddInflowsWrongFalsely : Prop := fnExactAddInflowsRow.holds Try.pinned (OpenSpec.ofChange fnExactAddInflowsWrong)

/-- 'laws.FnExactChainServices': WHATEVER THE INPUT: true; the input reads as it did. -/
def fnExactChainServicesSpec : ChangeSpec := { name := "fnExactChainServices", fn := fun _ => fun
  | [d] => { results := [.lit (.bool true)], args := [d] }
  | _ => none }
def fnExactChainServicesRow : OpenClaim := { program := "ytmmelpgnfjjokaa", sum := "a7ced907408739e996a26182feb7a3b7a42702726d208d79ceadb0c65f2beb0f", func := "loop.example/g00838/laws.FnExactChainServices", spec := "fnExactChainServices", apart := false }
def FnExactChainServicesSaid : Prop := fnExactChainServicesRow.holds Try.pinned (OpenSpec.ofChange fnExactChainServicesSpec)

/-- ITS FALSE NEIGHBOUR: 'it returns false'. Refute it at one input. -/
def fnExactChainServicesWrong : ChangeSpec := { name := "fnExactChainServices", fn := fun _ => fun
  | [d] => { results := [.lit (.bool false)], args := [d] }
  | _ => none }
def FnExactChainServicesWrongFalsely : Prop := fnExactChainServicesRow.holds Try.pinned (OpenSpec.ofChange fnExactChainServicesWrong)

/-- 'laws.FnExactLeastBurst': WHATEVER THE INPUT: true; the input reads as it did. -/
def fnExactLeastBurstSpec : ChangeSpec := { name := "fnExactLeastBurst", fn := fun _ => fun
  | [d1, d2] => { results := [.lit (.bool true)], args := [d1, d2] }
  | _ => none }
def fnExactLeastBurstRow : OpenClaim := { program := "ytmmelpgnfjjokaa", sum := "a7ced907408739e996a26182feb7a3b7a42702726d208d79ceadb0c65f2beb0f", func := "loop.example/g00838/laws.FnExactLeastBurst", spec := "fnExactLeastBurst", apart := false }
def FnExactLeastBurstSaid : Prop := fnExactLeastBurstRow.holds Try.pinned (OpenSpec.ofChange fnExactLeastBurstSpec)

/-- ITS FALSE NEIGHBOUR: 'it returns false'. Refute it at one input. -/
def fnExactLeastBurstWrong : ChangeSpec := { name := "fnExactLeastBurst", fn := fun _ => fun
  | [d1, d2] => { results := [.lit (.bool false)], args := [d1, d2] }
  | _ => none }
def FnExactLeastBurstWrongFalsely : Prop := fnExactLeastBurstRow.holds Try.pinned (OpenSpec.ofChange fnExactLeastBurstWrong)

/-- 'laws.FnExactConformsTo': WHATEVER THE INPUT: true; the input reads as it did. -/
def fnExactConformsToSpec : ChangeSpec := { name := "fnExactConformsTo", fn := fun _ => fun
  | [d1, d2] => { results := [.lit (.bool true)], args := [d1, d2] }
  | _ => none }
def fnExactConformsToRow : OpenClaim := { program := "ytmmelpgnfjjokaa", sum := "a7ced907408739e996a26182feb7a3b7a42702726d208d79ceadb0c65f2beb0f", func := "loop.example/g00838/laws.FnExactConformsTo", spec := "fnExactConformsTo", apart := false }
def FnExactConformsToSaid : Prop := fnExactConformsToRow.holds Try.pinned (OpenSpec.ofChange fnExactConformsToSpec)

/-- ITS FALSE NEIGHBOUR: 'it returns false'. Refute it at one input. -/
def fnExactConformsToWrong : ChangeSpec := { name := "fnExactConformsTo", fn := fun _ => fun
  | [d1, d2] => { results := [.lit (.bool false)], args := [d1, d2] }
  | _ => none }
def FnExactConformsToWrongFalsely : Prop := fnExactConformsToRow.holds Try.pinned (OpenSpec.ofChange fnExactConformsToWrong)

/-- 'laws.FnExactChainDelays': WHATEVER THE INPUT: true; the input reads as it did. -/
def fnExactChainDelaysSpec : ChangeSpec := { name := "fnExactChainDelays", fn := fun _ => fun
  | [d1, d2] => { results := [.lit (.bool true)], args := [d1, d2] }
  | _ => none }
def fnExactChainDelaysRow : OpenClaim := { program := "ytmmelpgnfjjokaa", sum := "a7ced907408739e996a26182feb7a3b7a42702726d208d79ceadb0c65f2beb0f", func := "loop.example/g00838/laws.FnExactChainDelays", spec := "fnExactChainDelays", apart := false }
def FnExactChainDelaysSaid : Prop := fnExactChainDelaysRow.holds Try.pinned (OpenSpec.ofChange fnExactChainDelaysSpec)

/-- ITS FALSE NEIGHBOUR: 'it returns false'. Refute it at one input. -/
def fnExactChainDelaysWrong : ChangeSpec := { name := "fnExactChainDelays", fn := fun _ => fun
  | [d1, d2] => { results := [.lit (.bool false)], args := [d1, d2] }
  | _ => none }
def FnExactChainDelaysWrongFalsely : Prop := fnExactChainDelaysRow.holds Try.pinned (OpenSpec.ofChange fnExactChainDelaysWrong)

/-- 'laws.FnExactSlowestSends': WHATEVER THE INPUT: true; the input reads as it did. -/
def fnExactSlowestSendsSpec : ChangeSpec := { name := "fnExactSlowestSends", fn := fun _ => fun
  | [d1, d2] => { results := [.lit (.bool true)], args := [d1, d2] }
  | _ => none }
def fnExactSlowestSendsRow : OpenClaim := { program := "ytmmelpgnfjjokaa", sum := "a7ced907408739e996a26182feb7a3b7a42702726d208d79ceadb0c65f2beb0f", func := "loop.example/g00838/laws.FnExactSlowestSends", spec := "fnExactSlowestSends", apart := false }
def FnExactSlowestSendsSaid : Prop := fnExactSlowestSendsRow.holds Try.pinned (OpenSpec.ofChange fnExactSlowestSendsSpec)

/-- ITS FALSE NEIGHBOUR: 'it returns false'. Refute it at one input. -/
def fnExactSlowestSendsWrong : ChangeSpec := { name := "fnExactSlowestSends", fn := fun _ => fun
  | [d1, d2] => { results := [.lit (.bool false)], args := [d1, d2] }
  | _ => none }
def FnExactSlowestSendsWrongFalsely : Prop := fnExactSlowestSendsRow.holds Try.pinned (OpenSpec.ofChange fnExactSlowestSendsWrong)

/- THE SECOND FORM. 'bulk': how many values and letters a reading holds, each counted each time it is reached (what is shared counts as often as it is met; a slice's spare places count too). A statement '..UptoSaid' is the law's where the arguments, and the package variables that the reading takes, are together of bulk at most 1048576: NARROWER than '..Said'. Prove '..Said' where nothing that the law and all that it calls make is longer than what came in: it says more and counts as full. Else prove '..UptoSaid'. A law counts once. -/
mutual
def uptoBulk {H : Type} : DataW H → Nat
  | .lit (.string bytes) => bytes.length + 1
  | .lit _ => 1
  | .nil => 1
  | .ptr d => uptoBulk d + 1
  | .slice elems spare => uptoBulkAll elems + uptoBulkAll spare + 1
  | .agg parts => uptoBulkAll parts + 1
  | .iface _ d => uptoBulk d + 1
  | .map entries => uptoBulkEntries entries + 1
  | .held _ => 1
def uptoBulkAll {H : Type} : List (DataW H) → Nat
  | [] => 0
  | d :: r => uptoBulk d + uptoBulkAll r
def uptoBulkEntries {H : Type} : List (Lit × DataW H) → Nat
  | [] => 0
  | x :: r => uptoBulkEntry x + uptoBulkEntries r
def uptoBulkEntry {H : Type} : Lit × DataW H → Nat
  | (.string bytes, d) => bytes.length + uptoBulk d + 1
  | (_, d) => uptoBulk d + 1
 end
def uptoSmall : (H : Type) → List (DataW H) → Bool := fun _ ds => decide (uptoBulkAll ds ≤ 1048576)
def OpenSpec.upto (s : _root_.Go.ChangeSpec) : _root_.Go.OpenSpec := { _root_.Go.OpenSpec.ofChange s with cond := some uptoSmall }

/-- 'laws.FnExactIsInflow', WHERE WHAT IT READS IS OF BULK AT MOST 1048576: true; the input reads as it did. -/
def fnExactIsInflowUptoRow : OpenClaim := { program := "ytmmelpgnfjjokaa", sum := "a7ced907408739e996a26182feb7a3b7a42702726d208d79ceadb0c65f2beb0f", func := "loop.example/g00838/laws.FnExactIsInflow", spec := "fnExactIsInflow", apart := false, narrowed := true }
def FnExactIsInflowUptoSaid : Prop := fnExactIsInflowUptoRow.holds Try.pinned (OpenSpec.upto fnExactIsInflowSpec)

/-- 'laws.FnExactIsService', WHERE WHAT IT READS IS OF BULK AT MOST 1048576: true; the input reads as it did. -/
def fnExactIsServiceUptoRow : OpenClaim := { program := "ytmmelpgnfjjokaa", sum := "a7ced907408739e996a26182feb7a3b7a42702726d208d79ceadb0c65f2beb0f", func := "loop.example/g00838/laws.FnExactIsService", spec := "fnExactIsService", apart := false, narrowed := true }
def FnExactIsServiceUptoSaid : Prop := fnExactIsServiceUptoRow.holds Try.pinned (OpenSpec.upto fnExactIsServiceSpec)

/-- 'laws.FnExactBacklogBound', WHERE WHAT IT READS IS OF BULK AT MOST 1048576: true; the input reads as it did. -/
def fnExactBacklogBoundUptoRow : OpenClaim := { program := "ytmmelpgnfjjokaa", sum := "a7ced907408739e996a26182feb7a3b7a42702726d208d79ceadb0c65f2beb0f", func := "loop.example/g00838/laws.FnExactBacklogBound", spec := "fnExactBacklogBound", apart := false, narrowed := true }
def FnExactBacklogBoundUptoSaid : Prop := fnExactBacklogBoundUptoRow.holds Try.pinned (OpenSpec.upto fnExactBacklogBoundSpec)

/-- 'laws.FnExactDelayBound', WHERE WHAT IT READS IS OF BULK AT MOST 1048576: true; the input reads as it did. -/
def fnExactDelayBoundUptoRow : OpenClaim := { program := "ytmmelpgnfjjokaa", sum := "a7ced907408739e996a26182feb7a3b7a42702726d208d79ceadb0c65f2beb0f", func := "loop.example/g00838/laws.FnExactDelayBound", spec := "fnExactDelayBound", apart := false, narrowed := true }
def FnExactDelayBoundUptoSaid : Prop := fnExactDelayBoundUptoRow.holds Try.pinned (OpenSpec.upto fnExactDelayBoundSpec)

/-- 'laws.FnExactGreedyBacklog', WHERE WHAT IT READS IS OF BULK AT MOST 1048576: true; the input reads as it did. -/
def fnExactGreedyBacklogUptoRow : OpenClaim := { program := "ytmmelpgnfjjokaa", sum := "a7ced907408739e996a26182feb7a3b7a42702726d208d79ceadb0c65f2beb0f", func := "loop.example/g00838/laws.FnExactGreedyBacklog", spec := "fnExactGreedyBacklog", apart := false, narrowed := true }
def FnExactGreedyBacklogUptoSaid : Prop := fnExactGreedyBacklogUptoRow.holds Try.pinned (OpenSpec.upto fnExactGreedyBacklogSpec)

/-- 'laws.FnExactLeftoverService', WHERE WHAT IT READS IS OF BULK AT MOST 1048576: true; the input reads as it did. -/
def fnExactLeftoverServiceUptoRow : OpenClaim := { program := "ytmmelpgnfjjokaa", sum := "a7ced907408739e996a26182feb7a3b7a42702726d208d79ceadb0c65f2beb0f", func := "loop.example/g00838/laws.FnExactLeftoverService", spec := "fnExactLeftoverService", apart := false, narrowed := true }
def FnExactLeftoverServiceUptoSaid : Prop := fnExactLeftoverServiceUptoRow.holds Try.pinned (OpenSpec.upto fnExactLeftoverServiceSpec)

/-- 'laws.FnExactOutputInflow', WHERE WHAT IT READS IS OF BULK AT MOST 1048576: true; the input reads as it did. -/
def fnExactOutputInflowUptoRow : OpenClaim := { program := "ytmmelpgnfjjokaa", sum := "a7ced907408739e996a26182feb7a3b7a42702726d208d79ceadb0c65f2beb0f", func := "loop.example/g00838/laws.FnExactOutputInflow", spec := "fnExactOutputInflow", apart := false, narrowed := true }
def FnExactOutputInflowUptoSaid : Prop := fnExactOutputInflowUptoRow.holds Try.pinned (OpenSpec.upto fnExactOutputInflowSpec)

/-- 'laws.FnExactAddInflows', WHERE WHAT IT READS IS OF BULK AT MOST 1048576: true; the input reads as it did. -/
def fnExactAddInflowsUptoRow : OpenClaim := { program := "ytmmelpgnfjjokaa", sum := "a7ced907408739e996a26182feb7a3b7a42702726d208d79ceadb0c65f2beb0f", func := "loop.example/g00838/laws.FnExactAddInflows", spec := "fnExactAddInflows", apart := false, narrowed := true }
def FnExactAddInflowsUptoSaid : Prop := fnExactAddInflowsUptoRow.holds Try.pinned (OpenSpec.upto fnExactAddInflowsSpec)

/-- 'laws.FnExactChainServices', WHERE WHAT IT READS IS OF BULK AT MOST 1048576: true; the input reads as it did. -/
def fnExactChainServicesUptoRow : OpenClaim := { program := "ytmmelpgnfjjokaa", sum := "a7ced907408739e996a26182feb7a3b7a42702726d208d79ceadb0c65f2beb0f", func := "loop.example/g00838/laws.FnExactChainServices", spec := "fnExactChainServices", apart := false, narrowed := true }
def FnExactChainServicesUptoSaid : Prop := fnExactChainServicesUptoRow.holds Try.pinned (OpenSpec.upto fnExactChainServicesSpec)

/-- 'laws.FnExactLeastBurst', WHERE WHAT IT READS IS OF BULK AT MOST 1048576: true; the input reads as it did. -/
def fnExactLeastBurstUptoRow : OpenClaim := { program := "ytmmelpgnfjjokaa", sum := "a7ced907408739e996a26182feb7a3b7a42702726d208d79ceadb0c65f2beb0f", func := "loop.example/g00838/laws.FnExactLeastBurst", spec := "fnExactLeastBurst", apart := false, narrowed := true }
def FnExactLeastBurstUptoSaid : Prop := fnExactLeastBurstUptoRow.holds Try.pinned (OpenSpec.upto fnExactLeastBurstSpec)

/-- 'laws.FnExactConformsTo', WHERE WHAT IT READS IS OF BULK AT MOST 1048576: true; the input reads as it did. -/
def fnExactConformsToUptoRow : OpenClaim := { program := "ytmmelpgnfjjokaa", sum := "a7ced907408739e996a26182feb7a3b7a42702726d208d79ceadb0c65f2beb0f", func := "loop.example/g00838/laws.FnExactConformsTo", spec := "fnExactConformsTo", apart := false, narrowed := true }
def FnExactConformsToUptoSaid : Prop := fnExactConformsToUptoRow.holds Try.pinned (OpenSpec.upto fnExactConformsToSpec)

/-- 'laws.FnExactChainDelays', WHERE WHAT IT READS IS OF BULK AT MOST 1048576: true; the input reads as it did. -/
def fnExactChainDelaysUptoRow : OpenClaim := { program := "ytmmelpgnfjjokaa", sum := "a7ced907408739e996a26182feb7a3b7a42702726d208d79ceadb0c65f2beb0f", func := "loop.example/g00838/laws.FnExactChainDelays", spec := "fnExactChainDelays", apart := false, narrowed := true }
def FnExactChainDelaysUptoSaid : Prop := fnExactChainDelaysUptoRow.holds Try.pinned (OpenSpec.upto fnExactChainDelaysSpec)

/-- 'laws.FnExactSlowestSends', WHERE WHAT IT READS IS OF BULK AT MOST 1048576: true; the input reads as it did. -/
def fnExactSlowestSendsUptoRow : OpenClaim := { program := "ytmmelpgnfjjokaa", sum := "a7ced907408739e996a26182feb7a3b7a42702726d208d79ceadb0c65f2beb0f", func := "loop.example/g00838/laws.FnExactSlowestSends", spec := "fnExactSlowestSends", apart := false, narrowed := true }
def FnExactSlowestSendsUptoSaid : Prop := fnExactSlowestSendsUptoRow.holds Try.pinned (OpenSpec.upto fnExactSlowestSendsSpec)

end Rows
end Go.Proofs.Ytmmelpgnfjjokaa
