/-
  No cell of these rows narrows 'for every input' (looked for: loops, veiled, ifaces, maps, wideKeys, modest, calm, conditions, laid).
  DERIVED. THE GIVEN ROWS OF THIS SEAT. 4 by the template 'for every input the law returns true; each argument reads behind the call as it read before'; 0 by the template 'total and deterministic' (their statements: YtooodokpkmfbiaaTotals.lean).
  GIVEN WITH THE SEED: the statements are not yours to turn. If you find one false, say at which input.
  Laid BY PROGRAM, IN A SANDBOX (cutbox-rows.mjs): the forced cells as the released guide's own fill.sh prints them over the translation cc5da8221464260d… (all of the seat's roots in one cut). By AI agents, Wed Nov 11 2026. No macro, syntax, notation, axiom, sorry.
-/
import Derived.Test.YtooodokpkmfbiaaChecked
import GoSem.Claim
import GoSem.ClaimJoined
import GoSem.ClaimMapViews
import Derived.JoinedTies
import Derived.KernelRfl
namespace Go.Proofs.Ytooodokpkmfbiaa
/- THE CELL 'sum', in the pinned program and in every row, IS THE sha256 OF THE DUMP (.gsa) THAT YtooodokpkmfbiaaProg.lean LOADS. Nothing in Lean hashes anything: it is a label: what it is worth is what the hold of that sum in a sandbox is worth. -/
noncomputable def Try.pinned : Pinned := { name := "ytooodokpkmfbiaa", sum := "cc5da8221464260dab52e5c638c424d2d27104b9d88dac0777839cc45c8b2e37", checked := Try.checked }
namespace Rows
def none {H : Type} : Left H := { results := [], args := [] }

/-- 'laws.FnExactAreEvents': WHATEVER THE INPUT: true; the input reads as it did. -/
def fnExactAreEventsSpec : ChangeSpec := { name := "fnExactAreEvents", fn := fun _ => fun
  | [d] => { results := [.lit (.bool true)], args := [d] }
  | _ => none }
def fnExactAreEventsRow : OpenClaim := { program := "ytooodokpkmfbiaa", sum := "cc5da8221464260dab52e5c638c424d2d27104b9d88dac0777839cc45c8b2e37", func := "loop.example/g00838/laws.FnExactAreEvents", spec := "fnExactAreEvents", apart := false }
def FnExactAreEventsSaid : Prop := fnExactAreEventsRow.holds Try.pinned (OpenSpec.ofChange fnExactAreEventsSpec)

/-- ITS FALSE NEIGHBOUR: 'it returns false'. Refute it at one input. -/
def fnExactAreEventsWrong : ChangeSpec := { name := "fnExactAreEvents", fn := fun _ => fun
  | [d] => { results := [.lit (.bool false)], args := [d] }
  | _ => none }
def FnExactAreEventsWrongFalsely : Prop := fnExactAreEventsRow.holds Try.pinned (OpenSpec.ofChange fnExactAreEventsWrong)

/-- 'laws.FnExactSentBetween': WHATEVER THE INPUT: true; the input reads as it did. -/
def fnExactSentBetweenSpec : ChangeSpec := { name := "fnExactSentBetween", fn := fun _ => fun
  | [d1, d2, d3, d4] => { results := [.lit (.bool true)], args := [d1, d2, d3, d4] }
  | _ => none }
def fnExactSentBetweenRow : OpenClaim := { program := "ytooodokpkmfbiaa", sum := "cc5da8221464260dab52e5c638c424d2d27104b9d88dac0777839cc45c8b2e37", func := "loop.example/g00838/laws.FnExactSentBetween", spec := "fnExactSentBetween", apart := false }
def FnExactSentBetweenSaid : Prop := fnExactSentBetweenRow.holds Try.pinned (OpenSpec.ofChange fnExactSentBetweenSpec)

/-- ITS FALSE NEIGHBOUR: 'it returns false'. Refute it at one input. -/
def fnExactSentBetweenWrong : ChangeSpec := { name := "fnExactSentBetween", fn := fun _ => fun
  | [d1, d2, d3, d4] => { results := [.lit (.bool false)], args := [d1, d2, d3, d4] }
  | _ => none }
def FnExactSentBetweenWrongFalsely : Prop := fnExactSentBetweenRow.holds Try.pinned (OpenSpec.ofChange fnExactSentBetweenWrong)

/-- 'laws.FnExactWaitsOf': WHATEVER THE INPUT: true; the input reads as it did. -/
def fnExactWaitsOfSpec : ChangeSpec := { name := "fnExactWaitsOf", fn := fun _ => fun
  | [d] => { results := [.lit (.bool true)], args := [d] }
  | _ => none }
def fnExactWaitsOfRow : OpenClaim := { program := "ytooodokpkmfbiaa", sum := "cc5da8221464260dab52e5c638c424d2d27104b9d88dac0777839cc45c8b2e37", func := "loop.example/g00838/laws.FnExactWaitsOf", spec := "fnExactWaitsOf", apart := false }
def FnExactWaitsOfSaid : Prop := fnExactWaitsOfRow.holds Try.pinned (OpenSpec.ofChange fnExactWaitsOfSpec)

/-- ITS FALSE NEIGHBOUR: 'it returns false'. Refute it at one input. -/
def fnExactWaitsOfWrong : ChangeSpec := { name := "fnExactWaitsOf", fn := fun _ => fun
  | [d] => { results := [.lit (.bool false)], args := [d] }
  | _ => none }
def FnExactWaitsOfWrongFalsely : Prop := fnExactWaitsOfRow.holds Try.pinned (OpenSpec.ofChange fnExactWaitsOfWrong)

/-- 'laws.FnExactStillWaiting': WHATEVER THE INPUT: true; the input reads as it did. -/
def fnExactStillWaitingSpec : ChangeSpec := { name := "fnExactStillWaiting", fn := fun _ => fun
  | [d] => { results := [.lit (.bool true)], args := [d] }
  | _ => none }
def fnExactStillWaitingRow : OpenClaim := { program := "ytooodokpkmfbiaa", sum := "cc5da8221464260dab52e5c638c424d2d27104b9d88dac0777839cc45c8b2e37", func := "loop.example/g00838/laws.FnExactStillWaiting", spec := "fnExactStillWaiting", apart := false }
def FnExactStillWaitingSaid : Prop := fnExactStillWaitingRow.holds Try.pinned (OpenSpec.ofChange fnExactStillWaitingSpec)

/-- ITS FALSE NEIGHBOUR: 'it returns false'. Refute it at one input. -/
def fnExactStillWaitingWrong : ChangeSpec := { name := "fnExactStillWaiting", fn := fun _ => fun
  | [d] => { results := [.lit (.bool false)], args := [d] }
  | _ => none }
def FnExactStillWaitingWrongFalsely : Prop := fnExactStillWaitingRow.holds Try.pinned (OpenSpec.ofChange fnExactStillWaitingWrong)

/- THE SECOND FORM. 'bulk': how many values and letters a reading holds, each counted each time it is reached (what is shared counts as often as it is met; a slice's spare places count too). A statement '..UptoSaid' is the law's where the arguments, and the package variables that the reading takes, are together of bulk at most 1048576: NARROWER than '..Said'. Prove '..Said' where nothing that the law and all that it calls make is longer than what came in: it says more and counts as full. Else prove '..UptoSaid'. A law counts once. -/
mutual
def uptoBulk {H : Type} : DataW H → Nat
  | .lit (.string bytes) => bytes.length + 1
  | .lit _ => 1
  | .nil => 1
  | .ptr d => uptoBulk d + 1
  | .slice elems spare => uptoBulkAll elems + uptoBulkAll spare + 1
  | .agg parts => uptoBulkAll parts + 1
  | .iface _ d => uptoBulk d + 1
  | .map entries => uptoBulkEntries entries + 1
  | .held _ => 1
def uptoBulkAll {H : Type} : List (DataW H) → Nat
  | [] => 0
  | d :: r => uptoBulk d + uptoBulkAll r
def uptoBulkEntries {H : Type} : List (Lit × DataW H) → Nat
  | [] => 0
  | x :: r => uptoBulkEntry x + uptoBulkEntries r
def uptoBulkEntry {H : Type} : Lit × DataW H → Nat
  | (.string bytes, d) => bytes.length + uptoBulk d + 1
  | (_, d) => uptoBulk d + 1
 end
def uptoSmall : (H : Type) → List (DataW H) → Bool := fun _ ds => decide (uptoBulkAll ds ≤ 1048576)
def OpenSpec.upto (s : _root_.Go.ChangeSpec) : _root_.Go.OpenSpec := { _root_.Go.OpenSpec.ofChange s with cond := some uptoSmall }

/-- 'laws.FnExactAreEvents', WHERE WHAT IT READS IS OF BULK AT MOST 1048576: true; the input reads as it did. -/
def fnExactAreEventsUptoRow : OpenClaim := { program := "ytooodokpkmfbiaa", sum := "cc5da8221464260dab52e5c638c424d2d27104b9d88dac0777839cc45c8b2e37", func := "loop.example/g00838/laws.FnExactAreEvents", spec := "fnExactAreEvents", apart := false, narrowed := true }
def FnExactAreEventsUptoSaid : Prop := fnExactAreEventsUptoRow.holds Try.pinned (OpenSpec.upto fnExactAreEventsSpec)

/-- 'laws.FnExactSentBetween', WHERE WHAT IT READS IS OF BULK AT MOST 1048576: true; the input reads as it did. -/
def fnExactSentBetweenUptoRow : OpenClaim := { program := "ytooodokpkmfbiaa", sum := "cc5da8221464260dab52e5c638c424d2d27104b9d88dac0777839cc45c8b2e37", func := "loop.example/g00838/laws.FnExactSentBetween", spec := "fnExactSentBetween", apart := false, narrowed := true }
def FnExactSentBetweenUptoSaid : Prop := fnExactSentBetweenUptoRow.holds Try.pinned (OpenSpec.upto fnExactSentBetweenSpec)

/-- 'laws.FnExactWaitsOf', WHERE WHAT IT READS IS OF BULK AT MOST 1048576: true; the input reads as it did. -/
def fnExactWaitsOfUptoRow : OpenClaim := { program := "ytooodokpkmfbiaa", sum := "cc5da8221464260dab52e5c638c424d2d27104b9d88dac0777839cc45c8b2e37", func := "loop.example/g00838/laws.FnExactWaitsOf", spec := "fnExactWaitsOf", apart := false, narrowed := true }
def FnExactWaitsOfUptoSaid : Prop := fnExactWaitsOfUptoRow.holds Try.pinned (OpenSpec.upto fnExactWaitsOfSpec)

/-- 'laws.FnExactStillWaiting', WHERE WHAT IT READS IS OF BULK AT MOST 1048576: true; the input reads as it did. -/
def fnExactStillWaitingUptoRow : OpenClaim := { program := "ytooodokpkmfbiaa", sum := "cc5da8221464260dab52e5c638c424d2d27104b9d88dac0777839cc45c8b2e37", func := "loop.example/g00838/laws.FnExactStillWaiting", spec := "fnExactStillWaiting", apart := false, narrowed := true }
def FnExactStillWaitingUptoSaid : Prop := fnExactStillWaitingUptoRow.holds Try.pinned (OpenSpec.upto fnExactStillWaitingSpec)

end Rows
end Go.Proofs.Ytooodokpkmfbiaa
