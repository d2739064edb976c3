/-
  No cell of these rows narrows 'for every input' (looked for: loops, veiled, ifaces, maps, wideKeys, modest, calm, conditions, laid).
  DERIVED. THE GIVEN ROWS OF THIS SEAT. 9 by the template 'for every input the law returns true; each argument reads behind the call as it read before'; 0 by the template 'total and deterministic' (their statements: YtgdccclpibbbeaaTotals.lean).
  GIVEN WITH THE SEED: the statements are not yours to turn. If you find one false, say at which input.
  Laid BY PROGRAM, IN A SANDBOX (cutbox-rows.mjs): the forced cells as the released guide's own fill.sh prints them over the translation e7b24b09c2e8d09d… (all of the seat's roots in one cut). By AI agents, Wed Nov 11 2026. No macro, syntax, notation, axiom, sorry.
-/
import Derived.Test.YtgdccclpibbbeaaChecked
import GoSem.Claim
import GoSem.ClaimJoined
import GoSem.ClaimMapViews
import Derived.JoinedTies
import Derived.KernelRfl
namespace Go.Proofs.Ytgdccclpibbbeaa
/- THE CELL 'sum', in the pinned program and in every row, IS THE sha256 OF THE DUMP (.gsa) THAT YtgdccclpibbbeaaProg.lean LOADS. Nothing in Lean hashes anything: it is a label: what it is worth is what the hold of that sum in a sandbox is worth. -/
noncomputable def Try.pinned : Pinned := { name := "ytgdccclpibbbeaa", sum := "e7b24b09c2e8d09d75fc2a3fa78aead425fc2771a818b2ae8035a7e447587527", checked := Try.checked }
namespace Rows
def none {H : Type} : Left H := { results := [], args := [] }

/-- 'laws.FnExactIsBandMap': WHATEVER THE INPUT: true; the input reads as it did. -/
def fnExactIsBandMapSpec : ChangeSpec := { name := "fnExactIsBandMap", fn := fun _ => fun
  | [d] => { results := [.lit (.bool true)], args := [d] }
  | _ => none }
def fnExactIsBandMapRow : OpenClaim := { program := "ytgdccclpibbbeaa", sum := "e7b24b09c2e8d09d75fc2a3fa78aead425fc2771a818b2ae8035a7e447587527", func := "loop.example/g00838/laws.FnExactIsBandMap", spec := "fnExactIsBandMap", apart := false }
def FnExactIsBandMapSaid : Prop := fnExactIsBandMapRow.holds Try.pinned (OpenSpec.ofChange fnExactIsBandMapSpec)

/-- ITS FALSE NEIGHBOUR: 'it returns false'. Refute it at one input. -/
def fnExactIsBandMapWrong : ChangeSpec := { name := "fnExactIsBandMap", fn := fun _ => fun
  | [d] => { results := [.lit (.bool false)], args := [d] }
  | _ => none }
def FnExactIsBandMapWrongFalsely : Prop := fnExactIsBandMapRow.holds Try.pinned (OpenSpec.ofChange fnExactIsBandMapWrong)

/-- 'laws.FnExactBandOf': WHATEVER THE INPUT: true; the input reads as it did. -/
def fnExactBandOfSpec : ChangeSpec := { name := "fnExactBandOf", fn := fun _ => fun
  | [d1, d2] => { results := [.lit (.bool true)], args := [d1, d2] }
  | _ => none }
def fnExactBandOfRow : OpenClaim := { program := "ytgdccclpibbbeaa", sum := "e7b24b09c2e8d09d75fc2a3fa78aead425fc2771a818b2ae8035a7e447587527", func := "loop.example/g00838/laws.FnExactBandOf", spec := "fnExactBandOf", apart := false }
def FnExactBandOfSaid : Prop := fnExactBandOfRow.holds Try.pinned (OpenSpec.ofChange fnExactBandOfSpec)

/-- ITS FALSE NEIGHBOUR: 'it returns false'. Refute it at one input. -/
def fnExactBandOfWrong : ChangeSpec := { name := "fnExactBandOf", fn := fun _ => fun
  | [d1, d2] => { results := [.lit (.bool false)], args := [d1, d2] }
  | _ => none }
def FnExactBandOfWrongFalsely : Prop := fnExactBandOfRow.holds Try.pinned (OpenSpec.ofChange fnExactBandOfWrong)

/-- 'laws.FnExactSendOrder': WHATEVER THE INPUT: true; the input reads as it did. -/
def fnExactSendOrderSpec : ChangeSpec := { name := "fnExactSendOrder", fn := fun _ => fun
  | [d1, d2] => { results := [.lit (.bool true)], args := [d1, d2] }
  | _ => none }
def fnExactSendOrderRow : OpenClaim := { program := "ytgdccclpibbbeaa", sum := "e7b24b09c2e8d09d75fc2a3fa78aead425fc2771a818b2ae8035a7e447587527", func := "loop.example/g00838/laws.FnExactSendOrder", spec := "fnExactSendOrder", apart := false }
def FnExactSendOrderSaid : Prop := fnExactSendOrderRow.holds Try.pinned (OpenSpec.ofChange fnExactSendOrderSpec)

/-- ITS FALSE NEIGHBOUR: 'it returns false'. Refute it at one input. -/
def fnExactSendOrderWrong : ChangeSpec := { name := "fnExactSendOrder", fn := fun _ => fun
  | [d1, d2] => { results := [.lit (.bool false)], args := [d1, d2] }
  | _ => none }
def FnExactSendOrderWrongFalsely : Prop := fnExactSendOrderRow.holds Try.pinned (OpenSpec.ofChange fnExactSendOrderWrong)

/-- 'laws.FnExactBandCounts': WHATEVER THE INPUT: true; the input reads as it did. -/
def fnExactBandCountsSpec : ChangeSpec := { name := "fnExactBandCounts", fn := fun _ => fun
  | [d1, d2] => { results := [.lit (.bool true)], args := [d1, d2] }
  | _ => none }
def fnExactBandCountsRow : OpenClaim := { program := "ytgdccclpibbbeaa", sum := "e7b24b09c2e8d09d75fc2a3fa78aead425fc2771a818b2ae8035a7e447587527", func := "loop.example/g00838/laws.FnExactBandCounts", spec := "fnExactBandCounts", apart := false }
def FnExactBandCountsSaid : Prop := fnExactBandCountsRow.holds Try.pinned (OpenSpec.ofChange fnExactBandCountsSpec)

/-- ITS FALSE NEIGHBOUR: 'it returns false'. Refute it at one input. -/
def fnExactBandCountsWrong : ChangeSpec := { name := "fnExactBandCounts", fn := fun _ => fun
  | [d1, d2] => { results := [.lit (.bool false)], args := [d1, d2] }
  | _ => none }
def FnExactBandCountsWrongFalsely : Prop := fnExactBandCountsRow.holds Try.pinned (OpenSpec.ofChange fnExactBandCountsWrong)

/-- 'laws.FnExactWaitsIn': WHATEVER THE INPUT: true; the input reads as it did. -/
def fnExactWaitsInSpec : ChangeSpec := { name := "fnExactWaitsIn", fn := fun _ => fun
  | [d1, d2] => { results := [.lit (.bool true)], args := [d1, d2] }
  | _ => none }
def fnExactWaitsInRow : OpenClaim := { program := "ytgdccclpibbbeaa", sum := "e7b24b09c2e8d09d75fc2a3fa78aead425fc2771a818b2ae8035a7e447587527", func := "loop.example/g00838/laws.FnExactWaitsIn", spec := "fnExactWaitsIn", apart := false }
def FnExactWaitsInSaid : Prop := fnExactWaitsInRow.holds Try.pinned (OpenSpec.ofChange fnExactWaitsInSpec)

/-- ITS FALSE NEIGHBOUR: 'it returns false'. Refute it at one input. -/
def fnExactWaitsInWrong : ChangeSpec := { name := "fnExactWaitsIn", fn := fun _ => fun
  | [d1, d2] => { results := [.lit (.bool false)], args := [d1, d2] }
  | _ => none }
def FnExactWaitsInWrongFalsely : Prop := fnExactWaitsInRow.holds Try.pinned (OpenSpec.ofChange fnExactWaitsInWrong)

/-- 'laws.FnExactIsStrict': WHATEVER THE INPUT: true; the input reads as it did. -/
def fnExactIsStrictSpec : ChangeSpec := { name := "fnExactIsStrict", fn := fun _ => fun
  | [d1, d2, d3] => { results := [.lit (.bool true)], args := [d1, d2, d3] }
  | _ => none }
def fnExactIsStrictRow : OpenClaim := { program := "ytgdccclpibbbeaa", sum := "e7b24b09c2e8d09d75fc2a3fa78aead425fc2771a818b2ae8035a7e447587527", func := "loop.example/g00838/laws.FnExactIsStrict", spec := "fnExactIsStrict", apart := false }
def FnExactIsStrictSaid : Prop := fnExactIsStrictRow.holds Try.pinned (OpenSpec.ofChange fnExactIsStrictSpec)

/-- ITS FALSE NEIGHBOUR: 'it returns false'. Refute it at one input. -/
def fnExactIsStrictWrong : ChangeSpec := { name := "fnExactIsStrict", fn := fun _ => fun
  | [d1, d2, d3] => { results := [.lit (.bool false)], args := [d1, d2, d3] }
  | _ => none }
def FnExactIsStrictWrongFalsely : Prop := fnExactIsStrictRow.holds Try.pinned (OpenSpec.ofChange fnExactIsStrictWrong)

/-- 'laws.FnExactRunBands': WHATEVER THE INPUT: true; the input reads as it did. -/
def fnExactRunBandsSpec : ChangeSpec := { name := "fnExactRunBands", fn := fun _ => fun
  | [d1, d2, d3] => { results := [.lit (.bool true)], args := [d1, d2, d3] }
  | _ => none }
def fnExactRunBandsRow : OpenClaim := { program := "ytgdccclpibbbeaa", sum := "e7b24b09c2e8d09d75fc2a3fa78aead425fc2771a818b2ae8035a7e447587527", func := "loop.example/g00838/laws.FnExactRunBands", spec := "fnExactRunBands", apart := false }
def FnExactRunBandsSaid : Prop := fnExactRunBandsRow.holds Try.pinned (OpenSpec.ofChange fnExactRunBandsSpec)

/-- ITS FALSE NEIGHBOUR: 'it returns false'. Refute it at one input. -/
def fnExactRunBandsWrong : ChangeSpec := { name := "fnExactRunBands", fn := fun _ => fun
  | [d1, d2, d3] => { results := [.lit (.bool false)], args := [d1, d2, d3] }
  | _ => none }
def FnExactRunBandsWrongFalsely : Prop := fnExactRunBandsRow.holds Try.pinned (OpenSpec.ofChange fnExactRunBandsWrong)

/-- 'laws.FnExactOvertakenBy': WHATEVER THE INPUT: true; the input reads as it did. -/
def fnExactOvertakenBySpec : ChangeSpec := { name := "fnExactOvertakenBy", fn := fun _ => fun
  | [d1, d2, d3, d4] => { results := [.lit (.bool true)], args := [d1, d2, d3, d4] }
  | _ => none }
def fnExactOvertakenByRow : OpenClaim := { program := "ytgdccclpibbbeaa", sum := "e7b24b09c2e8d09d75fc2a3fa78aead425fc2771a818b2ae8035a7e447587527", func := "loop.example/g00838/laws.FnExactOvertakenBy", spec := "fnExactOvertakenBy", apart := false }
def FnExactOvertakenBySaid : Prop := fnExactOvertakenByRow.holds Try.pinned (OpenSpec.ofChange fnExactOvertakenBySpec)

/-- ITS FALSE NEIGHBOUR: 'it returns false'. Refute it at one input. -/
def fnExactOvertakenByWrong : ChangeSpec := { name := "fnExactOvertakenBy", fn := fun _ => fun
  | [d1, d2, d3, d4] => { results := [.lit (.bool false)], args := [d1, d2, d3, d4] }
  | _ => none }
def FnExactOvertakenByWrongFalsely : Prop := fnExactOvertakenByRow.holds Try.pinned (OpenSpec.ofChange fnExactOvertakenByWrong)

/-- 'laws.FnExactLastBusy': WHATEVER THE INPUT: true; the input reads as it did. -/
def fnExactLastBusySpec : ChangeSpec := { name := "fnExactLastBusy", fn := fun _ => fun
  | [d1, d2, d3] => { results := [.lit (.bool true)], args := [d1, d2, d3] }
  | _ => none }
def fnExactLastBusyRow : OpenClaim := { program := "ytgdccclpibbbeaa", sum := "e7b24b09c2e8d09d75fc2a3fa78aead425fc2771a818b2ae8035a7e447587527", func := "loop.example/g00838/laws.FnExactLastBusy", spec := "fnExactLastBusy", apart := false }
def FnExactLastBusySaid : Prop := fnExactLastBusyRow.holds Try.pinned (OpenSpec.ofChange fnExactLastBusySpec)

/-- ITS FALSE NEIGHBOUR: 'it returns false'. Refute it at one input. -/
def fnExactLastBusyWrong : ChangeSpec := { name := "fnExactLastBusy", fn := fun _ => fun
  | [d1, d2, d3] => { results := [.lit (.bool false)], args := [d1, d2, d3] }
  | _ => none }
def FnExactLastBusyWrongFalsely : Prop := fnExactLastBusyRow.holds Try.pinned (OpenSpec.ofChange fnExactLastBusyWrong)

/- THE SECOND FORM. 'bulk': how many values and letters a reading holds, each counted each time it is reached (what is shared counts as often as it is met; a slice's spare places count too). A statement '..UptoSaid' is the law's where the arguments, and the package variables that the reading takes, are together of bulk at most 1048576: NARROWER than '..Said'. Prove '..Said' where nothing that the law and all that it calls make is longer than what came in: it says more and counts as full. Else prove '..UptoSaid'. A law counts once. -/
mutual
def uptoBulk {H : Type} : DataW H → Nat
  | .lit (.string bytes) => bytes.length + 1
  | .lit _ => 1
  | .nil => 1
  | .ptr d => uptoBulk d + 1
  | .slice elems spare => uptoBulkAll elems + uptoBulkAll spare + 1
  | .agg parts => uptoBulkAll parts + 1
  | .iface _ d => uptoBulk d + 1
  | .map entries => uptoBulkEntries entries + 1
  | .held _ => 1
def uptoBulkAll {H : Type} : List (DataW H) → Nat
  | [] => 0
  | d :: r => uptoBulk d + uptoBulkAll r
def uptoBulkEntries {H : Type} : List (Lit × DataW H) → Nat
  | [] => 0
  | x :: r => uptoBulkEntry x + uptoBulkEntries r
def uptoBulkEntry {H : Type} : Lit × DataW H → Nat
  | (.string bytes, d) => bytes.length + uptoBulk d + 1
  | (_, d) => uptoBulk d + 1
 end
def uptoSmall : (H : Type) → List (DataW H) → Bool := fun _ ds => decide (uptoBulkAll ds ≤ 1048576)
def OpenSpec.upto (s : _root_.Go.ChangeSpec) : _root_.Go.OpenSpec := { _root_.Go.OpenSpec.ofChange s with cond := some uptoSmall }

/-- 'laws.FnExactIsBandMap', WHERE WHAT IT READS IS OF BULK AT MOST 1048576: true; the input reads as it did. -/
def fnExactIsBandMapUptoRow : OpenClaim := { program := "ytgdccclpibbbeaa", sum := "e7b24b09c2e8d09d75fc2a3fa78aead425fc2771a818b2ae8035a7e447587527", func := "loop.example/g00838/laws.FnExactIsBandMap", spec := "fnExactIsBandMap", apart := false, narrowed := true }
def FnExactIsBandMapUptoSaid : Prop := fnExactIsBandMapUptoRow.holds Try.pinned (OpenSpec.upto fnExactIsBandMapSpec)

/-- 'laws.FnExactBandOf', WHERE WHAT IT READS IS OF BULK AT MOST 1048576: true; the input reads as it did. -/
def fnExactBandOfUptoRow : OpenClaim := { program := "ytgdccclpibbbeaa", sum := "e7b24b09c2e8d09d75fc2a3fa78aead425fc2771a818b2ae8035a7e447587527", func := "loop.example/g00838/laws.FnExactBandOf", spec := "fnExactBandOf", apart := false, narrowed := true }
def FnExactBandOfUptoSaid : Prop := fnExactBandOfUptoRow.holds Try.pinned (OpenSpec.upto fnExactBandOfSpec)

/-- 'laws.FnExactSendOrder', WHERE WHAT IT READS IS OF BULK AT MOST 1048576: true; the input reads as it did. -/
def fnExactSendOrderUptoRow : OpenClaim := { program := "ytgdccclpibbbeaa", sum := "e7b24b09c2e8d09d75fc2a3fa78aead425fc2771a818b2ae8035a7e447587527", func := "loop.example/g00838/laws.FnExactSendOrder", spec := "fnExactSendOrder", apart := false, narrowed := true }
def FnExactSendOrderUptoSaid : Prop := fnExactSendOrderUptoRow.holds Try.pinned (OpenSpec.upto fnExactSendOrderSpec)

/-- 'laws.FnExactBandCounts', WHERE WHAT IT READS IS OF BULK AT MOST 1048576: true; the input reads as it did. -/
def fnExactBandCountsUptoRow : OpenClaim := { program := "ytgdccclpibbbeaa", sum := "e7b24b09c2e8d09d75fc2a3fa78aead425fc2771a818b2ae8035a7e447587527", func := "loop.example/g00838/laws.FnExactBandCounts", spec := "fnExactBandCounts", apart := false, narrowed := true }
def FnExactBandCountsUptoSaid : Prop := fnExactBandCountsUptoRow.holds Try.pinned (OpenSpec.upto fnExactBandCountsSpec)

/-- 'laws.FnExactWaitsIn', WHERE WHAT IT READS IS OF BULK AT MOST 1048576: true; the input reads as it did. -/
def fnExactWaitsInUptoRow : OpenClaim := { program := "ytgdccclpibbbeaa", sum := "e7b24b09c2e8d09d75fc2a3fa78aead425fc2771a818b2ae8035a7e447587527", func := "loop.example/g00838/laws.FnExactWaitsIn", spec := "fnExactWaitsIn", apart := false, narrowed := true }
def FnExactWaitsInUptoSaid : Prop := fnExactWaitsInUptoRow.holds Try.pinned (OpenSpec.upto fnExactWaitsInSpec)

/-- 'laws.FnExactIsStrict', WHERE WHAT IT READS IS OF BULK AT MOST 1048576: true; the input reads as it did. -/
def fnExactIsStrictUptoRow : OpenClaim := { program := "ytgdccclpibbbeaa", sum := "e7b24b09c2e8d09d75fc2a3fa78aead425fc2771a818b2ae8035a7e447587527", func := "loop.example/g00838/laws.FnExactIsStrict", spec := "fnExactIsStrict", apart := false, narrowed := true }
def FnExactIsStrictUptoSaid : Prop := fnExactIsStrictUptoRow.holds Try.pinned (OpenSpec.upto fnExactIsStrictSpec)

/-- 'laws.FnExactRunBands', WHERE WHAT IT READS IS OF BULK AT MOST 1048576: true; the input reads as it did. -/
def fnExactRunBandsUptoRow : OpenClaim := { program := "ytgdccclpibbbeaa", sum := "e7b24b09c2e8d09d75fc2a3fa78aead425fc2771a818b2ae8035a7e447587527", func := "loop.example/g00838/laws.FnExactRunBands", spec := "fnExactRunBands", apart := false, narrowed := true }
def FnExactRunBandsUptoSaid : Prop := fnExactRunBandsUptoRow.holds Try.pinned (OpenSpec.upto fnExactRunBandsSpec)

/-- 'laws.FnExactOvertakenBy', WHERE WHAT IT READS IS OF BULK AT MOST 1048576: true; the input reads as it did. -/
def fnExactOvertakenByUptoRow : OpenClaim := { program := "ytgdccclpibbbeaa", sum := "e7b24b09c2e8d09d75fc2a3fa78aead425fc2771a818b2ae8035a7e447587527", func := "loop.example/g00838/laws.FnExactOvertakenBy", spec := "fnExactOvertakenBy", apart := false, narrowed := true }
def FnExactOvertakenByUptoSaid : Prop := fnExactOvertakenByUptoRow.holds Try.pinned (OpenSpec.upto fnExactOvertakenBySpec)

/-- 'laws.FnExactLastBusy', WHERE WHAT IT READS IS OF BULK AT MOST 1048576: true; the input reads as it did. -/
def fnExactLastBusyUptoRow : OpenClaim := { program := "ytgdccclpibbbeaa", sum := "e7b24b09c2e8d09d75fc2a3fa78aead425fc2771a818b2ae8035a7e447587527", func := "loop.example/g00838/laws.FnExactLastBusy", spec := "fnExactLastBusy", apart := false, narrowed := true }
def FnExactLastBusyUptoSaid : Prop := fnExactLastBusyUptoRow.holds Try.pinned (OpenSpec.upto fnExactLastBusySpec)

end Rows
end Go.Proofs.Ytgdccclpibbbeaa
