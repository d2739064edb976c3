/-
  No cell of these rows narrows 'for every input' (looked for: loops, veiled, ifaces, maps, wideKeys, modest, calm, conditions, laid).
  DERIVED. THE GIVEN ROWS OF THIS SEAT. 10 by the template 'for every input the law returns true; each argument reads behind the call as it read before'; 0 by the template 'total and deterministic' (their statements: YtdhojfkdbpghmaaTotals.lean).
  GIVEN WITH THE SEED: the statements are not yours to turn. If you find one false, say at which input.
  Laid BY PROGRAM, IN A SANDBOX (cutbox-rows.mjs): the forced cells as the released guide's own fill.sh prints them over the translation 05ef862994ec781a… (all of the seat's roots in one cut). By AI agents, Wed Nov 11 2026. No macro, syntax, notation, axiom, sorry.
-/
import Derived.Test.YtdhojfkdbpghmaaChecked
import GoSem.Claim
import GoSem.ClaimJoined
import GoSem.ClaimMapViews
import Derived.JoinedTies
import Derived.KernelRfl
namespace Go.Proofs.Ytdhojfkdbpghmaa
/- THE CELL 'sum', in the pinned program and in every row, IS THE sha256 OF THE DUMP (.gsa) THAT YtdhojfkdbpghmaaProg.lean LOADS. Nothing in Lean hashes anything: it is a label: what it is worth is what the hold of that sum in a sandbox is worth. -/
noncomputable def Try.pinned : Pinned := { name := "ytdhojfkdbpghmaa", sum := "05ef862994ec781a7428aaf06b32f9b5ae5e2a63b36062a19ddf7fbfa3898d36", checked := Try.checked }
namespace Rows
def none {H : Type} : Left H := { results := [], args := [] }

/-- 'laws.FnExactIsPolicer': WHATEVER THE INPUT: true; the input reads as it did. -/
def fnExactIsPolicerSpec : ChangeSpec := { name := "fnExactIsPolicer", fn := fun _ => fun
  | [d] => { results := [.lit (.bool true)], args := [d] }
  | _ => none }
def fnExactIsPolicerRow : OpenClaim := { program := "ytdhojfkdbpghmaa", sum := "05ef862994ec781a7428aaf06b32f9b5ae5e2a63b36062a19ddf7fbfa3898d36", func := "loop.example/g00838/laws.FnExactIsPolicer", spec := "fnExactIsPolicer", apart := false }
def FnExactIsPolicerSaid : Prop := fnExactIsPolicerRow.holds Try.pinned (OpenSpec.ofChange fnExactIsPolicerSpec)

/-- ITS FALSE NEIGHBOUR: 'it returns false'. Refute it at one input. -/
def fnExactIsPolicerWrong : ChangeSpec := { name := "fnExactIsPolicer", fn := fun _ => fun
  | [d] => { results := [.lit (.bool false)], args := [d] }
  | _ => none }
def FnExactIsPolicerWrongFalsely : Prop := fnExactIsPolicerRow.holds Try.pinned (OpenSpec.ofChange fnExactIsPolicerWrong)

/-- 'laws.FnExactGreenBound': WHATEVER THE INPUT: true; the input reads as it did. -/
def fnExactGreenBoundSpec : ChangeSpec := { name := "fnExactGreenBound", fn := fun _ => fun
  | [d1, d2] => { results := [.lit (.bool true)], args := [d1, d2] }
  | _ => none }
def fnExactGreenBoundRow : OpenClaim := { program := "ytdhojfkdbpghmaa", sum := "05ef862994ec781a7428aaf06b32f9b5ae5e2a63b36062a19ddf7fbfa3898d36", func := "loop.example/g00838/laws.FnExactGreenBound", spec := "fnExactGreenBound", apart := false }
def FnExactGreenBoundSaid : Prop := fnExactGreenBoundRow.holds Try.pinned (OpenSpec.ofChange fnExactGreenBoundSpec)

/-- ITS FALSE NEIGHBOUR: 'it returns false'. Refute it at one input. -/
def fnExactGreenBoundWrong : ChangeSpec := { name := "fnExactGreenBound", fn := fun _ => fun
  | [d1, d2] => { results := [.lit (.bool false)], args := [d1, d2] }
  | _ => none }
def FnExactGreenBoundWrongFalsely : Prop := fnExactGreenBoundRow.holds Try.pinned (OpenSpec.ofChange fnExactGreenBoundWrong)

/-- 'laws.FnExactNotRedBound': WHATEVER THE INPUT: true; the input reads as it did. -/
def fnExactNotRedBoundSpec : ChangeSpec := { name := "fnExactNotRedBound", fn := fun _ => fun
  | [d1, d2] => { results := [.lit (.bool true)], args := [d1, d2] }
  | _ => none }
def fnExactNotRedBoundRow : OpenClaim := { program := "ytdhojfkdbpghmaa", sum := "05ef862994ec781a7428aaf06b32f9b5ae5e2a63b36062a19ddf7fbfa3898d36", func := "loop.example/g00838/laws.FnExactNotRedBound", spec := "fnExactNotRedBound", apart := false }
def FnExactNotRedBoundSaid : Prop := fnExactNotRedBoundRow.holds Try.pinned (OpenSpec.ofChange fnExactNotRedBoundSpec)

/-- ITS FALSE NEIGHBOUR: 'it returns false'. Refute it at one input. -/
def fnExactNotRedBoundWrong : ChangeSpec := { name := "fnExactNotRedBound", fn := fun _ => fun
  | [d1, d2] => { results := [.lit (.bool false)], args := [d1, d2] }
  | _ => none }
def FnExactNotRedBoundWrongFalsely : Prop := fnExactNotRedBoundRow.holds Try.pinned (OpenSpec.ofChange fnExactNotRedBoundWrong)

/-- 'laws.FnExactFullPolicer': WHATEVER THE INPUT: true; the input reads as it did. -/
def fnExactFullPolicerSpec : ChangeSpec := { name := "fnExactFullPolicer", fn := fun _ => fun
  | [d1, d2, d3, d4] => { results := [.lit (.bool true)], args := [d1, d2, d3, d4] }
  | _ => none }
def fnExactFullPolicerRow : OpenClaim := { program := "ytdhojfkdbpghmaa", sum := "05ef862994ec781a7428aaf06b32f9b5ae5e2a63b36062a19ddf7fbfa3898d36", func := "loop.example/g00838/laws.FnExactFullPolicer", spec := "fnExactFullPolicer", apart := false }
def FnExactFullPolicerSaid : Prop := fnExactFullPolicerRow.holds Try.pinned (OpenSpec.ofChange fnExactFullPolicerSpec)

/-- ITS FALSE NEIGHBOUR: 'it returns false'. Refute it at one input. -/
def fnExactFullPolicerWrong : ChangeSpec := { name := "fnExactFullPolicer", fn := fun _ => fun
  | [d1, d2, d3, d4] => { results := [.lit (.bool false)], args := [d1, d2, d3, d4] }
  | _ => none }
def FnExactFullPolicerWrongFalsely : Prop := fnExactFullPolicerRow.holds Try.pinned (OpenSpec.ofChange fnExactFullPolicerWrong)

/-- 'laws.FnExactColourAware': WHATEVER THE INPUT: true; the input reads as it did. -/
def fnExactColourAwareSpec : ChangeSpec := { name := "fnExactColourAware", fn := fun _ => fun
  | [d1, d2, d3] => { results := [.lit (.bool true)], args := [d1, d2, d3] }
  | _ => none }
def fnExactColourAwareRow : OpenClaim := { program := "ytdhojfkdbpghmaa", sum := "05ef862994ec781a7428aaf06b32f9b5ae5e2a63b36062a19ddf7fbfa3898d36", func := "loop.example/g00838/laws.FnExactColourAware", spec := "fnExactColourAware", apart := false }
def FnExactColourAwareSaid : Prop := fnExactColourAwareRow.holds Try.pinned (OpenSpec.ofChange fnExactColourAwareSpec)

/-- ITS FALSE NEIGHBOUR: 'it returns false'. Refute it at one input. -/
def fnExactColourAwareWrong : ChangeSpec := { name := "fnExactColourAware", fn := fun _ => fun
  | [d1, d2, d3] => { results := [.lit (.bool false)], args := [d1, d2, d3] }
  | _ => none }
def FnExactColourAwareWrongFalsely : Prop := fnExactColourAwareRow.holds Try.pinned (OpenSpec.ofChange fnExactColourAwareWrong)

/-- 'laws.FnExactColourOf': WHATEVER THE INPUT: true; the input reads as it did. -/
def fnExactColourOfSpec : ChangeSpec := { name := "fnExactColourOf", fn := fun _ => fun
  | [d1, d2] => { results := [.lit (.bool true)], args := [d1, d2] }
  | _ => none }
def fnExactColourOfRow : OpenClaim := { program := "ytdhojfkdbpghmaa", sum := "05ef862994ec781a7428aaf06b32f9b5ae5e2a63b36062a19ddf7fbfa3898d36", func := "loop.example/g00838/laws.FnExactColourOf", spec := "fnExactColourOf", apart := false }
def FnExactColourOfSaid : Prop := fnExactColourOfRow.holds Try.pinned (OpenSpec.ofChange fnExactColourOfSpec)

/-- ITS FALSE NEIGHBOUR: 'it returns false'. Refute it at one input. -/
def fnExactColourOfWrong : ChangeSpec := { name := "fnExactColourOf", fn := fun _ => fun
  | [d1, d2] => { results := [.lit (.bool false)], args := [d1, d2] }
  | _ => none }
def FnExactColourOfWrongFalsely : Prop := fnExactColourOfRow.holds Try.pinned (OpenSpec.ofChange fnExactColourOfWrong)

/-- 'laws.FnExactCountColours': WHATEVER THE INPUT: true; the input reads as it did. -/
def fnExactCountColoursSpec : ChangeSpec := { name := "fnExactCountColours", fn := fun _ => fun
  | [d] => { results := [.lit (.bool true)], args := [d] }
  | _ => none }
def fnExactCountColoursRow : OpenClaim := { program := "ytdhojfkdbpghmaa", sum := "05ef862994ec781a7428aaf06b32f9b5ae5e2a63b36062a19ddf7fbfa3898d36", func := "loop.example/g00838/laws.FnExactCountColours", spec := "fnExactCountColours", apart := false }
def FnExactCountColoursSaid : Prop := fnExactCountColoursRow.holds Try.pinned (OpenSpec.ofChange fnExactCountColoursSpec)

/-- ITS FALSE NEIGHBOUR: 'it returns false'. Refute it at one input. -/
def fnExactCountColoursWrong : ChangeSpec := { name := "fnExactCountColours", fn := fun _ => fun
  | [d] => { results := [.lit (.bool false)], args := [d] }
  | _ => none }
def FnExactCountColoursWrongFalsely : Prop := fnExactCountColoursRow.holds Try.pinned (OpenSpec.ofChange fnExactCountColoursWrong)

/-- 'laws.FnExactPolicePacket': WHATEVER THE INPUT: true; the input reads as it did. -/
def fnExactPolicePacketSpec : ChangeSpec := { name := "fnExactPolicePacket", fn := fun _ => fun
  | [d1, d2, d3] => { results := [.lit (.bool true)], args := [d1, d2, d3] }
  | _ => none }
def fnExactPolicePacketRow : OpenClaim := { program := "ytdhojfkdbpghmaa", sum := "05ef862994ec781a7428aaf06b32f9b5ae5e2a63b36062a19ddf7fbfa3898d36", func := "loop.example/g00838/laws.FnExactPolicePacket", spec := "fnExactPolicePacket", apart := false }
def FnExactPolicePacketSaid : Prop := fnExactPolicePacketRow.holds Try.pinned (OpenSpec.ofChange fnExactPolicePacketSpec)

/-- ITS FALSE NEIGHBOUR: 'it returns false'. Refute it at one input. -/
def fnExactPolicePacketWrong : ChangeSpec := { name := "fnExactPolicePacket", fn := fun _ => fun
  | [d1, d2, d3] => { results := [.lit (.bool false)], args := [d1, d2, d3] }
  | _ => none }
def FnExactPolicePacketWrongFalsely : Prop := fnExactPolicePacketRow.holds Try.pinned (OpenSpec.ofChange fnExactPolicePacketWrong)

/-- 'laws.FnExactBytesOfColours': WHATEVER THE INPUT: true; the input reads as it did. -/
def fnExactBytesOfColoursSpec : ChangeSpec := { name := "fnExactBytesOfColours", fn := fun _ => fun
  | [d1, d2] => { results := [.lit (.bool true)], args := [d1, d2] }
  | _ => none }
def fnExactBytesOfColoursRow : OpenClaim := { program := "ytdhojfkdbpghmaa", sum := "05ef862994ec781a7428aaf06b32f9b5ae5e2a63b36062a19ddf7fbfa3898d36", func := "loop.example/g00838/laws.FnExactBytesOfColours", spec := "fnExactBytesOfColours", apart := false }
def FnExactBytesOfColoursSaid : Prop := fnExactBytesOfColoursRow.holds Try.pinned (OpenSpec.ofChange fnExactBytesOfColoursSpec)

/-- ITS FALSE NEIGHBOUR: 'it returns false'. Refute it at one input. -/
def fnExactBytesOfColoursWrong : ChangeSpec := { name := "fnExactBytesOfColours", fn := fun _ => fun
  | [d1, d2] => { results := [.lit (.bool false)], args := [d1, d2] }
  | _ => none }
def FnExactBytesOfColoursWrongFalsely : Prop := fnExactBytesOfColoursRow.holds Try.pinned (OpenSpec.ofChange fnExactBytesOfColoursWrong)

/-- 'laws.FnExactRunPolicer': WHATEVER THE INPUT: true; the input reads as it did. -/
def fnExactRunPolicerSpec : ChangeSpec := { name := "fnExactRunPolicer", fn := fun _ => fun
  | [d1, d2, d3] => { results := [.lit (.bool true)], args := [d1, d2, d3] }
  | _ => none }
def fnExactRunPolicerRow : OpenClaim := { program := "ytdhojfkdbpghmaa", sum := "05ef862994ec781a7428aaf06b32f9b5ae5e2a63b36062a19ddf7fbfa3898d36", func := "loop.example/g00838/laws.FnExactRunPolicer", spec := "fnExactRunPolicer", apart := false }
def FnExactRunPolicerSaid : Prop := fnExactRunPolicerRow.holds Try.pinned (OpenSpec.ofChange fnExactRunPolicerSpec)

/-- ITS FALSE NEIGHBOUR: 'it returns false'. Refute it at one input. -/
def fnExactRunPolicerWrong : ChangeSpec := { name := "fnExactRunPolicer", fn := fun _ => fun
  | [d1, d2, d3] => { results := [.lit (.bool false)], args := [d1, d2, d3] }
  | _ => none }
def FnExactRunPolicerWrongFalsely : Prop := fnExactRunPolicerRow.holds Try.pinned (OpenSpec.ofChange fnExactRunPolicerWrong)

/- THE SECOND FORM. 'bulk': how many values and letters a reading holds, each counted each time it is reached (what is shared counts as often as it is met; a slice's spare places count too). A statement '..UptoSaid' is the law's where the arguments, and the package variables that the reading takes, are together of bulk at most 1048576: NARROWER than '..Said'. Prove '..Said' where nothing that the law and all that it calls make is longer than what came in: it says more and counts as full. Else prove '..UptoSaid'. A law counts once. -/
mutual
def uptoBulk {H : Type} : DataW H → Nat
  | .lit (.string bytes) => bytes.length + 1
  | .lit _ => 1
  | .nil => 1
  | .ptr d => uptoBulk d + 1
  | .slice elems spare => uptoBulkAll elems + uptoBulkAll spare + 1
  | .agg parts => uptoBulkAll parts + 1
  | .iface _ d => uptoBulk d + 1
  | .map entries => uptoBulkEntries entries + 1
  | .held _ => 1
def uptoBulkAll {H : Type} : List (DataW H) → Nat
  | [] => 0
  | d :: r => uptoBulk d + uptoBulkAll r
def uptoBulkEntries {H : Type} : List (Lit × DataW H) → Nat
  | [] => 0
  | x :: r => uptoBulkEntry x + uptoBulkEntries r
def uptoBulkEntry {H : Type} : Lit × DataW H → Nat
  | (.string bytes, d) => bytes.length + uptoBulk d + 1
  | (_, d) => uptoBulk d + 1
 end
def uptoSmall : (H : Type) → List (DataW H) → Bool := fun _ ds => decide (uptoBulkAll ds ≤ 1048576)
def OpenSpec.upto (s : _root_.Go.ChangeSpec) : _root_.Go.OpenSpec := { _root_.Go.OpenSpec.ofChange s with cond := some uptoSmall }

/-- 'laws.FnExactIsPolicer', WHERE WHAT IT READS IS OF BULK AT MOST 1048576: true; the input reads as it did. -/
def fnExactIsPolicerUptoRow : OpenClaim := { program := "ytdhojfkdbpghmaa", sum := "05ef862994ec781a7428aaf06b32f9b5ae5e2a63b36062a19ddf7fbfa3898d36", func := "loop.example/g00838/laws.FnExactIsPolicer", spec := "fnExactIsPolicer", apart := false, narrowed := true }
def FnExactIsPolicerUptoSaid : Prop := fnExactIsPolicerUptoRow.holds Try.pinned (OpenSpec.upto fnExactIsPolicerSpec)

/-- 'laws.FnExactGreenBound', WHERE WHAT IT READS IS OF BULK AT MOST 1048576: true; the input reads as it did. -/
def fnExactGreenBoundUptoRow : OpenClaim := { program := "ytdhojfkdbpghmaa", sum := "05ef862994ec781a7428aaf06b32f9b5ae5e2a63b36062a19ddf7fbfa3898d36", func := "loop.example/g00838/laws.FnExactGreenBound", spec := "fnExactGreenBound", apart := false, narrowed := true }
def FnExactGreenBoundUptoSaid : Prop := fnExactGreenBoundUptoRow.holds Try.pinned (OpenSpec.upto fnExactGreenBoundSpec)

/-- 'laws.FnExactNotRedBound', WHERE WHAT IT READS IS OF BULK AT MOST 1048576: true; the input reads as it did. -/
def fnExactNotRedBoundUptoRow : OpenClaim := { program := "ytdhojfkdbpghmaa", sum := "05ef862994ec781a7428aaf06b32f9b5ae5e2a63b36062a19ddf7fbfa3898d36", func := "loop.example/g00838/laws.FnExactNotRedBound", spec := "fnExactNotRedBound", apart := false, narrowed := true }
def FnExactNotRedBoundUptoSaid : Prop := fnExactNotRedBoundUptoRow.holds Try.pinned (OpenSpec.upto fnExactNotRedBoundSpec)

/-- 'laws.FnExactFullPolicer', WHERE WHAT IT READS IS OF BULK AT MOST 1048576: true; the input reads as it did. -/
def fnExactFullPolicerUptoRow : OpenClaim := { program := "ytdhojfkdbpghmaa", sum := "05ef862994ec781a7428aaf06b32f9b5ae5e2a63b36062a19ddf7fbfa3898d36", func := "loop.example/g00838/laws.FnExactFullPolicer", spec := "fnExactFullPolicer", apart := false, narrowed := true }
def FnExactFullPolicerUptoSaid : Prop := fnExactFullPolicerUptoRow.holds Try.pinned (OpenSpec.upto fnExactFullPolicerSpec)

/-- 'laws.FnExactColourAware', WHERE WHAT IT READS IS OF BULK AT MOST 1048576: true; the input reads as it did. -/
def fnExactColourAwareUptoRow : OpenClaim := { program := "ytdhojfkdbpghmaa", sum := "05ef862994ec781a7428aaf06b32f9b5ae5e2a63b36062a19ddf7fbfa3898d36", func := "loop.example/g00838/laws.FnExactColourAware", spec := "fnExactColourAware", apart := false, narrowed := true }
def FnExactColourAwareUptoSaid : Prop := fnExactColourAwareUptoRow.holds Try.pinned (OpenSpec.upto fnExactColourAwareSpec)

/-- 'laws.FnExactColourOf', WHERE WHAT IT READS IS OF BULK AT MOST 1048576: true; the input reads as it did. -/
def fnExactColourOfUptoRow : OpenClaim := { program := "ytdhojfkdbpghmaa", sum := "05ef862994ec781a7428aaf06b32f9b5ae5e2a63b36062a19ddf7fbfa3898d36", func := "loop.example/g00838/laws.FnExactColourOf", spec := "fnExactColourOf", apart := false, narrowed := true }
def FnExactColourOfUptoSaid : Prop := fnExactColourOfUptoRow.holds Try.pinned (OpenSpec.upto fnExactColourOfSpec)

/-- 'laws.FnExactCountColours', WHERE WHAT IT READS IS OF BULK AT MOST 1048576: true; the input reads as it did. -/
def fnExactCountColoursUptoRow : OpenClaim := { program := "ytdhojfkdbpghmaa", sum := "05ef862994ec781a7428aaf06b32f9b5ae5e2a63b36062a19ddf7fbfa3898d36", func := "loop.example/g00838/laws.FnExactCountColours", spec := "fnExactCountColours", apart := false, narrowed := true }
def FnExactCountColoursUptoSaid : Prop := fnExactCountColoursUptoRow.holds Try.pinned (OpenSpec.upto fnExactCountColoursSpec)

/-- 'laws.FnExactPolicePacket', WHERE WHAT IT READS IS OF BULK AT MOST 1048576: true; the input reads as it did. -/
def fnExactPolicePacketUptoRow : OpenClaim := { program := "ytdhojfkdbpghmaa", sum := "05ef862994ec781a7428aaf06b32f9b5ae5e2a63b36062a19ddf7fbfa3898d36", func := "loop.example/g00838/laws.FnExactPolicePacket", spec := "fnExactPolicePacket", apart := false, narrowed := true }
def FnExactPolicePacketUptoSaid : Prop := fnExactPolicePacketUptoRow.holds Try.pinned (OpenSpec.upto fnExactPolicePacketSpec)

/-- 'laws.FnExactBytesOfColours', WHERE WHAT IT READS IS OF BULK AT MOST 1048576: true; the input reads as it did. -/
def fnExactBytesOfColoursUptoRow : OpenClaim := { program := "ytdhojfkdbpghmaa", sum := "05ef862994ec781a7428aaf06b32f9b5ae5e2a63b36062a19ddf7fbfa3898d36", func := "loop.example/g00838/laws.FnExactBytesOfColours", spec := "fnExactBytesOfColours", apart := false, narrowed := true }
def FnExactBytesOfColoursUptoSaid : Prop := fnExactBytesOfColoursUptoRow.holds Try.pinned (OpenSpec.upto fnExactBytesOfColoursSpec)

/-- 'laws.FnExactRunPolicer', WHERE WHAT IT READS IS OF BULK AT MOST 1048576: true; the input reads as it did. -/
def fnExactRunPolicerUptoRow : OpenClaim := { program := "ytdhojfkdbpghmaa", sum := "05ef862994ec781a7428aaf06b32f9b5ae5e2a63b36062a19ddf7fbfa3898d36", func := "loop.example/g00838/laws.FnExactRunPolicer", spec := "fnExactRunPolicer", apart := false, narrowed := true }
def FnExactRunPolicerUptoSaid : Prop := fnExactRunPolicerUptoRow.holds Try.pinned (OpenSpec.upto fnExactRunPolicerSpec)

end Rows
end Go.Proofs.Ytdhojfkdbpghmaa
