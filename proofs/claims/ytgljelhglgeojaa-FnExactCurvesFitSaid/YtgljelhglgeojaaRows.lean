/-
  No cell of these rows narrows 'for every input' (looked for: loops, veiled, ifaces, maps, wideKeys, modest, calm, conditions, laid).
  DERIVED. THE GIVEN ROWS OF THIS SEAT. 10 by the template 'for every input the law returns true; each argument reads behind the call as it read before'; 0 by the template 'total and deterministic' (their statements: YtgljelhglgeojaaTotals.lean).
  GIVEN WITH THE SEED: the statements are not yours to turn. If you find one false, say at which input.
  Laid BY PROGRAM, IN A SANDBOX (cutbox-rows.mjs): the forced cells as the released guide's own fill.sh prints them over the translation b4e911c888621578… (all of the seat's roots in one cut). By AI agents, Wed Nov 11 2026. No macro, syntax, notation, axiom, sorry.
-/
import Derived.Test.YtgljelhglgeojaaChecked
import GoSem.Claim
import GoSem.ClaimJoined
import GoSem.ClaimMapViews
import Derived.JoinedTies
import Derived.KernelRfl
namespace Go.Proofs.Ytgljelhglgeojaa
/- THE CELL 'sum', in the pinned program and in every row, IS THE sha256 OF THE DUMP (.gsa) THAT YtgljelhglgeojaaProg.lean LOADS. Nothing in Lean hashes anything: it is a label: what it is worth is what the hold of that sum in a sandbox is worth. -/
noncomputable def Try.pinned : Pinned := { name := "ytgljelhglgeojaa", sum := "b4e911c88862157832b33135999c7d8acaaec6c24fba6be092f12613d924cf4d", checked := Try.checked }
namespace Rows
def none {H : Type} : Left H := { results := [], args := [] }

/-- 'laws.FnExactCurvesFit': WHATEVER THE INPUT: true; the input reads as it did. -/
def fnExactCurvesFitSpec : ChangeSpec := { name := "fnExactCurvesFit", fn := fun _ => fun
  | [d1, d2] => { results := [.lit (.bool true)], args := [d1, d2] }
  | _ => none }
def fnExactCurvesFitRow : OpenClaim := { program := "ytgljelhglgeojaa", sum := "b4e911c88862157832b33135999c7d8acaaec6c24fba6be092f12613d924cf4d", func := "loop.example/g00838/laws.FnExactCurvesFit", spec := "fnExactCurvesFit", recurses := true, apart := false }
def FnExactCurvesFitSaid : Prop := fnExactCurvesFitRow.holds Try.pinned (OpenSpec.ofChange fnExactCurvesFitSpec)

/-- ITS FALSE NEIGHBOUR: 'it returns false'. Refute it at one input. -/
def fnExactCurvesFitWrong : ChangeSpec := { name := "fnExactCurvesFit", fn := fun _ => fun
  | [d1, d2] => { results := [.lit (.bool false)], args := [d1, d2] }
  | _ => none }
def FnExactCurvesFitWrongFalsely : Prop := fnExactCurvesFitRow.holds Try.pinned (OpenSpec.ofChange fnExactCurvesFitWrong)

/-- 'laws.FnExactIsSession': WHATEVER THE INPUT: true; the input reads as it did. -/
def fnExactIsSessionSpec : ChangeSpec := { name := "fnExactIsSession", fn := fun _ => fun
  | [d] => { results := [.lit (.bool true)], args := [d] }
  | _ => none }
def fnExactIsSessionRow : OpenClaim := { program := "ytgljelhglgeojaa", sum := "b4e911c88862157832b33135999c7d8acaaec6c24fba6be092f12613d924cf4d", func := "loop.example/g00838/laws.FnExactIsSession", spec := "fnExactIsSession", apart := false }
def FnExactIsSessionSaid : Prop := fnExactIsSessionRow.holds Try.pinned (OpenSpec.ofChange fnExactIsSessionSpec)

/-- ITS FALSE NEIGHBOUR: 'it returns false'. Refute it at one input. -/
def fnExactIsSessionWrong : ChangeSpec := { name := "fnExactIsSession", fn := fun _ => fun
  | [d] => { results := [.lit (.bool false)], args := [d] }
  | _ => none }
def FnExactIsSessionWrongFalsely : Prop := fnExactIsSessionRow.holds Try.pinned (OpenSpec.ofChange fnExactIsSessionWrong)

/-- 'laws.FnExactServiceAt': WHATEVER THE INPUT: true; the input reads as it did. -/
def fnExactServiceAtSpec : ChangeSpec := { name := "fnExactServiceAt", fn := fun _ => fun
  | [d1, d2] => { results := [.lit (.bool true)], args := [d1, d2] }
  | _ => none }
def fnExactServiceAtRow : OpenClaim := { program := "ytgljelhglgeojaa", sum := "b4e911c88862157832b33135999c7d8acaaec6c24fba6be092f12613d924cf4d", func := "loop.example/g00838/laws.FnExactServiceAt", spec := "fnExactServiceAt", apart := false }
def FnExactServiceAtSaid : Prop := fnExactServiceAtRow.holds Try.pinned (OpenSpec.ofChange fnExactServiceAtSpec)

/-- ITS FALSE NEIGHBOUR: 'it returns false'. Refute it at one input. -/
def fnExactServiceAtWrong : ChangeSpec := { name := "fnExactServiceAt", fn := fun _ => fun
  | [d1, d2] => { results := [.lit (.bool false)], args := [d1, d2] }
  | _ => none }
def FnExactServiceAtWrongFalsely : Prop := fnExactServiceAtRow.holds Try.pinned (OpenSpec.ofChange fnExactServiceAtWrong)

/-- 'laws.FnExactEligibleAt': WHATEVER THE INPUT: true; the input reads as it did. -/
def fnExactEligibleAtSpec : ChangeSpec := { name := "fnExactEligibleAt", fn := fun _ => fun
  | [d1, d2] => { results := [.lit (.bool true)], args := [d1, d2] }
  | _ => none }
def fnExactEligibleAtRow : OpenClaim := { program := "ytgljelhglgeojaa", sum := "b4e911c88862157832b33135999c7d8acaaec6c24fba6be092f12613d924cf4d", func := "loop.example/g00838/laws.FnExactEligibleAt", spec := "fnExactEligibleAt", apart := false }
def FnExactEligibleAtSaid : Prop := fnExactEligibleAtRow.holds Try.pinned (OpenSpec.ofChange fnExactEligibleAtSpec)

/-- ITS FALSE NEIGHBOUR: 'it returns false'. Refute it at one input. -/
def fnExactEligibleAtWrong : ChangeSpec := { name := "fnExactEligibleAt", fn := fun _ => fun
  | [d1, d2] => { results := [.lit (.bool false)], args := [d1, d2] }
  | _ => none }
def FnExactEligibleAtWrongFalsely : Prop := fnExactEligibleAtRow.holds Try.pinned (OpenSpec.ofChange fnExactEligibleAtWrong)

/-- 'laws.FnExactDeadlineOf': WHATEVER THE INPUT: true; the input reads as it did. -/
def fnExactDeadlineOfSpec : ChangeSpec := { name := "fnExactDeadlineOf", fn := fun _ => fun
  | [d] => { results := [.lit (.bool true)], args := [d] }
  | _ => none }
def fnExactDeadlineOfRow : OpenClaim := { program := "ytgljelhglgeojaa", sum := "b4e911c88862157832b33135999c7d8acaaec6c24fba6be092f12613d924cf4d", func := "loop.example/g00838/laws.FnExactDeadlineOf", spec := "fnExactDeadlineOf", unfollowed := true, recurses := true, apart := false }
def FnExactDeadlineOfSaid : Prop := fnExactDeadlineOfRow.holds Try.pinned (OpenSpec.ofChange fnExactDeadlineOfSpec)

/-- ITS FALSE NEIGHBOUR: 'it returns false'. Refute it at one input. -/
def fnExactDeadlineOfWrong : ChangeSpec := { name := "fnExactDeadlineOf", fn := fun _ => fun
  | [d] => { results := [.lit (.bool false)], args := [d] }
  | _ => none }
def FnExactDeadlineOfWrongFalsely : Prop := fnExactDeadlineOfRow.holds Try.pinned (OpenSpec.ofChange fnExactDeadlineOfWrong)

/-- 'laws.FnExactRestartSession': WHATEVER THE INPUT: true; the input reads as it did. -/
def fnExactRestartSessionSpec : ChangeSpec := { name := "fnExactRestartSession", fn := fun _ => fun
  | [d1, d2] => { results := [.lit (.bool true)], args := [d1, d2] }
  | _ => none }
def fnExactRestartSessionRow : OpenClaim := { program := "ytgljelhglgeojaa", sum := "b4e911c88862157832b33135999c7d8acaaec6c24fba6be092f12613d924cf4d", func := "loop.example/g00838/laws.FnExactRestartSession", spec := "fnExactRestartSession", apart := false }
def FnExactRestartSessionSaid : Prop := fnExactRestartSessionRow.holds Try.pinned (OpenSpec.ofChange fnExactRestartSessionSpec)

/-- ITS FALSE NEIGHBOUR: 'it returns false'. Refute it at one input. -/
def fnExactRestartSessionWrong : ChangeSpec := { name := "fnExactRestartSession", fn := fun _ => fun
  | [d1, d2] => { results := [.lit (.bool false)], args := [d1, d2] }
  | _ => none }
def FnExactRestartSessionWrongFalsely : Prop := fnExactRestartSessionRow.holds Try.pinned (OpenSpec.ofChange fnExactRestartSessionWrong)

/-- 'laws.FnExactServeOne': WHATEVER THE INPUT: true; the input reads as it did. -/
def fnExactServeOneSpec : ChangeSpec := { name := "fnExactServeOne", fn := fun _ => fun
  | [d] => { results := [.lit (.bool true)], args := [d] }
  | _ => none }
def fnExactServeOneRow : OpenClaim := { program := "ytgljelhglgeojaa", sum := "b4e911c88862157832b33135999c7d8acaaec6c24fba6be092f12613d924cf4d", func := "loop.example/g00838/laws.FnExactServeOne", spec := "fnExactServeOne", apart := false }
def FnExactServeOneSaid : Prop := fnExactServeOneRow.holds Try.pinned (OpenSpec.ofChange fnExactServeOneSpec)

/-- ITS FALSE NEIGHBOUR: 'it returns false'. Refute it at one input. -/
def fnExactServeOneWrong : ChangeSpec := { name := "fnExactServeOne", fn := fun _ => fun
  | [d] => { results := [.lit (.bool false)], args := [d] }
  | _ => none }
def FnExactServeOneWrongFalsely : Prop := fnExactServeOneRow.holds Try.pinned (OpenSpec.ofChange fnExactServeOneWrong)

/-- 'laws.FnExactNextSession': WHATEVER THE INPUT: true; the input reads as it did. -/
def fnExactNextSessionSpec : ChangeSpec := { name := "fnExactNextSession", fn := fun _ => fun
  | [d1, d2] => { results := [.lit (.bool true)], args := [d1, d2] }
  | _ => none }
def fnExactNextSessionRow : OpenClaim := { program := "ytgljelhglgeojaa", sum := "b4e911c88862157832b33135999c7d8acaaec6c24fba6be092f12613d924cf4d", func := "loop.example/g00838/laws.FnExactNextSession", spec := "fnExactNextSession", unfollowed := true, recurses := true, apart := false }
def FnExactNextSessionSaid : Prop := fnExactNextSessionRow.holds Try.pinned (OpenSpec.ofChange fnExactNextSessionSpec)

/-- ITS FALSE NEIGHBOUR: 'it returns false'. Refute it at one input. -/
def fnExactNextSessionWrong : ChangeSpec := { name := "fnExactNextSession", fn := fun _ => fun
  | [d1, d2] => { results := [.lit (.bool false)], args := [d1, d2] }
  | _ => none }
def FnExactNextSessionWrongFalsely : Prop := fnExactNextSessionRow.holds Try.pinned (OpenSpec.ofChange fnExactNextSessionWrong)

/-- 'laws.FnExactScheduleOf': WHATEVER THE INPUT: true; the input reads as it did. -/
def fnExactScheduleOfSpec : ChangeSpec := { name := "fnExactScheduleOf", fn := fun _ => fun
  | [d1, d2, d3] => { results := [.lit (.bool true)], args := [d1, d2, d3] }
  | _ => none }
def fnExactScheduleOfRow : OpenClaim := { program := "ytgljelhglgeojaa", sum := "b4e911c88862157832b33135999c7d8acaaec6c24fba6be092f12613d924cf4d", func := "loop.example/g00838/laws.FnExactScheduleOf", spec := "fnExactScheduleOf", unfollowed := true, recurses := true, apart := false }
def FnExactScheduleOfSaid : Prop := fnExactScheduleOfRow.holds Try.pinned (OpenSpec.ofChange fnExactScheduleOfSpec)

/-- ITS FALSE NEIGHBOUR: 'it returns false'. Refute it at one input. -/
def fnExactScheduleOfWrong : ChangeSpec := { name := "fnExactScheduleOf", fn := fun _ => fun
  | [d1, d2, d3] => { results := [.lit (.bool false)], args := [d1, d2, d3] }
  | _ => none }
def FnExactScheduleOfWrongFalsely : Prop := fnExactScheduleOfRow.holds Try.pinned (OpenSpec.ofChange fnExactScheduleOfWrong)

/-- 'laws.FnExactMissesOf': WHATEVER THE INPUT: true; the input reads as it did. -/
def fnExactMissesOfSpec : ChangeSpec := { name := "fnExactMissesOf", fn := fun _ => fun
  | [d1, d2, d3] => { results := [.lit (.bool true)], args := [d1, d2, d3] }
  | _ => none }
def fnExactMissesOfRow : OpenClaim := { program := "ytgljelhglgeojaa", sum := "b4e911c88862157832b33135999c7d8acaaec6c24fba6be092f12613d924cf4d", func := "loop.example/g00838/laws.FnExactMissesOf", spec := "fnExactMissesOf", unfollowed := true, recurses := true, apart := false }
def FnExactMissesOfSaid : Prop := fnExactMissesOfRow.holds Try.pinned (OpenSpec.ofChange fnExactMissesOfSpec)

/-- ITS FALSE NEIGHBOUR: 'it returns false'. Refute it at one input. -/
def fnExactMissesOfWrong : ChangeSpec := { name := "fnExactMissesOf", fn := fun _ => fun
  | [d1, d2, d3] => { results := [.lit (.bool false)], args := [d1, d2, d3] }
  | _ => none }
def FnExactMissesOfWrongFalsely : Prop := fnExactMissesOfRow.holds Try.pinned (OpenSpec.ofChange fnExactMissesOfWrong)

/- THE SECOND FORM. 'bulk': how many values and letters a reading holds, each counted each time it is reached (what is shared counts as often as it is met; a slice's spare places count too). A statement '..UptoSaid' is the law's where the arguments, and the package variables that the reading takes, are together of bulk at most 1048576: NARROWER than '..Said'. Prove '..Said' where nothing that the law and all that it calls make is longer than what came in: it says more and counts as full. Else prove '..UptoSaid'. A law counts once. -/
mutual
def uptoBulk {H : Type} : DataW H → Nat
  | .lit (.string bytes) => bytes.length + 1
  | .lit _ => 1
  | .nil => 1
  | .ptr d => uptoBulk d + 1
  | .slice elems spare => uptoBulkAll elems + uptoBulkAll spare + 1
  | .agg parts => uptoBulkAll parts + 1
  | .iface _ d => uptoBulk d + 1
  | .map entries => uptoBulkEntries entries + 1
  | .held _ => 1
def uptoBulkAll {H : Type} : List (DataW H) → Nat
  | [] => 0
  | d :: r => uptoBulk d + uptoBulkAll r
def uptoBulkEntries {H : Type} : List (Lit × DataW H) → Nat
  | [] => 0
  | x :: r => uptoBulkEntry x + uptoBulkEntries r
def uptoBulkEntry {H : Type} : Lit × DataW H → Nat
  | (.string bytes, d) => bytes.length + uptoBulk d + 1
  | (_, d) => uptoBulk d + 1
 end
def uptoSmall : (H : Type) → List (DataW H) → Bool := fun _ ds => decide (uptoBulkAll ds ≤ 1048576)
def OpenSpec.upto (s : _root_.Go.ChangeSpec) : _root_.Go.OpenSpec := { _root_.Go.OpenSpec.ofChange s with cond := some uptoSmall }

/-- 'laws.FnExactCurvesFit', WHERE WHAT IT READS IS OF BULK AT MOST 1048576: true; the input reads as it did. -/
def fnExactCurvesFitUptoRow : OpenClaim := { program := "ytgljelhglgeojaa", sum := "b4e911c88862157832b33135999c7d8acaaec6c24fba6be092f12613d924cf4d", func := "loop.example/g00838/laws.FnExactCurvesFit", spec := "fnExactCurvesFit", recurses := true, apart := false, narrowed := true }
def FnExactCurvesFitUptoSaid : Prop := fnExactCurvesFitUptoRow.holds Try.pinned (OpenSpec.upto fnExactCurvesFitSpec)

/-- 'laws.FnExactIsSession', WHERE WHAT IT READS IS OF BULK AT MOST 1048576: true; the input reads as it did. -/
def fnExactIsSessionUptoRow : OpenClaim := { program := "ytgljelhglgeojaa", sum := "b4e911c88862157832b33135999c7d8acaaec6c24fba6be092f12613d924cf4d", func := "loop.example/g00838/laws.FnExactIsSession", spec := "fnExactIsSession", apart := false, narrowed := true }
def FnExactIsSessionUptoSaid : Prop := fnExactIsSessionUptoRow.holds Try.pinned (OpenSpec.upto fnExactIsSessionSpec)

/-- 'laws.FnExactServiceAt', WHERE WHAT IT READS IS OF BULK AT MOST 1048576: true; the input reads as it did. -/
def fnExactServiceAtUptoRow : OpenClaim := { program := "ytgljelhglgeojaa", sum := "b4e911c88862157832b33135999c7d8acaaec6c24fba6be092f12613d924cf4d", func := "loop.example/g00838/laws.FnExactServiceAt", spec := "fnExactServiceAt", apart := false, narrowed := true }
def FnExactServiceAtUptoSaid : Prop := fnExactServiceAtUptoRow.holds Try.pinned (OpenSpec.upto fnExactServiceAtSpec)

/-- 'laws.FnExactEligibleAt', WHERE WHAT IT READS IS OF BULK AT MOST 1048576: true; the input reads as it did. -/
def fnExactEligibleAtUptoRow : OpenClaim := { program := "ytgljelhglgeojaa", sum := "b4e911c88862157832b33135999c7d8acaaec6c24fba6be092f12613d924cf4d", func := "loop.example/g00838/laws.FnExactEligibleAt", spec := "fnExactEligibleAt", apart := false, narrowed := true }
def FnExactEligibleAtUptoSaid : Prop := fnExactEligibleAtUptoRow.holds Try.pinned (OpenSpec.upto fnExactEligibleAtSpec)

/-- 'laws.FnExactDeadlineOf', WHERE WHAT IT READS IS OF BULK AT MOST 1048576: true; the input reads as it did. -/
def fnExactDeadlineOfUptoRow : OpenClaim := { program := "ytgljelhglgeojaa", sum := "b4e911c88862157832b33135999c7d8acaaec6c24fba6be092f12613d924cf4d", func := "loop.example/g00838/laws.FnExactDeadlineOf", spec := "fnExactDeadlineOf", unfollowed := true, recurses := true, apart := false, narrowed := true }
def FnExactDeadlineOfUptoSaid : Prop := fnExactDeadlineOfUptoRow.holds Try.pinned (OpenSpec.upto fnExactDeadlineOfSpec)

/-- 'laws.FnExactRestartSession', WHERE WHAT IT READS IS OF BULK AT MOST 1048576: true; the input reads as it did. -/
def fnExactRestartSessionUptoRow : OpenClaim := { program := "ytgljelhglgeojaa", sum := "b4e911c88862157832b33135999c7d8acaaec6c24fba6be092f12613d924cf4d", func := "loop.example/g00838/laws.FnExactRestartSession", spec := "fnExactRestartSession", apart := false, narrowed := true }
def FnExactRestartSessionUptoSaid : Prop := fnExactRestartSessionUptoRow.holds Try.pinned (OpenSpec.upto fnExactRestartSessionSpec)

/-- 'laws.FnExactServeOne', WHERE WHAT IT READS IS OF BULK AT MOST 1048576: true; the input reads as it did. -/
def fnExactServeOneUptoRow : OpenClaim := { program := "ytgljelhglgeojaa", sum := "b4e911c88862157832b33135999c7d8acaaec6c24fba6be092f12613d924cf4d", func := "loop.example/g00838/laws.FnExactServeOne", spec := "fnExactServeOne", apart := false, narrowed := true }
def FnExactServeOneUptoSaid : Prop := fnExactServeOneUptoRow.holds Try.pinned (OpenSpec.upto fnExactServeOneSpec)

/-- 'laws.FnExactNextSession', WHERE WHAT IT READS IS OF BULK AT MOST 1048576: true; the input reads as it did. -/
def fnExactNextSessionUptoRow : OpenClaim := { program := "ytgljelhglgeojaa", sum := "b4e911c88862157832b33135999c7d8acaaec6c24fba6be092f12613d924cf4d", func := "loop.example/g00838/laws.FnExactNextSession", spec := "fnExactNextSession", unfollowed := true, recurses := true, apart := false, narrowed := true }
def FnExactNextSessionUptoSaid : Prop := fnExactNextSessionUptoRow.holds Try.pinned (OpenSpec.upto fnExactNextSessionSpec)

/-- 'laws.FnExactScheduleOf', WHERE WHAT IT READS IS OF BULK AT MOST 1048576: true; the input reads as it did. -/
def fnExactScheduleOfUptoRow : OpenClaim := { program := "ytgljelhglgeojaa", sum := "b4e911c88862157832b33135999c7d8acaaec6c24fba6be092f12613d924cf4d", func := "loop.example/g00838/laws.FnExactScheduleOf", spec := "fnExactScheduleOf", unfollowed := true, recurses := true, apart := false, narrowed := true }
def FnExactScheduleOfUptoSaid : Prop := fnExactScheduleOfUptoRow.holds Try.pinned (OpenSpec.upto fnExactScheduleOfSpec)

/-- 'laws.FnExactMissesOf', WHERE WHAT IT READS IS OF BULK AT MOST 1048576: true; the input reads as it did. -/
def fnExactMissesOfUptoRow : OpenClaim := { program := "ytgljelhglgeojaa", sum := "b4e911c88862157832b33135999c7d8acaaec6c24fba6be092f12613d924cf4d", func := "loop.example/g00838/laws.FnExactMissesOf", spec := "fnExactMissesOf", unfollowed := true, recurses := true, apart := false, narrowed := true }
def FnExactMissesOfUptoSaid : Prop := fnExactMissesOfUptoRow.holds Try.pinned (OpenSpec.upto fnExactMissesOfSpec)

end Rows
end Go.Proofs.Ytgljelhglgeojaa
