/- Contracts of the laws' own helpers: copiers, comparers (at equal arguments), counters, markers. Each says what the call returns and that nothing that was there has changed (markers: but the marked row). -/
import Derived.Test.YtnnihiajggdplaaBase
import Derived.StillTailTactics
import Derived.Deep.QuietTactic
import Derived.BigQuiet
namespace Go.Proofs.Ytnnihiajggdplaa
open Go.RowKit
structure Packet where
  (id source dest port mark size : Int)
def encPacket (x : Packet) : List Value := [.int .i64 x.id, .int .i64 x.source, .int .i64 x.dest, .int .i64 x.port, .int .i64 x.mark, .int .i64 x.size]
theorem encPacket_len (x : Packet) : (encPacket x).length = 6 := rfl

set_option maxRecDepth 100000 in
set_option maxHeartbeats 1000000 in
theorem toPacket_any (x0 x1 x2 x3 x4 x5 : Int) (w : World) :
    Calls Try.prog 81 #[.agg #[.int .i64 x0, .int .i64 x1, .int .i64 x2, .int .i64 x3, .int .i64 x4, .int .i64 x5]] w fun e w' => e = .returned (.agg #[.int .i64 x0, .int .i64 x1, .int .i64 x2, .int .i64 x3, .int .i64 x4, .int .i64 x5]) ∧ Below w.heap.size w w' := by
  go_enter Try.func81, Try.ntmps81
  go_wp2
  refine bodyPost_ret (v := .agg #[.int .i64 x0, .int .i64 x1, .int .i64 x2, .int .i64 x3, .int .i64 x4, .int .i64 x5]) (by simp [results, Try.results81, go_sem]) rfl ⟨rfl, ?_⟩
  exact ext_alloc (ext_alloc (ext_alloc (ext_refl w) _) _) _

theorem openPacket {W : World} {r : Reach} {b : Nat} {v : Value} (h : Value.okWide Try.prog W r b 84 v) : ∃ x0 x1 x2 x3 x4 x5 : Int, v = .agg #[.int .i64 x0, .int .i64 x1, .int .i64 x2, .int .i64 x3, .int .i64 x4, .int .i64 x5] := by
  obtain ⟨cs0, rfl, hl0, hc0⟩ := okWide_cells Try.underlying84 (ts := [3, 3, 3, 3, 3, 3]) (by kernel_rfl) (by kernel_rfl) h
  match cs0, hl0 with
  | [a0, a1, a2, a3, a4, a5], _ =>
    obtain ⟨x0, rfl, _⟩ := cell_int Try.underlying3 (hc0 0 3 a0 rfl rfl)
    obtain ⟨x1, rfl, _⟩ := cell_int Try.underlying3 (hc0 1 3 a1 rfl rfl)
    obtain ⟨x2, rfl, _⟩ := cell_int Try.underlying3 (hc0 2 3 a2 rfl rfl)
    obtain ⟨x3, rfl, _⟩ := cell_int Try.underlying3 (hc0 3 3 a3 rfl rfl)
    obtain ⟨x4, rfl, _⟩ := cell_int Try.underlying3 (hc0 4 3 a4 rfl rfl)
    obtain ⟨x5, rfl, _⟩ := cell_int Try.underlying3 (hc0 5 3 a5 rfl rfl)
    exact ⟨x0, x1, x2, x3, x4, x5, rfl⟩

set_option maxRecDepth 100000 in
set_option maxHeartbeats 1000000 in
theorem eqPacket_same (x0 x1 x2 x3 x4 x5 : Int) (w : World) :
    Calls Try.prog 70 #[.agg #[.int .i64 x0, .int .i64 x1, .int .i64 x2, .int .i64 x3, .int .i64 x4, .int .i64 x5], .agg #[.int .i64 x0, .int .i64 x1, .int .i64 x2, .int .i64 x3, .int .i64 x4, .int .i64 x5]] w fun e w' => e = .returned (.bool true) ∧ Below w.heap.size w w' := by
  go_enter Try.func70, Try.ntmps70
  go_wp2
  go_ret
  exact ⟨rfl, ext_alloc (ext_alloc (ext_refl w) _) _⟩

structure Flow where
  (key source dest port mark start gap burst size : Int)
def encFlow (x : Flow) : List Value := [.int .i64 x.key, .int .i64 x.source, .int .i64 x.dest, .int .i64 x.port, .int .i64 x.mark, .int .i64 x.start, .int .i64 x.gap, .int .i64 x.burst, .int .i64 x.size]
theorem encFlow_len (x : Flow) : (encFlow x).length = 9 := rfl

set_option maxRecDepth 100000 in
set_option maxHeartbeats 1000000 in
theorem toFlow_any (x0 x1 x2 x3 x4 x5 x6 x7 x8 : Int) (w : World) :
    Calls Try.prog 14 #[.agg #[.int .i64 x0, .int .i64 x1, .int .i64 x2, .int .i64 x3, .int .i64 x4, .int .i64 x5, .int .i64 x6, .int .i64 x7, .int .i64 x8]] w fun e w' => e = .returned (.agg #[.int .i64 x0, .int .i64 x1, .int .i64 x2, .int .i64 x3, .int .i64 x4, .int .i64 x5, .int .i64 x6, .int .i64 x7, .int .i64 x8]) ∧ Below w.heap.size w w' := by
  go_enter Try.func14, Try.ntmps14
  go_wp2
  refine bodyPost_ret (v := .agg #[.int .i64 x0, .int .i64 x1, .int .i64 x2, .int .i64 x3, .int .i64 x4, .int .i64 x5, .int .i64 x6, .int .i64 x7, .int .i64 x8]) (by simp [results, Try.results14, go_sem]) rfl ⟨rfl, ?_⟩
  exact ext_alloc (ext_alloc (ext_alloc (ext_refl w) _) _) _

theorem openFlow {W : World} {r : Reach} {b : Nat} {v : Value} (h : Value.okWide Try.prog W r b 23 v) : ∃ x0 x1 x2 x3 x4 x5 x6 x7 x8 : Int, v = .agg #[.int .i64 x0, .int .i64 x1, .int .i64 x2, .int .i64 x3, .int .i64 x4, .int .i64 x5, .int .i64 x6, .int .i64 x7, .int .i64 x8] := by
  obtain ⟨cs0, rfl, hl0, hc0⟩ := okWide_cells Try.underlying23 (ts := [3, 3, 3, 3, 3, 3, 3, 3, 3]) (by kernel_rfl) (by kernel_rfl) h
  match cs0, hl0 with
  | [a0, a1, a2, a3, a4, a5, a6, a7, a8], _ =>
    obtain ⟨x0, rfl, _⟩ := cell_int Try.underlying3 (hc0 0 3 a0 rfl rfl)
    obtain ⟨x1, rfl, _⟩ := cell_int Try.underlying3 (hc0 1 3 a1 rfl rfl)
    obtain ⟨x2, rfl, _⟩ := cell_int Try.underlying3 (hc0 2 3 a2 rfl rfl)
    obtain ⟨x3, rfl, _⟩ := cell_int Try.underlying3 (hc0 3 3 a3 rfl rfl)
    obtain ⟨x4, rfl, _⟩ := cell_int Try.underlying3 (hc0 4 3 a4 rfl rfl)
    obtain ⟨x5, rfl, _⟩ := cell_int Try.underlying3 (hc0 5 3 a5 rfl rfl)
    obtain ⟨x6, rfl, _⟩ := cell_int Try.underlying3 (hc0 6 3 a6 rfl rfl)
    obtain ⟨x7, rfl, _⟩ := cell_int Try.underlying3 (hc0 7 3 a7 rfl rfl)
    obtain ⟨x8, rfl, _⟩ := cell_int Try.underlying3 (hc0 8 3 a8 rfl rfl)
    exact ⟨x0, x1, x2, x3, x4, x5, x6, x7, x8, rfl⟩

set_option maxRecDepth 100000 in
set_option maxHeartbeats 1000000 in
theorem eqFlow_same (x0 x1 x2 x3 x4 x5 x6 x7 x8 : Int) (w : World) :
    Calls Try.prog 24 #[.agg #[.int .i64 x0, .int .i64 x1, .int .i64 x2, .int .i64 x3, .int .i64 x4, .int .i64 x5, .int .i64 x6, .int .i64 x7, .int .i64 x8], .agg #[.int .i64 x0, .int .i64 x1, .int .i64 x2, .int .i64 x3, .int .i64 x4, .int .i64 x5, .int .i64 x6, .int .i64 x7, .int .i64 x8]] w fun e w' => e = .returned (.bool true) ∧ Below w.heap.size w w' := by
  go_enter Try.func24, Try.ntmps24
  go_wp2
  go_ret
  exact ⟨rfl, ext_alloc (ext_alloc (ext_refl w) _) _⟩

set_option maxRecDepth 100000 in
set_option maxHeartbeats 1000000 in
theorem szFlowS_any (A : Option Addr) (n c : Nat) (left : Int) (w : World) (hn : n ≤ 9223372036854775807) (h1 : 0 ≤ left) (h2 : left ≤ 1048576) :
    Calls Try.prog 25 #[.slice A n c, .int .i64 left] w fun e w' => e = .returned (.int .i64 (if left < (n : Int) then -1 else left - n)) ∧ w = w' := by
  by_cases h : left < (n : Int)
  · go_enter Try.func25, Try.ntmps25
    go_wp2
    go_ret
    simp
  · go_enter Try.func25, Try.ntmps25
    go_wp2
    go_ret
    simp

theorem infoFlow : (Try.prog.info? 25).map (fun i => (i.zero, i.size, i.bytes)) = some (some (.agg #[.int .i64 0, .int .i64 0, .int .i64 0, .int .i64 0, .int .i64 0, .int .i64 0, .int .i64 0, .int .i64 0, .int .i64 0]), 9, 72) := by kernel_rfl
set_option maxRecDepth 100000 in
set_option maxHeartbeats 1000000 in
theorem toFlowS_any (A : Option Addr) (n c : Nat) (xs : List Flow) (w : World) (hn : n ≤ 1048576) (hr : Rd w 9 A n (xs.flatMap encFlow)) :
    Calls Try.prog 27 #[.slice A n c] w fun e w' => ∃ g, e = .returned (.slice (some ⟨g, 0, none⟩) n n) ∧ w'.ownsRow w.heap.size 25 9 (.slice (some ⟨g, 0, none⟩) n n) n (xs.flatMap encFlow) ∧ Below w.heap.size w w' := by
  obtain ⟨i0, hi, hz0, hz1, hz2⟩ := info_parts infoFlow
  have hmk := fun W => run_make (P := Try.prog) W 45 25 i0 _ Try.underlying45 hi hz0 .i64 .i64 (n : Int) (n : Int) (by omega) (by omega) (by rw [hz2]; omega) (by omega)
  rw [hz1] at hmk
  go_enter Try.func27, Try.ntmps27
  go_wp2_with fail
  clear hmk
  go_loopw [4] (ToRel w w.heap.size 25 n 9 (xs.flatMap encFlow)) (fun i _ => n - (intOf i).toNat)
  case atStart => exact toRel_start
  case round =>
    obtain ⟨k, hk, rfl, cs, hB, hl, hcs, hb⟩ := hrel
    by_cases hlt : k < n
    · obtain ⟨b, o, rfl, hbl, hcell⟩ := hr.2 (by omega)
      have hlx : k < xs.length := by have h1 := hr.1; rw [flat_len encFlow 9 encFlow_len] at h1; omega
      have hx : xs[k]? = some xs[k] := List.getElem?_eq_getElem hlx
      generalize xs[k] = x at hx
      have c0 : wr.cell? ⟨b, o + (k * 9 + 0), none⟩ = some (.int .i64 x.key) := (hb.cell (p := ⟨b, o + (k * 9 + 0), none⟩) hbl).trans (hcell _ _ ((flat_get encFlow 9 encFlow_len xs k 0 x hx (by omega)).trans rfl))
      have c1 : wr.cell? ⟨b, o + (k * 9 + 1), none⟩ = some (.int .i64 x.source) := (hb.cell (p := ⟨b, o + (k * 9 + 1), none⟩) hbl).trans (hcell _ _ ((flat_get encFlow 9 encFlow_len xs k 1 x hx (by omega)).trans rfl))
      have c2 : wr.cell? ⟨b, o + (k * 9 + 2), none⟩ = some (.int .i64 x.dest) := (hb.cell (p := ⟨b, o + (k * 9 + 2), none⟩) hbl).trans (hcell _ _ ((flat_get encFlow 9 encFlow_len xs k 2 x hx (by omega)).trans rfl))
      have c3 : wr.cell? ⟨b, o + (k * 9 + 3), none⟩ = some (.int .i64 x.port) := (hb.cell (p := ⟨b, o + (k * 9 + 3), none⟩) hbl).trans (hcell _ _ ((flat_get encFlow 9 encFlow_len xs k 3 x hx (by omega)).trans rfl))
      have c4 : wr.cell? ⟨b, o + (k * 9 + 4), none⟩ = some (.int .i64 x.mark) := (hb.cell (p := ⟨b, o + (k * 9 + 4), none⟩) hbl).trans (hcell _ _ ((flat_get encFlow 9 encFlow_len xs k 4 x hx (by omega)).trans rfl))
      have c5 : wr.cell? ⟨b, o + (k * 9 + 5), none⟩ = some (.int .i64 x.start) := (hb.cell (p := ⟨b, o + (k * 9 + 5), none⟩) hbl).trans (hcell _ _ ((flat_get encFlow 9 encFlow_len xs k 5 x hx (by omega)).trans rfl))
      have c6 : wr.cell? ⟨b, o + (k * 9 + 6), none⟩ = some (.int .i64 x.gap) := (hb.cell (p := ⟨b, o + (k * 9 + 6), none⟩) hbl).trans (hcell _ _ ((flat_get encFlow 9 encFlow_len xs k 6 x hx (by omega)).trans rfl))
      have c7 : wr.cell? ⟨b, o + (k * 9 + 7), none⟩ = some (.int .i64 x.burst) := (hb.cell (p := ⟨b, o + (k * 9 + 7), none⟩) hbl).trans (hcell _ _ ((flat_get encFlow 9 encFlow_len xs k 7 x hx (by omega)).trans rfl))
      have c8 : wr.cell? ⟨b, o + (k * 9 + 8), none⟩ = some (.int .i64 x.size) := (hb.cell (p := ⟨b, o + (k * 9 + 8), none⟩) hbl).trans (hcell _ _ ((flat_get encFlow 9 encFlow_len xs k 8 x hx (by omega)).trans rfl))
      simp only [Nat.add_zero, ← Nat.add_assoc] at c0 c1 c2 c3 c4 c5 c6 c7 c8
      have HX := Lib.hid hx
      have HC := Lib.hid hcs
      clear hx hcell hcs
      go_wp2_with fail
      refine (toFlow_any _ _ _ _ _ _ _ _ _ _ ).mono ?_
      rintro e w1 ⟨rfl, hb1⟩
      have hB1 := hB.below hb1
      have q0 : w1.cell? ⟨w.heap.size, k * 9, none⟩ = some (cs[k * 9]'(by omega)) := by rw [hB1.cell, List.getElem?_eq_getElem (by omega)]
      have f0 := hB1.frozen (k * 9)
      have q1 : w1.cell? ⟨w.heap.size, k * 9 + 1, none⟩ = some (cs[k * 9 + 1]'(by omega)) := by rw [hB1.cell, List.getElem?_eq_getElem (by omega)]
      have f1 := hB1.frozen (k * 9 + 1)
      have q2 : w1.cell? ⟨w.heap.size, k * 9 + 2, none⟩ = some (cs[k * 9 + 2]'(by omega)) := by rw [hB1.cell, List.getElem?_eq_getElem (by omega)]
      have f2 := hB1.frozen (k * 9 + 2)
      have q3 : w1.cell? ⟨w.heap.size, k * 9 + 3, none⟩ = some (cs[k * 9 + 3]'(by omega)) := by rw [hB1.cell, List.getElem?_eq_getElem (by omega)]
      have f3 := hB1.frozen (k * 9 + 3)
      have q4 : w1.cell? ⟨w.heap.size, k * 9 + 4, none⟩ = some (cs[k * 9 + 4]'(by omega)) := by rw [hB1.cell, List.getElem?_eq_getElem (by omega)]
      have f4 := hB1.frozen (k * 9 + 4)
      have q5 : w1.cell? ⟨w.heap.size, k * 9 + 5, none⟩ = some (cs[k * 9 + 5]'(by omega)) := by rw [hB1.cell, List.getElem?_eq_getElem (by omega)]
      have f5 := hB1.frozen (k * 9 + 5)
      have q6 : w1.cell? ⟨w.heap.size, k * 9 + 6, none⟩ = some (cs[k * 9 + 6]'(by omega)) := by rw [hB1.cell, List.getElem?_eq_getElem (by omega)]
      have f6 := hB1.frozen (k * 9 + 6)
      have q7 : w1.cell? ⟨w.heap.size, k * 9 + 7, none⟩ = some (cs[k * 9 + 7]'(by omega)) := by rw [hB1.cell, List.getElem?_eq_getElem (by omega)]
      have f7 := hB1.frozen (k * 9 + 7)
      have q8 : w1.cell? ⟨w.heap.size, k * 9 + 8, none⟩ = some (cs[k * 9 + 8]'(by omega)) := by rw [hB1.cell, List.getElem?_eq_getElem (by omega)]
      have f8 := hB1.frozen (k * 9 + 8)
      go_wp2_with fail
      go_roundw
      case rel => exact toRel_step encFlow_len HX.out hlt hl HC.out (((((((((hB1.set_ _ _).set_ _ _).set_ _ _).set_ _ _).set_ _ _).set_ _ _).set_ _ _).set_ _ _).set_ _ _) ((((((((((hb.trans (hb1.mono hb.size)).setCell (Nat.le_refl _) _).setCell (Nat.le_refl _) _).setCell (Nat.le_refl _) _).setCell (Nat.le_refl _) _).setCell (Nat.le_refl _) _).setCell (Nat.le_refl _) _).setCell (Nat.le_refl _) _).setCell (Nat.le_refl _) _).setCell (Nat.le_refl _) _)
      case measure => simp [intOf]; omega
    · go_wp2_with fail
      go_ret
      exact ⟨_, rfl, own_of_blk (toRel_done (by omega) hB hl hr.1 hcs) hr.1 hn (Nat.le_refl _), hb⟩

theorem openFlowS {H : Type} {enc : TypeId × Value → H} {W : World} {base b0 : Nat} {sp : Nat → Bool} {hd : Bool} {r : Reach} {v : Value} {d : DataW H} {q : List MemPlace} (hv : Value.okWide Try.prog W r b0 40 v) (h : DataW.Trod enc Try.prog W base sp hd 40 v d q) :
    ∃ (A : Option Addr) (n c : Nat) (xs : List Flow), v = .slice A n c ∧ n ≤ 9223372036854775807 ∧ Rd W 9 A n (xs.flatMap encFlow) :=
  open_rows encFlow 9 (by omega) encFlow_len (fun f => ⟨⟨f 0, f 1, f 2, f 3, f 4, f 5, f 6, f 7, f 8⟩, fun j hj => by rcases j with _ | _ | _ | _ | _ | _ | _ | _ | _ | j <;> first | rfl | omega⟩) Try.underlying40 (by kernel_rfl) (by kernel_rfl) hv h

set_option maxRecDepth 100000 in
set_option maxHeartbeats 1000000 in
theorem eqFlowS_same (A B : Option Addr) (n c d : Nat) (xs : List Flow) (w : World) (hn : n ≤ 1048576) (hr : Rd w 9 A n (xs.flatMap encFlow)) (hr2 : Rd w 9 B n (xs.flatMap encFlow)) :
    Calls Try.prog 30 #[.slice A n c, .slice B n d] w fun e w' => e = .returned (.bool true) ∧ Below w.heap.size w w' := by
  go_enter Try.func30, Try.ntmps30
  go_wp2_with fail
  go_loopw [5] (EqRel w n) (fun i _ => n - (intOf i).toNat)
  case atStart => exact ⟨0, Nat.zero_le _, rfl, ext_refl w⟩
  case round =>
    obtain ⟨k, hk, rfl, hb⟩ := hrel
    by_cases hlt : k < n
    · obtain ⟨b, o, rfl, hbl, hcell⟩ := hr.2 (by omega)
      obtain ⟨b2, o2, rfl, hbl2, hcell2⟩ := hr2.2 (by omega)
      have hlx : k < xs.length := by have h1 := hr.1; rw [flat_len encFlow 9 encFlow_len] at h1; omega
      have hx : xs[k]? = some xs[k] := List.getElem?_eq_getElem hlx
      generalize xs[k] = x at hx
      have c0 : wr.cell? ⟨b, o + (k * 9 + 0), none⟩ = some (.int .i64 x.key) := (hb.cell (p := ⟨b, o + (k * 9 + 0), none⟩) hbl).trans (hcell _ _ ((flat_get encFlow 9 encFlow_len xs k 0 x hx (by omega)).trans rfl))
      have c1 : wr.cell? ⟨b, o + (k * 9 + 1), none⟩ = some (.int .i64 x.source) := (hb.cell (p := ⟨b, o + (k * 9 + 1), none⟩) hbl).trans (hcell _ _ ((flat_get encFlow 9 encFlow_len xs k 1 x hx (by omega)).trans rfl))
      have c2 : wr.cell? ⟨b, o + (k * 9 + 2), none⟩ = some (.int .i64 x.dest) := (hb.cell (p := ⟨b, o + (k * 9 + 2), none⟩) hbl).trans (hcell _ _ ((flat_get encFlow 9 encFlow_len xs k 2 x hx (by omega)).trans rfl))
      have c3 : wr.cell? ⟨b, o + (k * 9 + 3), none⟩ = some (.int .i64 x.port) := (hb.cell (p := ⟨b, o + (k * 9 + 3), none⟩) hbl).trans (hcell _ _ ((flat_get encFlow 9 encFlow_len xs k 3 x hx (by omega)).trans rfl))
      have c4 : wr.cell? ⟨b, o + (k * 9 + 4), none⟩ = some (.int .i64 x.mark) := (hb.cell (p := ⟨b, o + (k * 9 + 4), none⟩) hbl).trans (hcell _ _ ((flat_get encFlow 9 encFlow_len xs k 4 x hx (by omega)).trans rfl))
      have c5 : wr.cell? ⟨b, o + (k * 9 + 5), none⟩ = some (.int .i64 x.start) := (hb.cell (p := ⟨b, o + (k * 9 + 5), none⟩) hbl).trans (hcell _ _ ((flat_get encFlow 9 encFlow_len xs k 5 x hx (by omega)).trans rfl))
      have c6 : wr.cell? ⟨b, o + (k * 9 + 6), none⟩ = some (.int .i64 x.gap) := (hb.cell (p := ⟨b, o + (k * 9 + 6), none⟩) hbl).trans (hcell _ _ ((flat_get encFlow 9 encFlow_len xs k 6 x hx (by omega)).trans rfl))
      have c7 : wr.cell? ⟨b, o + (k * 9 + 7), none⟩ = some (.int .i64 x.burst) := (hb.cell (p := ⟨b, o + (k * 9 + 7), none⟩) hbl).trans (hcell _ _ ((flat_get encFlow 9 encFlow_len xs k 7 x hx (by omega)).trans rfl))
      have c8 : wr.cell? ⟨b, o + (k * 9 + 8), none⟩ = some (.int .i64 x.size) := (hb.cell (p := ⟨b, o + (k * 9 + 8), none⟩) hbl).trans (hcell _ _ ((flat_get encFlow 9 encFlow_len xs k 8 x hx (by omega)).trans rfl))
      simp only [Nat.add_zero, ← Nat.add_assoc] at c0 c1 c2 c3 c4 c5 c6 c7 c8
      have d0 : wr.cell? ⟨b2, o2 + (k * 9 + 0), none⟩ = some (.int .i64 x.key) := (hb.cell (p := ⟨b2, o2 + (k * 9 + 0), none⟩) hbl2).trans (hcell2 _ _ ((flat_get encFlow 9 encFlow_len xs k 0 x hx (by omega)).trans rfl))
      have d1 : wr.cell? ⟨b2, o2 + (k * 9 + 1), none⟩ = some (.int .i64 x.source) := (hb.cell (p := ⟨b2, o2 + (k * 9 + 1), none⟩) hbl2).trans (hcell2 _ _ ((flat_get encFlow 9 encFlow_len xs k 1 x hx (by omega)).trans rfl))
      have d2 : wr.cell? ⟨b2, o2 + (k * 9 + 2), none⟩ = some (.int .i64 x.dest) := (hb.cell (p := ⟨b2, o2 + (k * 9 + 2), none⟩) hbl2).trans (hcell2 _ _ ((flat_get encFlow 9 encFlow_len xs k 2 x hx (by omega)).trans rfl))
      have d3 : wr.cell? ⟨b2, o2 + (k * 9 + 3), none⟩ = some (.int .i64 x.port) := (hb.cell (p := ⟨b2, o2 + (k * 9 + 3), none⟩) hbl2).trans (hcell2 _ _ ((flat_get encFlow 9 encFlow_len xs k 3 x hx (by omega)).trans rfl))
      have d4 : wr.cell? ⟨b2, o2 + (k * 9 + 4), none⟩ = some (.int .i64 x.mark) := (hb.cell (p := ⟨b2, o2 + (k * 9 + 4), none⟩) hbl2).trans (hcell2 _ _ ((flat_get encFlow 9 encFlow_len xs k 4 x hx (by omega)).trans rfl))
      have d5 : wr.cell? ⟨b2, o2 + (k * 9 + 5), none⟩ = some (.int .i64 x.start) := (hb.cell (p := ⟨b2, o2 + (k * 9 + 5), none⟩) hbl2).trans (hcell2 _ _ ((flat_get encFlow 9 encFlow_len xs k 5 x hx (by omega)).trans rfl))
      have d6 : wr.cell? ⟨b2, o2 + (k * 9 + 6), none⟩ = some (.int .i64 x.gap) := (hb.cell (p := ⟨b2, o2 + (k * 9 + 6), none⟩) hbl2).trans (hcell2 _ _ ((flat_get encFlow 9 encFlow_len xs k 6 x hx (by omega)).trans rfl))
      have d7 : wr.cell? ⟨b2, o2 + (k * 9 + 7), none⟩ = some (.int .i64 x.burst) := (hb.cell (p := ⟨b2, o2 + (k * 9 + 7), none⟩) hbl2).trans (hcell2 _ _ ((flat_get encFlow 9 encFlow_len xs k 7 x hx (by omega)).trans rfl))
      have d8 : wr.cell? ⟨b2, o2 + (k * 9 + 8), none⟩ = some (.int .i64 x.size) := (hb.cell (p := ⟨b2, o2 + (k * 9 + 8), none⟩) hbl2).trans (hcell2 _ _ ((flat_get encFlow 9 encFlow_len xs k 8 x hx (by omega)).trans rfl))
      simp only [Nat.add_zero, ← Nat.add_assoc] at d0 d1 d2 d3 d4 d5 d6 d7 d8
      clear hx hcell hcell2
      go_wp2_with fail
      go_still_tail 8, (by kernel_rfl)
      change wpList _ _ _ _ _ wr.drew
      go_wp2_with fail
      refine (eqFlow_same _ _ _ _ _ _ _ _ _ _ ).mono ?_
      rintro e w1 ⟨rfl, hb1⟩
      go_wp2_with fail
      go_roundw
      case rel => exact ⟨k + 1, by omega, by go_num, ext_trans hb.drew hb1⟩
      case measure => simp [intOf]; omega
    · go_wp2_with fail
      go_ret
      exact ⟨rfl, hb⟩

set_option maxRecDepth 100000 in
set_option maxHeartbeats 1000000 in
theorem markFlowS_blk (g n c : Nat) (cs0 : List Value) (k0 : Int) (w : World) (hn : n ≤ 1048576) (hk0 : 0 ≤ k0) (hk1 : k0 ≤ 1000000000000) (hB0 : Blk w g 25 cs0) (hl0 : n * 9 ≤ cs0.length) :
    Calls Try.prog 31 #[.slice (some ⟨g, 0, none⟩) n c, .int .i64 k0] w fun e w' => ∃ kk, e = .returned kk ∧ MarkRel w g 25 n 9 cs0 k0 kk (.int .i64 n) w' := by
  go_enter Try.func31, Try.ntmps31
  go_wp2_with fail
  go_loopw [1, 5] (MarkRel w g 25 n 9 cs0 k0) (fun _ i _ => n - (intOf i).toNat)
  case atStart => exact markRel_start hB0
  case round =>
    obtain ⟨k, hk, rfl, rfl, hg, cs, hB, hl, hcs⟩ := hrel
    by_cases hlt : k < n
    · have HC := Lib.hid hcs
      have hl' : cs.length = cs0.length := hl
      obtain ⟨y0, q0⟩ : ∃ y, wr.cell? ⟨g, k * 9, none⟩ = some y := ⟨cs[k * 9]'(by omega), by rw [hB.cell, List.getElem?_eq_getElem (by omega)]⟩
      have f0 := hB.frozen (k * 9)
      obtain ⟨y1, q1⟩ : ∃ y, wr.cell? ⟨g, k * 9 + 1, none⟩ = some y := ⟨cs[k * 9 + 1]'(by omega), by rw [hB.cell, List.getElem?_eq_getElem (by omega)]⟩
      have f1 := hB.frozen (k * 9 + 1)
      obtain ⟨y2, q2⟩ : ∃ y, wr.cell? ⟨g, k * 9 + 2, none⟩ = some y := ⟨cs[k * 9 + 2]'(by omega), by rw [hB.cell, List.getElem?_eq_getElem (by omega)]⟩
      have f2 := hB.frozen (k * 9 + 2)
      obtain ⟨y3, q3⟩ : ∃ y, wr.cell? ⟨g, k * 9 + 3, none⟩ = some y := ⟨cs[k * 9 + 3]'(by omega), by rw [hB.cell, List.getElem?_eq_getElem (by omega)]⟩
      have f3 := hB.frozen (k * 9 + 3)
      obtain ⟨y4, q4⟩ : ∃ y, wr.cell? ⟨g, k * 9 + 4, none⟩ = some y := ⟨cs[k * 9 + 4]'(by omega), by rw [hB.cell, List.getElem?_eq_getElem (by omega)]⟩
      have f4 := hB.frozen (k * 9 + 4)
      obtain ⟨y5, q5⟩ : ∃ y, wr.cell? ⟨g, k * 9 + 5, none⟩ = some y := ⟨cs[k * 9 + 5]'(by omega), by rw [hB.cell, List.getElem?_eq_getElem (by omega)]⟩
      have f5 := hB.frozen (k * 9 + 5)
      obtain ⟨y6, q6⟩ : ∃ y, wr.cell? ⟨g, k * 9 + 6, none⟩ = some y := ⟨cs[k * 9 + 6]'(by omega), by rw [hB.cell, List.getElem?_eq_getElem (by omega)]⟩
      have f6 := hB.frozen (k * 9 + 6)
      obtain ⟨y7, q7⟩ : ∃ y, wr.cell? ⟨g, k * 9 + 7, none⟩ = some y := ⟨cs[k * 9 + 7]'(by omega), by rw [hB.cell, List.getElem?_eq_getElem (by omega)]⟩
      have f7 := hB.frozen (k * 9 + 7)
      obtain ⟨y8, q8⟩ : ∃ y, wr.cell? ⟨g, k * 9 + 8, none⟩ = some y := ⟨cs[k * 9 + 8]'(by omega), by rw [hB.cell, List.getElem?_eq_getElem (by omega)]⟩
      have f8 := hB.frozen (k * 9 + 8)
      have HL := Lib.hid hl
      clear hcs hl hl'
      go_wp2_with fail
      go_roundw
      case rel => exact markRel_step hlt (by omega) HL.out HC.out (by simpa [SetRow, marks, List.range_succ, Int.add_assoc] using (((((((((hB.set_ _ _).set_ _ _).set_ _ _).set_ _ _).set_ _ _).set_ _ _).set_ _ _).set_ _ _).set_ _ _)) (grownBy_setCell (grownBy_setCell (grownBy_setCell (grownBy_setCell (grownBy_setCell (grownBy_setCell (grownBy_setCell (grownBy_setCell (grownBy_setCell hg _ _) _ _) _ _) _ _) _ _) _ _) _ _) _ _) _ _) (by simp <;> omega)
      case measure => simp [intOf]; omega
    · go_wp2_with fail
      go_ret
      obtain rfl : k = n := by omega
      exact ⟨_, rfl, k, Nat.le_refl _, rfl, rfl, hg, cs, hB, hl, hcs⟩

set_option maxRecDepth 100000 in
set_option maxHeartbeats 1000000 in
theorem markFlowS_own (A : Option Addr) (n c base : Nat) (xs : List Value) (k0 : Int) (w : World) (hn : n ≤ 1048576) (hk0 : 0 ≤ k0) (hk1 : k0 ≤ 1000000000000) (hown : w.ownsRow base 25 9 (.slice A n c) n xs) :
    Calls Try.prog 31 #[.slice A n c, .int .i64 k0] w fun e w' => e = .returned (.int .i64 (k0 + (n : Int) * 9)) ∧ w'.ownsRow base 25 9 (.slice A n c) n (marks k0 (n * 9)) ∧ w.grownBy w' (Value.ownBlock (.slice A n c)) := by
  by_cases hn0 : 0 < n
  · obtain ⟨g, cs, rfl, hbg, hB, hl, hnc, hcm, htake⟩ := own_blk hown hn0
    have hle : n * 9 ≤ c * 9 := Nat.mul_le_mul_right _ hnc
    refine (markFlowS_blk g n c cs k0 w hn hk0 hk1 hB (by omega)).mono ?_
    rintro e w' ⟨kk, rfl, k, hk, he, rfl, hg, cs', hB', hl', hcs'⟩
    obtain rfl : n = k := by simp at he; omega
    exact ⟨rfl, own_marked rfl hl hnc hcm hbg hB' hl' hcs', hg⟩
  · obtain rfl : n = 0 := by omega
    have hx : xs = [] := List.eq_nil_of_length_eq_zero (by simpa using hown.1)
    subst hx
    go_enter Try.func31, Try.ntmps31
    go_wp2_with fail
    go_loopw [1, 5] (fun kk i wr => kk = .int .i64 k0 ∧ i = .int .i64 0 ∧ w = wr) (fun _ _ _ => 0)
    case atStart => exact ⟨rfl, rfl, rfl⟩
    case round =>
      obtain ⟨rfl, rfl, rfl⟩ := hrel
      go_wp2_with fail
      go_ret
      exact ⟨by simp, hown, World.grownBy.refl _ _⟩

structure Timed where
  tick : Int
  packet : Packet
def encTimed (x : Timed) : List Value := [.int .i64 x.tick, .int .i64 x.packet.id, .int .i64 x.packet.source, .int .i64 x.packet.dest, .int .i64 x.packet.port, .int .i64 x.packet.mark, .int .i64 x.packet.size]
theorem encTimed_len (x : Timed) : (encTimed x).length = 7 := rfl

set_option maxRecDepth 100000 in
set_option maxHeartbeats 1000000 in
theorem toTimed_any (x0 x1 x2 x3 x4 x5 x6 : Int) (w : World) :
    Calls Try.prog 73 #[.agg #[.int .i64 x0, .int .i64 x1, .int .i64 x2, .int .i64 x3, .int .i64 x4, .int .i64 x5, .int .i64 x6]] w fun e w' => e = .returned (.agg #[.int .i64 x0, .int .i64 x1, .int .i64 x2, .int .i64 x3, .int .i64 x4, .int .i64 x5, .int .i64 x6]) ∧ Below w.heap.size w w' := by
  have ba0 : Blk (((w.alloc (.cells (List.toArray [.int .i64 x0, .int .i64 x1, .int .i64 x2, .int .i64 x3, .int .i64 x4, .int .i64 x5, .int .i64 x6]) 86)).alloc (.cells (List.toArray [.int .i64 0, .int .i64 0, .int .i64 0, .int .i64 0, .int .i64 0, .int .i64 0, .int .i64 0]) 58)).alloc (.cells (List.toArray [.int .i64 0, .int .i64 0, .int .i64 0, .int .i64 0, .int .i64 0, .int .i64 0, .int .i64 0]) 58)) w.heap.size 86 [.int .i64 x0, .int .i64 x1, .int .i64 x2, .int .i64 x3, .int .i64 x4, .int .i64 x5, .int .i64 x6] := ((Blk.new w 86 [.int .i64 x0, .int .i64 x1, .int .i64 x2, .int .i64 x3, .int .i64 x4, .int .i64 x5, .int .i64 x6]).alloc _).alloc _
  have br0 : Blk (((w.alloc (.cells (List.toArray [.int .i64 x0, .int .i64 x1, .int .i64 x2, .int .i64 x3, .int .i64 x4, .int .i64 x5, .int .i64 x6]) 86)).alloc (.cells (List.toArray [.int .i64 0, .int .i64 0, .int .i64 0, .int .i64 0, .int .i64 0, .int .i64 0, .int .i64 0]) 58)).alloc (.cells (List.toArray [.int .i64 0, .int .i64 0, .int .i64 0, .int .i64 0, .int .i64 0, .int .i64 0, .int .i64 0]) 58)) (w.heap.size + 1) 58 [.int .i64 0, .int .i64 0, .int .i64 0, .int .i64 0, .int .i64 0, .int .i64 0, .int .i64 0] := by have h := (Blk.new (w.alloc (.cells (List.toArray [.int .i64 x0, .int .i64 x1, .int .i64 x2, .int .i64 x3, .int .i64 x4, .int .i64 x5, .int .i64 x6]) 86)) 58 [.int .i64 0, .int .i64 0, .int .i64 0, .int .i64 0, .int .i64 0, .int .i64 0, .int .i64 0]).alloc (.cells (List.toArray [.int .i64 0, .int .i64 0, .int .i64 0, .int .i64 0, .int .i64 0, .int .i64 0, .int .i64 0]) 58); rwa [World.size_alloc] at h
  have bo0 : Blk (((w.alloc (.cells (List.toArray [.int .i64 x0, .int .i64 x1, .int .i64 x2, .int .i64 x3, .int .i64 x4, .int .i64 x5, .int .i64 x6]) 86)).alloc (.cells (List.toArray [.int .i64 0, .int .i64 0, .int .i64 0, .int .i64 0, .int .i64 0, .int .i64 0, .int .i64 0]) 58)).alloc (.cells (List.toArray [.int .i64 0, .int .i64 0, .int .i64 0, .int .i64 0, .int .i64 0, .int .i64 0, .int .i64 0]) 58)) (w.heap.size + 2) 58 [.int .i64 0, .int .i64 0, .int .i64 0, .int .i64 0, .int .i64 0, .int .i64 0, .int .i64 0] := by have h := Blk.new ((w.alloc (.cells (List.toArray [.int .i64 x0, .int .i64 x1, .int .i64 x2, .int .i64 x3, .int .i64 x4, .int .i64 x5, .int .i64 x6]) 86)).alloc (.cells (List.toArray [.int .i64 0, .int .i64 0, .int .i64 0, .int .i64 0, .int .i64 0, .int .i64 0, .int .i64 0]) 58)) 58 [.int .i64 0, .int .i64 0, .int .i64 0, .int .i64 0, .int .i64 0, .int .i64 0, .int .i64 0]; rwa [World.size_alloc, World.size_alloc] at h
  have z0 : Below w.heap.size w (((w.alloc (.cells (List.toArray [.int .i64 x0, .int .i64 x1, .int .i64 x2, .int .i64 x3, .int .i64 x4, .int .i64 x5, .int .i64 x6]) 86)).alloc (.cells (List.toArray [.int .i64 0, .int .i64 0, .int .i64 0, .int .i64 0, .int .i64 0, .int .i64 0, .int .i64 0]) 58)).alloc (.cells (List.toArray [.int .i64 0, .int .i64 0, .int .i64 0, .int .i64 0, .int .i64 0, .int .i64 0, .int .i64 0]) 58)) := ext_alloc (ext_alloc (ext_alloc (ext_refl w) _) _) _
  go_enter Try.func73, Try.ntmps73
  go_wp2_with fail
  refine (toPacket_any _ _ _ _ _ _ _ ).mono ?_
  rintro e w1 ⟨rfl, hb1⟩
  have ba1 : Blk w1 w.heap.size 86 [.int .i64 x0, .int .i64 x1, .int .i64 x2, .int .i64 x3, .int .i64 x4, .int .i64 x5, .int .i64 x6] := (((Blk.new w 86 [.int .i64 x0, .int .i64 x1, .int .i64 x2, .int .i64 x3, .int .i64 x4, .int .i64 x5, .int .i64 x6]).alloc _).alloc _).below hb1
  have br1 : Blk w1 (w.heap.size + 1) 58 [.int .i64 0, .int .i64 0, .int .i64 0, .int .i64 0, .int .i64 0, .int .i64 0, .int .i64 0] := Blk.below (by have h := (Blk.new (w.alloc (.cells (List.toArray [.int .i64 x0, .int .i64 x1, .int .i64 x2, .int .i64 x3, .int .i64 x4, .int .i64 x5, .int .i64 x6]) 86)) 58 [.int .i64 0, .int .i64 0, .int .i64 0, .int .i64 0, .int .i64 0, .int .i64 0, .int .i64 0]).alloc (.cells (List.toArray [.int .i64 x0, .int .i64 0, .int .i64 0, .int .i64 0, .int .i64 0, .int .i64 0, .int .i64 0]) 58); rwa [World.size_alloc] at h) hb1
  have bo1 : Blk w1 (w.heap.size + 2) 58 [.int .i64 x0, .int .i64 0, .int .i64 0, .int .i64 0, .int .i64 0, .int .i64 0, .int .i64 0] := Blk.below (by have h := Blk.new ((w.alloc (.cells (List.toArray [.int .i64 x0, .int .i64 x1, .int .i64 x2, .int .i64 x3, .int .i64 x4, .int .i64 x5, .int .i64 x6]) 86)).alloc (.cells (List.toArray [.int .i64 0, .int .i64 0, .int .i64 0, .int .i64 0, .int .i64 0, .int .i64 0, .int .i64 0]) 58)) 58 [.int .i64 x0, .int .i64 0, .int .i64 0, .int .i64 0, .int .i64 0, .int .i64 0, .int .i64 0]; rwa [World.size_alloc, World.size_alloc] at h) hb1
  have z1 : Below w.heap.size w w1 := ext_trans (ext_alloc (ext_alloc (ext_alloc (ext_refl w) _) _) _) hb1
  obtain ⟨ya1, xa1, ca1, fa1⟩ := ba1.seven
  obtain ⟨yr1, xr1, cr1, fr1⟩ := br1.seven
  obtain ⟨yo1, xo1, co1, fo1⟩ := bo1.seven
  go_wp2_with fail
  exact bodyPost_ret (v := .agg #[.int .i64 x0, .int .i64 x1, .int .i64 x2, .int .i64 x3, .int .i64 x4, .int .i64 x5, .int .i64 x6]) (res_cell1 Try.results73 _ rfl (((((((((((((br1.far (p := ⟨w.heap.size + 2, 1, none⟩) (by simp) (.int .i64 x1)).far (p := ⟨w.heap.size + 2, 2, none⟩) (by simp) (.int .i64 x2)).far (p := ⟨w.heap.size + 2, 3, none⟩) (by simp) (.int .i64 x3)).far (p := ⟨w.heap.size + 2, 4, none⟩) (by simp) (.int .i64 x4)).far (p := ⟨w.heap.size + 2, 5, none⟩) (by simp) (.int .i64 x5)).far (p := ⟨w.heap.size + 2, 6, none⟩) (by simp) (.int .i64 x6)).set_ 0 (.int .i64 x0)).set_ 1 (.int .i64 x1)).set_ 2 (.int .i64 x2)).set_ 3 (.int .i64 x3)).set_ 4 (.int .i64 x4)).set_ 5 (.int .i64 x5)).set_ 6 (.int .i64 x6)) Try.underlying58 rfl (by kernel_rfl)) rfl ⟨rfl, (((((((((((((z1.setCell (p := ⟨w.heap.size + 2, 1, none⟩) (by simp) (.int .i64 x1)).setCell (p := ⟨w.heap.size + 2, 2, none⟩) (by simp) (.int .i64 x2)).setCell (p := ⟨w.heap.size + 2, 3, none⟩) (by simp) (.int .i64 x3)).setCell (p := ⟨w.heap.size + 2, 4, none⟩) (by simp) (.int .i64 x4)).setCell (p := ⟨w.heap.size + 2, 5, none⟩) (by simp) (.int .i64 x5)).setCell (p := ⟨w.heap.size + 2, 6, none⟩) (by simp) (.int .i64 x6)).setCell (p := ⟨w.heap.size + 1, 0, none⟩) (by simp) (.int .i64 x0)).setCell (p := ⟨w.heap.size + 1, 1, none⟩) (by simp) (.int .i64 x1)).setCell (p := ⟨w.heap.size + 1, 2, none⟩) (by simp) (.int .i64 x2)).setCell (p := ⟨w.heap.size + 1, 3, none⟩) (by simp) (.int .i64 x3)).setCell (p := ⟨w.heap.size + 1, 4, none⟩) (by simp) (.int .i64 x4)).setCell (p := ⟨w.heap.size + 1, 5, none⟩) (by simp) (.int .i64 x5)).setCell (p := ⟨w.heap.size + 1, 6, none⟩) (by simp) (.int .i64 x6))⟩

theorem openTimed {W : World} {r : Reach} {b : Nat} {v : Value} (h : Value.okWide Try.prog W r b 86 v) : ∃ x0 x1 x2 x3 x4 x5 x6 : Int, v = .agg #[.int .i64 x0, .int .i64 x1, .int .i64 x2, .int .i64 x3, .int .i64 x4, .int .i64 x5, .int .i64 x6] := by
  obtain ⟨cs0, rfl, hl0, hc0⟩ := okWide_cells Try.underlying86 (ts := [3, 3, 3, 3, 3, 3, 3]) (by kernel_rfl) (by kernel_rfl) h
  match cs0, hl0 with
  | [a0, a1, a2, a3, a4, a5, a6], _ =>
    obtain ⟨x0, rfl, _⟩ := cell_int Try.underlying3 (hc0 0 3 a0 rfl rfl)
    obtain ⟨x1, rfl, _⟩ := cell_int Try.underlying3 (hc0 1 3 a1 rfl rfl)
    obtain ⟨x2, rfl, _⟩ := cell_int Try.underlying3 (hc0 2 3 a2 rfl rfl)
    obtain ⟨x3, rfl, _⟩ := cell_int Try.underlying3 (hc0 3 3 a3 rfl rfl)
    obtain ⟨x4, rfl, _⟩ := cell_int Try.underlying3 (hc0 4 3 a4 rfl rfl)
    obtain ⟨x5, rfl, _⟩ := cell_int Try.underlying3 (hc0 5 3 a5 rfl rfl)
    obtain ⟨x6, rfl, _⟩ := cell_int Try.underlying3 (hc0 6 3 a6 rfl rfl)
    exact ⟨x0, x1, x2, x3, x4, x5, x6, rfl⟩

set_option maxRecDepth 100000 in
set_option maxHeartbeats 1000000 in
theorem eqTimed_same (x0 x1 x2 x3 x4 x5 x6 : Int) (w : World) :
    Calls Try.prog 40 #[.agg #[.int .i64 x0, .int .i64 x1, .int .i64 x2, .int .i64 x3, .int .i64 x4, .int .i64 x5, .int .i64 x6], .agg #[.int .i64 x0, .int .i64 x1, .int .i64 x2, .int .i64 x3, .int .i64 x4, .int .i64 x5, .int .i64 x6]] w fun e w' => e = .returned (.bool true) ∧ Below w.heap.size w w' := by
  go_enter Try.func40, Try.ntmps40
  go_wp2_with fail
  refine (eqPacket_same _ _ _ _ _ _ _ ).mono ?_
  rintro e w1 ⟨rfl, hb1⟩
  have z1 : Below w.heap.size w w1 := ext_trans (ext_alloc (ext_alloc (ext_refl w) _) _) hb1
  obtain ⟨hc1, hf1⟩ := bcell hb1
  have s1 : w.heap.size < w1.heap.size ∧ w.heap.size + 1 < w1.heap.size := by have := hb1.size; (try simp at this); omega
  go_wp2_with fail
  go_ret
  exact ⟨rfl, z1⟩

set_option maxRecDepth 100000 in
set_option maxHeartbeats 1000000 in
theorem szTimedS_any (A : Option Addr) (n c : Nat) (left : Int) (w : World) (hn : n ≤ 9223372036854775807) (h1 : 0 ≤ left) (h2 : left ≤ 1048576) :
    Calls Try.prog 43 #[.slice A n c, .int .i64 left] w fun e w' => e = .returned (.int .i64 (if left < (n : Int) then -1 else left - n)) ∧ w = w' := by
  by_cases h : left < (n : Int)
  · go_enter Try.func43, Try.ntmps43
    go_wp2
    go_ret
    simp
  · go_enter Try.func43, Try.ntmps43
    go_wp2
    go_ret
    simp

theorem infoTimed : (Try.prog.info? 58).map (fun i => (i.zero, i.size, i.bytes)) = some (some (.agg #[.int .i64 0, .int .i64 0, .int .i64 0, .int .i64 0, .int .i64 0, .int .i64 0, .int .i64 0]), 7, 56) := by kernel_rfl
set_option maxRecDepth 100000 in
set_option maxHeartbeats 1000000 in
theorem toTimedS_any (A : Option Addr) (n c : Nat) (xs : List Timed) (w : World) (hn : n ≤ 1048576) (hr : Rd w 7 A n (xs.flatMap encTimed)) :
    Calls Try.prog 45 #[.slice A n c] w fun e w' => ∃ g, e = .returned (.slice (some ⟨g, 0, none⟩) n n) ∧ w'.ownsRow w.heap.size 58 7 (.slice (some ⟨g, 0, none⟩) n n) n (xs.flatMap encTimed) ∧ Below w.heap.size w w' := by
  obtain ⟨i0, hi, hz0, hz1, hz2⟩ := info_parts infoTimed
  have hmk := fun W => run_make (P := Try.prog) W 42 58 i0 _ Try.underlying42 hi hz0 .i64 .i64 (n : Int) (n : Int) (by omega) (by omega) (by rw [hz2]; omega) (by omega)
  rw [hz1] at hmk
  go_enter Try.func45, Try.ntmps45
  go_wp2_with fail
  clear hmk
  go_loopw [4] (ToRel w w.heap.size 58 n 7 (xs.flatMap encTimed)) (fun i _ => n - (intOf i).toNat)
  case atStart => exact toRel_start
  case round =>
    obtain ⟨k, hk, rfl, cs, hB, hl, hcs, hb⟩ := hrel
    by_cases hlt : k < n
    · obtain ⟨b, o, rfl, hbl, hcell⟩ := hr.2 (by omega)
      have hlx : k < xs.length := by have h1 := hr.1; rw [flat_len encTimed 7 encTimed_len] at h1; omega
      have hx : xs[k]? = some xs[k] := List.getElem?_eq_getElem hlx
      generalize xs[k] = x at hx
      have c0 : wr.cell? ⟨b, o + (k * 7 + 0), none⟩ = some (.int .i64 x.tick) := (hb.cell (p := ⟨b, o + (k * 7 + 0), none⟩) hbl).trans (hcell _ _ ((flat_get encTimed 7 encTimed_len xs k 0 x hx (by omega)).trans rfl))
      have c1 : wr.cell? ⟨b, o + (k * 7 + 1), none⟩ = some (.int .i64 x.packet.id) := (hb.cell (p := ⟨b, o + (k * 7 + 1), none⟩) hbl).trans (hcell _ _ ((flat_get encTimed 7 encTimed_len xs k 1 x hx (by omega)).trans rfl))
      have c2 : wr.cell? ⟨b, o + (k * 7 + 2), none⟩ = some (.int .i64 x.packet.source) := (hb.cell (p := ⟨b, o + (k * 7 + 2), none⟩) hbl).trans (hcell _ _ ((flat_get encTimed 7 encTimed_len xs k 2 x hx (by omega)).trans rfl))
      have c3 : wr.cell? ⟨b, o + (k * 7 + 3), none⟩ = some (.int .i64 x.packet.dest) := (hb.cell (p := ⟨b, o + (k * 7 + 3), none⟩) hbl).trans (hcell _ _ ((flat_get encTimed 7 encTimed_len xs k 3 x hx (by omega)).trans rfl))
      have c4 : wr.cell? ⟨b, o + (k * 7 + 4), none⟩ = some (.int .i64 x.packet.port) := (hb.cell (p := ⟨b, o + (k * 7 + 4), none⟩) hbl).trans (hcell _ _ ((flat_get encTimed 7 encTimed_len xs k 4 x hx (by omega)).trans rfl))
      have c5 : wr.cell? ⟨b, o + (k * 7 + 5), none⟩ = some (.int .i64 x.packet.mark) := (hb.cell (p := ⟨b, o + (k * 7 + 5), none⟩) hbl).trans (hcell _ _ ((flat_get encTimed 7 encTimed_len xs k 5 x hx (by omega)).trans rfl))
      have c6 : wr.cell? ⟨b, o + (k * 7 + 6), none⟩ = some (.int .i64 x.packet.size) := (hb.cell (p := ⟨b, o + (k * 7 + 6), none⟩) hbl).trans (hcell _ _ ((flat_get encTimed 7 encTimed_len xs k 6 x hx (by omega)).trans rfl))
      simp only [Nat.add_zero, ← Nat.add_assoc] at c0 c1 c2 c3 c4 c5 c6
      have HX := Lib.hid hx
      have HC := Lib.hid hcs
      clear hx hcell hcs
      go_wp2_with fail
      refine (toTimed_any _ _ _ _ _ _ _ _ ).mono ?_
      rintro e w1 ⟨rfl, hb1⟩
      have hB1 := hB.below hb1
      have q0 : w1.cell? ⟨w.heap.size, k * 7, none⟩ = some (cs[k * 7]'(by omega)) := by rw [hB1.cell, List.getElem?_eq_getElem (by omega)]
      have f0 := hB1.frozen (k * 7)
      have q1 : w1.cell? ⟨w.heap.size, k * 7 + 1, none⟩ = some (cs[k * 7 + 1]'(by omega)) := by rw [hB1.cell, List.getElem?_eq_getElem (by omega)]
      have f1 := hB1.frozen (k * 7 + 1)
      have q2 : w1.cell? ⟨w.heap.size, k * 7 + 2, none⟩ = some (cs[k * 7 + 2]'(by omega)) := by rw [hB1.cell, List.getElem?_eq_getElem (by omega)]
      have f2 := hB1.frozen (k * 7 + 2)
      have q3 : w1.cell? ⟨w.heap.size, k * 7 + 3, none⟩ = some (cs[k * 7 + 3]'(by omega)) := by rw [hB1.cell, List.getElem?_eq_getElem (by omega)]
      have f3 := hB1.frozen (k * 7 + 3)
      have q4 : w1.cell? ⟨w.heap.size, k * 7 + 4, none⟩ = some (cs[k * 7 + 4]'(by omega)) := by rw [hB1.cell, List.getElem?_eq_getElem (by omega)]
      have f4 := hB1.frozen (k * 7 + 4)
      have q5 : w1.cell? ⟨w.heap.size, k * 7 + 5, none⟩ = some (cs[k * 7 + 5]'(by omega)) := by rw [hB1.cell, List.getElem?_eq_getElem (by omega)]
      have f5 := hB1.frozen (k * 7 + 5)
      have q6 : w1.cell? ⟨w.heap.size, k * 7 + 6, none⟩ = some (cs[k * 7 + 6]'(by omega)) := by rw [hB1.cell, List.getElem?_eq_getElem (by omega)]
      have f6 := hB1.frozen (k * 7 + 6)
      go_wp2_with fail
      go_roundw
      case rel => exact toRel_step encTimed_len HX.out hlt hl HC.out (((((((hB1.set_ _ _).set_ _ _).set_ _ _).set_ _ _).set_ _ _).set_ _ _).set_ _ _) ((((((((hb.trans (hb1.mono hb.size)).setCell (Nat.le_refl _) _).setCell (Nat.le_refl _) _).setCell (Nat.le_refl _) _).setCell (Nat.le_refl _) _).setCell (Nat.le_refl _) _).setCell (Nat.le_refl _) _).setCell (Nat.le_refl _) _)
      case measure => simp [intOf]; omega
    · go_wp2_with fail
      go_ret
      exact ⟨_, rfl, own_of_blk (toRel_done (by omega) hB hl hr.1 hcs) hr.1 hn (Nat.le_refl _), hb⟩

theorem openTimedS {H : Type} {enc : TypeId × Value → H} {W : World} {base b0 : Nat} {sp : Nat → Bool} {hd : Bool} {r : Reach} {v : Value} {d : DataW H} {q : List MemPlace} (hv : Value.okWide Try.prog W r b0 63 v) (h : DataW.Trod enc Try.prog W base sp hd 63 v d q) :
    ∃ (A : Option Addr) (n c : Nat) (xs : List Timed), v = .slice A n c ∧ n ≤ 9223372036854775807 ∧ Rd W 7 A n (xs.flatMap encTimed) :=
  open_rows encTimed 7 (by omega) encTimed_len (fun f => ⟨⟨f 0, ⟨f 1, f 2, f 3, f 4, f 5, f 6⟩⟩, fun j hj => by rcases j with _ | _ | _ | _ | _ | _ | _ | j <;> first | rfl | omega⟩) Try.underlying63 (by kernel_rfl) (by kernel_rfl) hv h

set_option maxRecDepth 100000 in
set_option maxHeartbeats 1000000 in
theorem eqTimedS_same (A B : Option Addr) (n c d : Nat) (xs : List Timed) (w : World) (hn : n ≤ 1048576) (hr : Rd w 7 A n (xs.flatMap encTimed)) (hr2 : Rd w 7 B n (xs.flatMap encTimed)) :
    Calls Try.prog 29 #[.slice A n c, .slice B n d] w fun e w' => e = .returned (.bool true) ∧ Below w.heap.size w w' := by
  go_enter Try.func29, Try.ntmps29
  go_wp2_with fail
  go_loopw [5] (EqRel w n) (fun i _ => n - (intOf i).toNat)
  case atStart => exact ⟨0, Nat.zero_le _, rfl, ext_refl w⟩
  case round =>
    obtain ⟨k, hk, rfl, hb⟩ := hrel
    by_cases hlt : k < n
    · obtain ⟨b, o, rfl, hbl, hcell⟩ := hr.2 (by omega)
      obtain ⟨b2, o2, rfl, hbl2, hcell2⟩ := hr2.2 (by omega)
      have hlx : k < xs.length := by have h1 := hr.1; rw [flat_len encTimed 7 encTimed_len] at h1; omega
      have hx : xs[k]? = some xs[k] := List.getElem?_eq_getElem hlx
      generalize xs[k] = x at hx
      have c0 : wr.cell? ⟨b, o + (k * 7 + 0), none⟩ = some (.int .i64 x.tick) := (hb.cell (p := ⟨b, o + (k * 7 + 0), none⟩) hbl).trans (hcell _ _ ((flat_get encTimed 7 encTimed_len xs k 0 x hx (by omega)).trans rfl))
      have c1 : wr.cell? ⟨b, o + (k * 7 + 1), none⟩ = some (.int .i64 x.packet.id) := (hb.cell (p := ⟨b, o + (k * 7 + 1), none⟩) hbl).trans (hcell _ _ ((flat_get encTimed 7 encTimed_len xs k 1 x hx (by omega)).trans rfl))
      have c2 : wr.cell? ⟨b, o + (k * 7 + 2), none⟩ = some (.int .i64 x.packet.source) := (hb.cell (p := ⟨b, o + (k * 7 + 2), none⟩) hbl).trans (hcell _ _ ((flat_get encTimed 7 encTimed_len xs k 2 x hx (by omega)).trans rfl))
      have c3 : wr.cell? ⟨b, o + (k * 7 + 3), none⟩ = some (.int .i64 x.packet.dest) := (hb.cell (p := ⟨b, o + (k * 7 + 3), none⟩) hbl).trans (hcell _ _ ((flat_get encTimed 7 encTimed_len xs k 3 x hx (by omega)).trans rfl))
      have c4 : wr.cell? ⟨b, o + (k * 7 + 4), none⟩ = some (.int .i64 x.packet.port) := (hb.cell (p := ⟨b, o + (k * 7 + 4), none⟩) hbl).trans (hcell _ _ ((flat_get encTimed 7 encTimed_len xs k 4 x hx (by omega)).trans rfl))
      have c5 : wr.cell? ⟨b, o + (k * 7 + 5), none⟩ = some (.int .i64 x.packet.mark) := (hb.cell (p := ⟨b, o + (k * 7 + 5), none⟩) hbl).trans (hcell _ _ ((flat_get encTimed 7 encTimed_len xs k 5 x hx (by omega)).trans rfl))
      have c6 : wr.cell? ⟨b, o + (k * 7 + 6), none⟩ = some (.int .i64 x.packet.size) := (hb.cell (p := ⟨b, o + (k * 7 + 6), none⟩) hbl).trans (hcell _ _ ((flat_get encTimed 7 encTimed_len xs k 6 x hx (by omega)).trans rfl))
      simp only [Nat.add_zero, ← Nat.add_assoc] at c0 c1 c2 c3 c4 c5 c6
      have d0 : wr.cell? ⟨b2, o2 + (k * 7 + 0), none⟩ = some (.int .i64 x.tick) := (hb.cell (p := ⟨b2, o2 + (k * 7 + 0), none⟩) hbl2).trans (hcell2 _ _ ((flat_get encTimed 7 encTimed_len xs k 0 x hx (by omega)).trans rfl))
      have d1 : wr.cell? ⟨b2, o2 + (k * 7 + 1), none⟩ = some (.int .i64 x.packet.id) := (hb.cell (p := ⟨b2, o2 + (k * 7 + 1), none⟩) hbl2).trans (hcell2 _ _ ((flat_get encTimed 7 encTimed_len xs k 1 x hx (by omega)).trans rfl))
      have d2 : wr.cell? ⟨b2, o2 + (k * 7 + 2), none⟩ = some (.int .i64 x.packet.source) := (hb.cell (p := ⟨b2, o2 + (k * 7 + 2), none⟩) hbl2).trans (hcell2 _ _ ((flat_get encTimed 7 encTimed_len xs k 2 x hx (by omega)).trans rfl))
      have d3 : wr.cell? ⟨b2, o2 + (k * 7 + 3), none⟩ = some (.int .i64 x.packet.dest) := (hb.cell (p := ⟨b2, o2 + (k * 7 + 3), none⟩) hbl2).trans (hcell2 _ _ ((flat_get encTimed 7 encTimed_len xs k 3 x hx (by omega)).trans rfl))
      have d4 : wr.cell? ⟨b2, o2 + (k * 7 + 4), none⟩ = some (.int .i64 x.packet.port) := (hb.cell (p := ⟨b2, o2 + (k * 7 + 4), none⟩) hbl2).trans (hcell2 _ _ ((flat_get encTimed 7 encTimed_len xs k 4 x hx (by omega)).trans rfl))
      have d5 : wr.cell? ⟨b2, o2 + (k * 7 + 5), none⟩ = some (.int .i64 x.packet.mark) := (hb.cell (p := ⟨b2, o2 + (k * 7 + 5), none⟩) hbl2).trans (hcell2 _ _ ((flat_get encTimed 7 encTimed_len xs k 5 x hx (by omega)).trans rfl))
      have d6 : wr.cell? ⟨b2, o2 + (k * 7 + 6), none⟩ = some (.int .i64 x.packet.size) := (hb.cell (p := ⟨b2, o2 + (k * 7 + 6), none⟩) hbl2).trans (hcell2 _ _ ((flat_get encTimed 7 encTimed_len xs k 6 x hx (by omega)).trans rfl))
      simp only [Nat.add_zero, ← Nat.add_assoc] at d0 d1 d2 d3 d4 d5 d6
      clear hx hcell hcell2
      go_wp2_with fail
      go_still_tail 8, (by kernel_rfl)
      change wpList _ _ _ _ _ wr.drew
      go_wp2_with fail
      refine (eqTimed_same _ _ _ _ _ _ _ _ ).mono ?_
      rintro e w1 ⟨rfl, hb1⟩
      go_wp2_with fail
      go_roundw
      case rel => exact ⟨k + 1, by omega, by go_num, ext_trans hb.drew hb1⟩
      case measure => simp [intOf]; omega
    · go_wp2_with fail
      go_ret
      exact ⟨rfl, hb⟩

set_option maxRecDepth 100000 in
set_option maxHeartbeats 1000000 in
theorem markTimedS_blk (g n c : Nat) (cs0 : List Value) (k0 : Int) (w : World) (hn : n ≤ 1048576) (hk0 : 0 ≤ k0) (hk1 : k0 ≤ 1000000000000) (hB0 : Blk w g 58 cs0) (hl0 : n * 7 ≤ cs0.length) :
    Calls Try.prog 32 #[.slice (some ⟨g, 0, none⟩) n c, .int .i64 k0] w fun e w' => ∃ kk, e = .returned kk ∧ MarkRel w g 58 n 7 cs0 k0 kk (.int .i64 n) w' := by
  go_enter Try.func32, Try.ntmps32
  go_wp2_with fail
  go_loopw [1, 5] (MarkRel w g 58 n 7 cs0 k0) (fun _ i _ => n - (intOf i).toNat)
  case atStart => exact markRel_start hB0
  case round =>
    obtain ⟨k, hk, rfl, rfl, hg, cs, hB, hl, hcs⟩ := hrel
    by_cases hlt : k < n
    · have HC := Lib.hid hcs
      have hl' : cs.length = cs0.length := hl
      obtain ⟨y0, q0⟩ : ∃ y, wr.cell? ⟨g, k * 7, none⟩ = some y := ⟨cs[k * 7]'(by omega), by rw [hB.cell, List.getElem?_eq_getElem (by omega)]⟩
      have f0 := hB.frozen (k * 7)
      obtain ⟨y1, q1⟩ : ∃ y, wr.cell? ⟨g, k * 7 + 1, none⟩ = some y := ⟨cs[k * 7 + 1]'(by omega), by rw [hB.cell, List.getElem?_eq_getElem (by omega)]⟩
      have f1 := hB.frozen (k * 7 + 1)
      obtain ⟨y2, q2⟩ : ∃ y, wr.cell? ⟨g, k * 7 + 2, none⟩ = some y := ⟨cs[k * 7 + 2]'(by omega), by rw [hB.cell, List.getElem?_eq_getElem (by omega)]⟩
      have f2 := hB.frozen (k * 7 + 2)
      obtain ⟨y3, q3⟩ : ∃ y, wr.cell? ⟨g, k * 7 + 3, none⟩ = some y := ⟨cs[k * 7 + 3]'(by omega), by rw [hB.cell, List.getElem?_eq_getElem (by omega)]⟩
      have f3 := hB.frozen (k * 7 + 3)
      obtain ⟨y4, q4⟩ : ∃ y, wr.cell? ⟨g, k * 7 + 4, none⟩ = some y := ⟨cs[k * 7 + 4]'(by omega), by rw [hB.cell, List.getElem?_eq_getElem (by omega)]⟩
      have f4 := hB.frozen (k * 7 + 4)
      obtain ⟨y5, q5⟩ : ∃ y, wr.cell? ⟨g, k * 7 + 5, none⟩ = some y := ⟨cs[k * 7 + 5]'(by omega), by rw [hB.cell, List.getElem?_eq_getElem (by omega)]⟩
      have f5 := hB.frozen (k * 7 + 5)
      obtain ⟨y6, q6⟩ : ∃ y, wr.cell? ⟨g, k * 7 + 6, none⟩ = some y := ⟨cs[k * 7 + 6]'(by omega), by rw [hB.cell, List.getElem?_eq_getElem (by omega)]⟩
      have f6 := hB.frozen (k * 7 + 6)
      have HL := Lib.hid hl
      clear hcs hl hl'
      go_wp2_with fail
      go_roundw
      case rel => exact markRel_step hlt (by omega) HL.out HC.out (by simpa [SetRow, marks, List.range_succ, Int.add_assoc] using (((((((hB.set_ _ _).set_ _ _).set_ _ _).set_ _ _).set_ _ _).set_ _ _).set_ _ _)) (grownBy_setCell (grownBy_setCell (grownBy_setCell (grownBy_setCell (grownBy_setCell (grownBy_setCell (grownBy_setCell hg _ _) _ _) _ _) _ _) _ _) _ _) _ _) (by simp <;> omega)
      case measure => simp [intOf]; omega
    · go_wp2_with fail
      go_ret
      obtain rfl : k = n := by omega
      exact ⟨_, rfl, k, Nat.le_refl _, rfl, rfl, hg, cs, hB, hl, hcs⟩

set_option maxRecDepth 100000 in
set_option maxHeartbeats 1000000 in
theorem markTimedS_own (A : Option Addr) (n c base : Nat) (xs : List Value) (k0 : Int) (w : World) (hn : n ≤ 1048576) (hk0 : 0 ≤ k0) (hk1 : k0 ≤ 1000000000000) (hown : w.ownsRow base 58 7 (.slice A n c) n xs) :
    Calls Try.prog 32 #[.slice A n c, .int .i64 k0] w fun e w' => e = .returned (.int .i64 (k0 + (n : Int) * 7)) ∧ w'.ownsRow base 58 7 (.slice A n c) n (marks k0 (n * 7)) ∧ w.grownBy w' (Value.ownBlock (.slice A n c)) := by
  by_cases hn0 : 0 < n
  · obtain ⟨g, cs, rfl, hbg, hB, hl, hnc, hcm, htake⟩ := own_blk hown hn0
    have hle : n * 7 ≤ c * 7 := Nat.mul_le_mul_right _ hnc
    refine (markTimedS_blk g n c cs k0 w hn hk0 hk1 hB (by omega)).mono ?_
    rintro e w' ⟨kk, rfl, k, hk, he, rfl, hg, cs', hB', hl', hcs'⟩
    obtain rfl : n = k := by simp at he; omega
    exact ⟨rfl, own_marked rfl hl hnc hcm hbg hB' hl' hcs', hg⟩
  · obtain rfl : n = 0 := by omega
    have hx : xs = [] := List.eq_nil_of_length_eq_zero (by simpa using hown.1)
    subst hx
    go_enter Try.func32, Try.ntmps32
    go_wp2_with fail
    go_loopw [1, 5] (fun kk i wr => kk = .int .i64 k0 ∧ i = .int .i64 0 ∧ w = wr) (fun _ _ _ => 0)
    case atStart => exact ⟨rfl, rfl, rfl⟩
    case round =>
      obtain ⟨rfl, rfl, rfl⟩ := hrel
      go_wp2_with fail
      go_ret
      exact ⟨by simp, hown, World.grownBy.refl _ _⟩

set_option maxRecDepth 100000 in
set_option maxHeartbeats 1000000 in
theorem heldTimedS_any (A : Option Addr) (n c : Nat) (k0 : Int) (w : World) (hn : n ≤ 1048576) (hk0 : 0 ≤ k0) (hk1 : k0 ≤ 1000000000000) (hr : Rd w 7 A n (marks k0 (n * 7))) :
    Calls Try.prog 33 #[.slice A n c, .int .i64 k0] w fun e w' => e = .returned (.int .i64 (k0 + (n : Int) * 7)) ∧ w = w' := by
  go_enter Try.func33, Try.ntmps33
  go_wp2_with fail
  go_loop [1, 5] (HeldRel n 7 k0) (fun _ i => n - (intOf i).toNat)
  case atStart => exact ⟨0, Nat.zero_le _, rfl, by simp⟩
  case round =>
    obtain ⟨k, hk, rfl, rfl⟩ := hrel
    by_cases hlt : k < n
    · obtain ⟨b, o, rfl, hbl, hcell⟩ := hr.2 (by omega)
      have c0 : w.cell? ⟨b, o + k * 7, none⟩ = some (.int .i64 (k0 + (k : Int) * 7)) := by have h := hcell (k * 7 + 0) _ (marks_get k0 (n * 7) (k * 7 + 0) (by omega)); simpa [Int.add_assoc, Nat.add_assoc] using h
      have c1 : w.cell? ⟨b, o + k * 7 + 1, none⟩ = some (.int .i64 (k0 + (k : Int) * 7 + 1)) := by have h := hcell (k * 7 + 1) _ (marks_get k0 (n * 7) (k * 7 + 1) (by omega)); simpa [Int.add_assoc, Nat.add_assoc] using h
      have c2 : w.cell? ⟨b, o + k * 7 + 2, none⟩ = some (.int .i64 (k0 + (k : Int) * 7 + 2)) := by have h := hcell (k * 7 + 2) _ (marks_get k0 (n * 7) (k * 7 + 2) (by omega)); simpa [Int.add_assoc, Nat.add_assoc] using h
      have c3 : w.cell? ⟨b, o + k * 7 + 3, none⟩ = some (.int .i64 (k0 + (k : Int) * 7 + 3)) := by have h := hcell (k * 7 + 3) _ (marks_get k0 (n * 7) (k * 7 + 3) (by omega)); simpa [Int.add_assoc, Nat.add_assoc] using h
      have c4 : w.cell? ⟨b, o + k * 7 + 4, none⟩ = some (.int .i64 (k0 + (k : Int) * 7 + 4)) := by have h := hcell (k * 7 + 4) _ (marks_get k0 (n * 7) (k * 7 + 4) (by omega)); simpa [Int.add_assoc, Nat.add_assoc] using h
      have c5 : w.cell? ⟨b, o + k * 7 + 5, none⟩ = some (.int .i64 (k0 + (k : Int) * 7 + 5)) := by have h := hcell (k * 7 + 5) _ (marks_get k0 (n * 7) (k * 7 + 5) (by omega)); simpa [Int.add_assoc, Nat.add_assoc] using h
      have c6 : w.cell? ⟨b, o + k * 7 + 6, none⟩ = some (.int .i64 (k0 + (k : Int) * 7 + 6)) := by have h := hcell (k * 7 + 6) _ (marks_get k0 (n * 7) (k * 7 + 6) (by omega)); simpa [Int.add_assoc, Nat.add_assoc] using h
      clear hcell
      go_wp2_with fail
      go_round
      case rel => exact ⟨k + 1, by omega, by go_num, by simp <;> omega⟩
      case measure => simp [intOf]; omega
    · go_wp2_with fail
      go_ret
      obtain rfl : k = n := by omega
      exact ⟨by simp, rfl⟩

theorem openIntS {H : Type} {enc : TypeId × Value → H} {W : World} {base b0 : Nat} {sp : Nat → Bool} {hd : Bool} {r : Reach} {v : Value} {d : DataW H} {q : List MemPlace} (hv : Value.okWide Try.prog W r b0 28 v) (h : DataW.Trod enc Try.prog W base sp hd 28 v d q) :
    ∃ (A : Option Addr) (n c : Nat) (xs : List Int), v = .slice A n c ∧ n ≤ 9223372036854775807 ∧ Rd W 1 A n (xs.flatMap encInt) :=
  open_rows encInt 1 (by omega) encInt_len (fun f => ⟨f 0, fun j hj => by rcases j with _ | j <;> first | rfl | omega⟩) Try.underlying28 (by kernel_rfl) (by kernel_rfl) hv h

theorem infoInt : (Try.prog.info? 3).map (fun i => (i.zero, i.size, i.bytes)) = some (some (.int .i64 0), 1, 8) := by kernel_rfl
set_option maxRecDepth 100000 in
set_option maxHeartbeats 1000000 in
theorem toIntS_any (A : Option Addr) (n c : Nat) (xs : List Int) (w : World) (hn : n ≤ 1048576) (hr : Rd w 1 A n (xs.map (Value.int .i64))) :
    Calls Try.prog 17 #[.slice A n c] w fun e w' => ∃ g, e = .returned (.slice (some ⟨g, 0, none⟩) n n) ∧ w'.ownsRow w.heap.size 3 1 (.slice (some ⟨g, 0, none⟩) n n) n (xs.map (Value.int .i64)) ∧ Below w.heap.size w w' := by
  rw [← map_flat] at hr ⊢
  obtain ⟨i0, hi, hz0, hz1, hz2⟩ := info_parts infoInt
  have hmk := fun W => run_make (P := Try.prog) W 28 3 i0 _ Try.underlying28 hi hz0 .i64 .i64 (n : Int) (n : Int) (by omega) (by omega) (by rw [hz2]; omega) (by omega)
  rw [hz1] at hmk
  go_enter Try.func17, Try.ntmps17
  go_wp2_with fail
  clear hmk
  go_loopw [4] (ToRel w w.heap.size 3 n 1 (xs.flatMap encInt)) (fun i _ => n - (intOf i).toNat)
  case atStart => exact toRel_start1
  case round =>
    obtain ⟨k, hk, rfl, cs, hB, hl, hcs, hb⟩ := hrel
    by_cases hlt : k < n
    · obtain ⟨b, o, rfl, hbl, hcell⟩ := hr.2 (by omega)
      have hlx : k < xs.length := by have h1 := hr.1; rw [flat_len encInt 1 encInt_len] at h1; omega
      have hx : xs[k]? = some xs[k] := List.getElem?_eq_getElem hlx
      generalize xs[k] = x at hx
      have c0 : wr.cell? ⟨b, o + k, none⟩ = some (.int .i64 x) := (hb.cell (p := ⟨b, o + k, none⟩) hbl).trans (hcell _ _ (int_get xs k x hx))
      have HX := Lib.hid hx
      have HC := Lib.hid hcs
      have q0 : wr.cell? ⟨w.heap.size, k, none⟩ = some (cs[k]'(by omega)) := by rw [hB.cell, List.getElem?_eq_getElem (by omega)]
      have f0 := hB.frozen k
      clear hx hcell hcs
      go_wp2_with fail
      try (go_region; try go_wp2_with fail)
      go_roundw
      case rel => exact toRel_step1 HX.out hlt hl HC.out (hB.set_ _ _) (hb.setCell (Nat.le_refl _) _)
      case measure => simp [intOf]; omega
    · go_wp2_with fail
      go_ret
      exact ⟨_, rfl, own_of_blk (toRel_done (by omega) hB hl hr.1 hcs) hr.1 hn (Nat.le_refl _), hb⟩

set_option maxRecDepth 100000 in
set_option maxHeartbeats 1000000 in
theorem eqIntS_same (A B : Option Addr) (n c d : Nat) (xs : List Int) (w : World) (hn : n ≤ 1048576) (hr : Rd w 1 A n (xs.map (Value.int .i64))) (hr2 : Rd w 1 B n (xs.map (Value.int .i64))) :
    Calls Try.prog 19 #[.slice A n c, .slice B n d] w fun e w' => e = .returned (.bool true) ∧ Below w.heap.size w w' := by
  go_enter Try.func19, Try.ntmps19
  go_wp2_with fail
  go_loopw [5] (EqRel w n) (fun i _ => n - (intOf i).toNat)
  case atStart => exact ⟨0, Nat.zero_le _, rfl, ext_refl w⟩
  case round =>
    obtain ⟨k, hk, rfl, hb⟩ := hrel
    by_cases hlt : k < n
    · obtain ⟨b, o, x, rfl, hbl, hx, hcell⟩ := hr.int k hlt
      obtain ⟨b2, o2, x2, rfl, hbl2, hx2, hcell2⟩ := hr2.int k hlt
      rw [hx] at hx2
      obtain rfl := Option.some.inj hx2
      have c0 : wr.cell? ⟨b, o + k, none⟩ = some (.int .i64 x) := (hb.cell (p := ⟨b, o + k, none⟩) hbl).trans hcell
      have d0 : wr.cell? ⟨b2, o2 + k, none⟩ = some (.int .i64 x) := (hb.cell (p := ⟨b2, o2 + k, none⟩) hbl2).trans hcell2
      clear hx hx2 hcell hcell2
      go_wp2_with fail
      go_quiet (fail)
      go_wp2_with fail
      go_roundw
      case rel => exact ⟨k + 1, by omega, by go_num, ext_drewN hb _⟩
      case measure => simp [intOf]; omega
    · go_wp2_with fail
      go_ret
      exact ⟨rfl, hb⟩

set_option maxRecDepth 100000 in
set_option maxHeartbeats 1000000 in
theorem markIntS_blk (g n c : Nat) (cs0 : List Value) (k0 : Int) (w : World) (hn : n ≤ 1048576) (hk0 : 0 ≤ k0) (hk1 : k0 ≤ 1000000000000) (hB0 : Blk w g 3 cs0) (hl0 : n * 1 ≤ cs0.length) :
    Calls Try.prog 36 #[.slice (some ⟨g, 0, none⟩) n c, .int .i64 k0] w fun e w' => ∃ kk, e = .returned kk ∧ MarkRel w g 3 n 1 cs0 k0 kk (.int .i64 n) w' := by
  go_enter Try.func36, Try.ntmps36
  go_wp2_with fail
  go_loopw [1, 5] (MarkRel w g 3 n 1 cs0 k0) (fun _ i _ => n - (intOf i).toNat)
  case atStart => exact markRel_start hB0
  case round =>
    obtain ⟨k, hk, rfl, rfl, hg, cs, hB, hl, hcs⟩ := hrel
    by_cases hlt : k < n
    · have HC := Lib.hid hcs
      have hl' : cs.length = cs0.length := hl
      obtain ⟨y0, q0⟩ : ∃ y, wr.cell? ⟨g, k, none⟩ = some y := ⟨cs[k]'(by omega), by rw [hB.cell, List.getElem?_eq_getElem (by omega)]⟩
      have f0 := hB.frozen (k)
      have HL := Lib.hid hl
      clear hcs hl hl'
      go_wp2_with fail
      go_roundw
      case rel => exact markRel_step1 hlt (by omega) HL.out HC.out (hB.set_ _ _) (by simp) (grownBy_setCell hg _ _) (by simp <;> omega)
      case measure => simp [intOf]; omega
    · go_wp2_with fail
      go_ret
      obtain rfl : k = n := by omega
      exact ⟨_, rfl, k, Nat.le_refl _, rfl, rfl, hg, cs, hB, hl, hcs⟩

set_option maxRecDepth 100000 in
set_option maxHeartbeats 1000000 in
theorem markIntS_own (A : Option Addr) (n c base : Nat) (xs : List Value) (k0 : Int) (w : World) (hn : n ≤ 1048576) (hk0 : 0 ≤ k0) (hk1 : k0 ≤ 1000000000000) (hown : w.ownsRow base 3 1 (.slice A n c) n xs) :
    Calls Try.prog 36 #[.slice A n c, .int .i64 k0] w fun e w' => e = .returned (.int .i64 (k0 + (n : Int) * 1)) ∧ w'.ownsRow base 3 1 (.slice A n c) n (marks k0 (n * 1)) ∧ w.grownBy w' (Value.ownBlock (.slice A n c)) := by
  by_cases hn0 : 0 < n
  · obtain ⟨g, cs, rfl, hbg, hB, hl, hnc, hcm, htake⟩ := own_blk hown hn0
    have hle : n * 1 ≤ c * 1 := Nat.mul_le_mul_right _ hnc
    refine (markIntS_blk g n c cs k0 w hn hk0 hk1 hB (by omega)).mono ?_
    rintro e w' ⟨kk, rfl, k, hk, he, rfl, hg, cs', hB', hl', hcs'⟩
    obtain rfl : n = k := by simp at he; omega
    exact ⟨rfl, own_marked rfl hl hnc hcm hbg hB' hl' hcs', hg⟩
  · obtain rfl : n = 0 := by omega
    have hx : xs = [] := List.eq_nil_of_length_eq_zero (by simpa using hown.1)
    subst hx
    go_enter Try.func36, Try.ntmps36
    go_wp2_with fail
    go_loopw [1, 5] (fun kk i wr => kk = .int .i64 k0 ∧ i = .int .i64 0 ∧ w = wr) (fun _ _ _ => 0)
    case atStart => exact ⟨rfl, rfl, rfl⟩
    case round =>
      obtain ⟨rfl, rfl, rfl⟩ := hrel
      go_wp2_with fail
      go_ret
      exact ⟨by simp, hown, World.grownBy.refl _ _⟩

set_option maxRecDepth 100000 in
set_option maxHeartbeats 1000000 in
theorem heldIntS_any (A : Option Addr) (n c : Nat) (k0 : Int) (w : World) (hn : n ≤ 1048576) (hk0 : 0 ≤ k0) (hk1 : k0 ≤ 1000000000000) (hr : Rd w 1 A n (marks k0 (n * 1))) :
    Calls Try.prog 37 #[.slice A n c, .int .i64 k0] w fun e w' => e = .returned (.int .i64 (k0 + (n : Int) * 1)) ∧ w = w' := by
  go_enter Try.func37, Try.ntmps37
  go_wp2_with fail
  go_loop [1, 5] (HeldRel n 1 k0) (fun _ i => n - (intOf i).toNat)
  case atStart => exact ⟨0, Nat.zero_le _, rfl, by simp⟩
  case round =>
    obtain ⟨k, hk, rfl, rfl⟩ := hrel
    by_cases hlt : k < n
    · obtain ⟨b, o, rfl, hbl, hcell⟩ := hr.2 (by omega)
      have c0 : w.cell? ⟨b, o + k, none⟩ = some (.int .i64 (k0 + (k : Int))) := by have h := hcell k _ (marks_get k0 (n * 1) k (by omega)); simpa using h
      clear hcell
      go_wp2_with fail
      go_round
      case rel => exact ⟨k + 1, by omega, by go_num, by simp <;> omega⟩
      case measure => simp [intOf]; omega
    · go_wp2_with fail
      go_ret
      obtain rfl : k = n := by omega
      exact ⟨by simp, rfl⟩

def inB (n a b : Int) : Bool := decide (a ≤ n) && decide (n ≤ b)
theorem inB_iff {n a b : Int} : inB n a b = true ↔ a ≤ n ∧ n ≤ b := by simp [inB]
theorem inB_not {n a b : Int} (h : inB n a b = false) : n < a ∨ b < n := by
  rcases Int.lt_or_le n a with h1 | h1
  · exact .inl h1
  · rcases Int.lt_or_le b n with h2 | h2
    · exact .inr h2
    · rw [inB_iff.2 ⟨h1, h2⟩] at h; cases h
theorem mul_bd {a b A B : Int} (h1 : 0 ≤ a) (h2 : a ≤ A) (h3 : 0 ≤ b) (h4 : b ≤ B) : 0 ≤ a * b ∧ a * b ≤ A * B :=
  ⟨Int.mul_nonneg h1 h3, Int.mul_le_mul h2 h4 h3 (by omega)⟩

set_option maxHeartbeats 400000 in
theorem l1In_any (n a b : Int) (w : World) :
    Calls Try.prog 55 #[.int .i64 n, .int .i64 a, .int .i64 b] w fun e w' => e = .returned (.bool (inB n a b)) ∧ w = w' := by
  go_enter Try.func55, Try.ntmps55
  go_wp2
  all_goals (go_ret; simp [inB, *] <;> omega)

set_option maxHeartbeats 400000 in
theorem l1Most_any (a b : Int) (w : World) :
    Calls Try.prog 75 #[.int .i64 a, .int .i64 b] w fun e w' => e = .returned (.int .i64 (max a b)) ∧ w = w' := by
  by_cases h : b < a
  · go_enter Try.func75, Try.ntmps75
    go_wp2
    go_ret
    rw [Int.max_eq_left (by omega)]
    simp
  · go_enter Try.func75, Try.ntmps75
    go_wp2
    go_ret
    rw [Int.max_eq_right (by omega)]
    simp

set_option maxHeartbeats 400000 in
theorem l1Least_any (a b : Int) (w : World) :
    Calls Try.prog 78 #[.int .i64 a, .int .i64 b] w fun e w' => e = .returned (.int .i64 (min a b)) ∧ w = w' := by
  by_cases h : a < b
  · go_enter Try.func78, Try.ntmps78
    go_wp2
    go_ret
    rw [Int.min_eq_left (by omega)]
    simp
  · go_enter Try.func78, Try.ntmps78
    go_wp2
    go_ret
    rw [Int.min_eq_right (by omega)]
    simp

def AllRel (n : Nat) (xs : List Int) (lo hi : Int) (i : Value) : Prop := ∃ k : Nat, k ≤ n ∧ i = .int .i64 k ∧ (xs.take k).all (fun x => inB x lo hi) = true
theorem take_snoc {α : Type} {xs : List α} {k : Nat} {x : α} (h : xs[k]? = some x) : xs.take (k + 1) = xs.take k ++ [x] := by rw [List.take_add_one, h]; rfl
theorem all_false {α : Type} {xs : List α} {k : Nat} {x : α} {f : α → Bool} (h : xs[k]? = some x) (hf : f x = false) : xs.all f = false := by
  rw [List.all_eq_false]
  exact ⟨x, List.mem_of_getElem? h, by simp [hf]⟩
set_option maxHeartbeats 400000 in
theorem l1All_any (A : Option Addr) (n c : Nat) (xs : List Int) (lo hi : Int) (w : World) (hn : n ≤ 1048576) (hr : Rd w 1 A n (xs.map (Value.int .i64))) :
    Calls Try.prog 76 #[.slice A n c, .int .i64 lo, .int .i64 hi] w fun e w' => e = .returned (.bool (xs.all fun x => inB x lo hi)) ∧ w = w' := by
  go_enter Try.func76, Try.ntmps76
  go_wp2_with fail
  go_loop [11] (AllRel n xs lo hi) (fun i => n - (intOf i).toNat)
  case atStart => exact ⟨0, Nat.zero_le _, rfl, by simp⟩
  case round =>
    obtain ⟨k, hk, rfl, ha⟩ := hrel
    by_cases hlt : k < n
    · obtain ⟨b, o, x, rfl, hbl, hx, hc⟩ := hr.int k hlt
      have HX := Lib.hid hx
      have HA := Lib.hid ha
      clear hx ha
      cases hin : inB x lo hi with
      | false =>
        go_wp2_with (go_at_call 55; refine (l1In_any _ _ _ _).mono ?_; rintro e w' ⟨rfl, rfl⟩)
        go_ret
        exact ⟨by rw [all_false HX.out hin]; rfl, rfl⟩
      | true =>
        go_wp2_with (go_at_call 55; refine (l1In_any _ _ _ _).mono ?_; rintro e w' ⟨rfl, rfl⟩)
        go_round
        case rel => exact ⟨k + 1, by omega, by go_num, by rw [take_snoc HX.out, List.all_append, HA.out]; simp [hin]⟩
        case measure => simp [intOf]; omega
    · have hl := hr.len1
      have HA := Lib.hid ha
      clear ha
      go_wp2_with fail
      go_ret
      have h2 := HA.out
      rw [List.take_of_length_le (by omega)] at h2
      exact ⟨by rw [h2]; rfl, rfl⟩

end Go.Proofs.Ytnnihiajggdplaa
