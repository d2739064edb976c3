/- Contracts of the laws' own helpers: copiers, comparers (at equal arguments), counters, markers. Each says what the call returns and that nothing that was there has changed (markers: but the marked row). -/
import Derived.Test.YtooodokpkmfbiaaBase
import Derived.StillTailTactics
import Derived.Deep.QuietTactic
import Derived.BigQuiet
namespace Go.Proofs.Ytooodokpkmfbiaa
open Go.RowKit
structure Event where
  (tick kind cls packet size : Int)
def encEvent (x : Event) : List Value := [.int .i64 x.tick, .int .i64 x.kind, .int .i64 x.cls, .int .i64 x.packet, .int .i64 x.size]
theorem encEvent_len (x : Event) : (encEvent x).length = 5 := rfl

set_option maxRecDepth 100000 in
set_option maxHeartbeats 1000000 in
theorem toEvent_any (x0 x1 x2 x3 x4 : Int) (w : World) :
    Calls Try.prog 23 #[.agg #[.int .i64 x0, .int .i64 x1, .int .i64 x2, .int .i64 x3, .int .i64 x4]] w fun e w' => e = .returned (.agg #[.int .i64 x0, .int .i64 x1, .int .i64 x2, .int .i64 x3, .int .i64 x4]) ∧ Below w.heap.size w w' := by
  go_enter Try.func23, Try.ntmps23
  go_wp2
  refine bodyPost_ret (v := .agg #[.int .i64 x0, .int .i64 x1, .int .i64 x2, .int .i64 x3, .int .i64 x4]) (by simp [results, Try.results23, go_sem]) rfl ⟨rfl, ?_⟩
  exact ext_alloc (ext_alloc (ext_alloc (ext_refl w) _) _) _

theorem openEvent {W : World} {r : Reach} {b : Nat} {v : Value} (h : Value.okWide Try.prog W r b 41 v) : ∃ x0 x1 x2 x3 x4 : Int, v = .agg #[.int .i64 x0, .int .i64 x1, .int .i64 x2, .int .i64 x3, .int .i64 x4] := by
  obtain ⟨cs0, rfl, hl0, hc0⟩ := okWide_cells Try.underlying41 (ts := [3, 3, 3, 3, 3]) (by kernel_rfl) (by kernel_rfl) h
  match cs0, hl0 with
  | [a0, a1, a2, a3, a4], _ =>
    obtain ⟨x0, rfl, _⟩ := cell_int Try.underlying3 (hc0 0 3 a0 rfl rfl)
    obtain ⟨x1, rfl, _⟩ := cell_int Try.underlying3 (hc0 1 3 a1 rfl rfl)
    obtain ⟨x2, rfl, _⟩ := cell_int Try.underlying3 (hc0 2 3 a2 rfl rfl)
    obtain ⟨x3, rfl, _⟩ := cell_int Try.underlying3 (hc0 3 3 a3 rfl rfl)
    obtain ⟨x4, rfl, _⟩ := cell_int Try.underlying3 (hc0 4 3 a4 rfl rfl)
    exact ⟨x0, x1, x2, x3, x4, rfl⟩

set_option maxRecDepth 100000 in
set_option maxHeartbeats 1000000 in
theorem eqEvent_same (x0 x1 x2 x3 x4 : Int) (w : World) :
    Calls Try.prog 25 #[.agg #[.int .i64 x0, .int .i64 x1, .int .i64 x2, .int .i64 x3, .int .i64 x4], .agg #[.int .i64 x0, .int .i64 x1, .int .i64 x2, .int .i64 x3, .int .i64 x4]] w fun e w' => e = .returned (.bool true) ∧ Below w.heap.size w w' := by
  go_enter Try.func25, Try.ntmps25
  go_wp2
  go_ret
  exact ⟨rfl, ext_alloc (ext_alloc (ext_refl w) _) _⟩

set_option maxRecDepth 100000 in
set_option maxHeartbeats 1000000 in
theorem szEventS_any (A : Option Addr) (n c : Nat) (left : Int) (w : World) (hn : n ≤ 9223372036854775807) (h1 : 0 ≤ left) (h2 : left ≤ 1048576) :
    Calls Try.prog 7 #[.slice A n c, .int .i64 left] w fun e w' => e = .returned (.int .i64 (if left < (n : Int) then -1 else left - n)) ∧ w = w' := by
  by_cases h : left < (n : Int)
  · go_enter Try.func7, Try.ntmps7
    go_wp2
    go_ret
    simp
  · go_enter Try.func7, Try.ntmps7
    go_wp2
    go_ret
    simp

theorem infoEvent : (Try.prog.info? 39).map (fun i => (i.zero, i.size, i.bytes)) = some (some (.agg #[.int .i64 0, .int .i64 0, .int .i64 0, .int .i64 0, .int .i64 0]), 5, 40) := by kernel_rfl
set_option maxRecDepth 100000 in
set_option maxHeartbeats 1000000 in
theorem toEventS_any (A : Option Addr) (n c : Nat) (xs : List Event) (w : World) (hn : n ≤ 1048576) (hr : Rd w 5 A n (xs.flatMap encEvent)) :
    Calls Try.prog 9 #[.slice A n c] w fun e w' => ∃ g, e = .returned (.slice (some ⟨g, 0, none⟩) n n) ∧ w'.ownsRow w.heap.size 39 5 (.slice (some ⟨g, 0, none⟩) n n) n (xs.flatMap encEvent) ∧ Below w.heap.size w w' := by
  obtain ⟨i0, hi, hz0, hz1, hz2⟩ := info_parts infoEvent
  have hmk := fun W => run_make (P := Try.prog) W 25 39 i0 _ Try.underlying25 hi hz0 .i64 .i64 (n : Int) (n : Int) (by omega) (by omega) (by rw [hz2]; omega) (by omega)
  rw [hz1] at hmk
  go_enter Try.func9, Try.ntmps9
  go_wp2_with fail
  clear hmk
  go_loopw [4] (ToRel w w.heap.size 39 n 5 (xs.flatMap encEvent)) (fun i _ => n - (intOf i).toNat)
  case atStart => exact toRel_start
  case round =>
    obtain ⟨k, hk, rfl, cs, hB, hl, hcs, hb⟩ := hrel
    by_cases hlt : k < n
    · obtain ⟨b, o, rfl, hbl, hcell⟩ := hr.2 (by omega)
      have hlx : k < xs.length := by have h1 := hr.1; rw [flat_len encEvent 5 encEvent_len] at h1; omega
      have hx : xs[k]? = some xs[k] := List.getElem?_eq_getElem hlx
      generalize xs[k] = x at hx
      have c0 : wr.cell? ⟨b, o + (k * 5 + 0), none⟩ = some (.int .i64 x.tick) := (hb.cell (p := ⟨b, o + (k * 5 + 0), none⟩) hbl).trans (hcell _ _ ((flat_get encEvent 5 encEvent_len xs k 0 x hx (by omega)).trans rfl))
      have c1 : wr.cell? ⟨b, o + (k * 5 + 1), none⟩ = some (.int .i64 x.kind) := (hb.cell (p := ⟨b, o + (k * 5 + 1), none⟩) hbl).trans (hcell _ _ ((flat_get encEvent 5 encEvent_len xs k 1 x hx (by omega)).trans rfl))
      have c2 : wr.cell? ⟨b, o + (k * 5 + 2), none⟩ = some (.int .i64 x.cls) := (hb.cell (p := ⟨b, o + (k * 5 + 2), none⟩) hbl).trans (hcell _ _ ((flat_get encEvent 5 encEvent_len xs k 2 x hx (by omega)).trans rfl))
      have c3 : wr.cell? ⟨b, o + (k * 5 + 3), none⟩ = some (.int .i64 x.packet) := (hb.cell (p := ⟨b, o + (k * 5 + 3), none⟩) hbl).trans (hcell _ _ ((flat_get encEvent 5 encEvent_len xs k 3 x hx (by omega)).trans rfl))
      have c4 : wr.cell? ⟨b, o + (k * 5 + 4), none⟩ = some (.int .i64 x.size) := (hb.cell (p := ⟨b, o + (k * 5 + 4), none⟩) hbl).trans (hcell _ _ ((flat_get encEvent 5 encEvent_len xs k 4 x hx (by omega)).trans rfl))
      simp only [Nat.add_zero, ← Nat.add_assoc] at c0 c1 c2 c3 c4
      have HX := Lib.hid hx
      have HC := Lib.hid hcs
      clear hx hcell hcs
      go_wp2_with fail
      refine (toEvent_any _ _ _ _ _ _ ).mono ?_
      rintro e w1 ⟨rfl, hb1⟩
      have hB1 := hB.below hb1
      have q0 : w1.cell? ⟨w.heap.size, k * 5, none⟩ = some (cs[k * 5]'(by omega)) := by rw [hB1.cell, List.getElem?_eq_getElem (by omega)]
      have f0 := hB1.frozen (k * 5)
      have q1 : w1.cell? ⟨w.heap.size, k * 5 + 1, none⟩ = some (cs[k * 5 + 1]'(by omega)) := by rw [hB1.cell, List.getElem?_eq_getElem (by omega)]
      have f1 := hB1.frozen (k * 5 + 1)
      have q2 : w1.cell? ⟨w.heap.size, k * 5 + 2, none⟩ = some (cs[k * 5 + 2]'(by omega)) := by rw [hB1.cell, List.getElem?_eq_getElem (by omega)]
      have f2 := hB1.frozen (k * 5 + 2)
      have q3 : w1.cell? ⟨w.heap.size, k * 5 + 3, none⟩ = some (cs[k * 5 + 3]'(by omega)) := by rw [hB1.cell, List.getElem?_eq_getElem (by omega)]
      have f3 := hB1.frozen (k * 5 + 3)
      have q4 : w1.cell? ⟨w.heap.size, k * 5 + 4, none⟩ = some (cs[k * 5 + 4]'(by omega)) := by rw [hB1.cell, List.getElem?_eq_getElem (by omega)]
      have f4 := hB1.frozen (k * 5 + 4)
      go_wp2_with fail
      go_roundw
      case rel => exact toRel_step encEvent_len HX.out hlt hl HC.out (((((hB1.set_ _ _).set_ _ _).set_ _ _).set_ _ _).set_ _ _) ((((((hb.trans (hb1.mono hb.size)).setCell (Nat.le_refl _) _).setCell (Nat.le_refl _) _).setCell (Nat.le_refl _) _).setCell (Nat.le_refl _) _).setCell (Nat.le_refl _) _)
      case measure => simp [intOf]; omega
    · go_wp2_with fail
      go_ret
      exact ⟨_, rfl, own_of_blk (toRel_done (by omega) hB hl hr.1 hcs) hr.1 hn (Nat.le_refl _), hb⟩

theorem openEventS {H : Type} {enc : TypeId × Value → H} {W : World} {base b0 : Nat} {sp : Nat → Bool} {hd : Bool} {r : Reach} {v : Value} {d : DataW H} {q : List MemPlace} (hv : Value.okWide Try.prog W r b0 22 v) (h : DataW.Trod enc Try.prog W base sp hd 22 v d q) :
    ∃ (A : Option Addr) (n c : Nat) (xs : List Event), v = .slice A n c ∧ n ≤ 9223372036854775807 ∧ Rd W 5 A n (xs.flatMap encEvent) :=
  open_rows encEvent 5 (by omega) encEvent_len (fun f => ⟨⟨f 0, f 1, f 2, f 3, f 4⟩, fun j hj => by rcases j with _ | _ | _ | _ | _ | j <;> first | rfl | omega⟩) Try.underlying22 (by kernel_rfl) (by kernel_rfl) hv h

set_option maxRecDepth 100000 in
set_option maxHeartbeats 1000000 in
theorem eqEventS_same (A B : Option Addr) (n c d : Nat) (xs : List Event) (w : World) (hn : n ≤ 1048576) (hr : Rd w 5 A n (xs.flatMap encEvent)) (hr2 : Rd w 5 B n (xs.flatMap encEvent)) :
    Calls Try.prog 11 #[.slice A n c, .slice B n d] w fun e w' => e = .returned (.bool true) ∧ Below w.heap.size w w' := by
  go_enter Try.func11, Try.ntmps11
  go_wp2_with fail
  go_loopw [5] (EqRel w n) (fun i _ => n - (intOf i).toNat)
  case atStart => exact ⟨0, Nat.zero_le _, rfl, ext_refl w⟩
  case round =>
    obtain ⟨k, hk, rfl, hb⟩ := hrel
    by_cases hlt : k < n
    · obtain ⟨b, o, rfl, hbl, hcell⟩ := hr.2 (by omega)
      obtain ⟨b2, o2, rfl, hbl2, hcell2⟩ := hr2.2 (by omega)
      have hlx : k < xs.length := by have h1 := hr.1; rw [flat_len encEvent 5 encEvent_len] at h1; omega
      have hx : xs[k]? = some xs[k] := List.getElem?_eq_getElem hlx
      generalize xs[k] = x at hx
      have c0 : wr.cell? ⟨b, o + (k * 5 + 0), none⟩ = some (.int .i64 x.tick) := (hb.cell (p := ⟨b, o + (k * 5 + 0), none⟩) hbl).trans (hcell _ _ ((flat_get encEvent 5 encEvent_len xs k 0 x hx (by omega)).trans rfl))
      have c1 : wr.cell? ⟨b, o + (k * 5 + 1), none⟩ = some (.int .i64 x.kind) := (hb.cell (p := ⟨b, o + (k * 5 + 1), none⟩) hbl).trans (hcell _ _ ((flat_get encEvent 5 encEvent_len xs k 1 x hx (by omega)).trans rfl))
      have c2 : wr.cell? ⟨b, o + (k * 5 + 2), none⟩ = some (.int .i64 x.cls) := (hb.cell (p := ⟨b, o + (k * 5 + 2), none⟩) hbl).trans (hcell _ _ ((flat_get encEvent 5 encEvent_len xs k 2 x hx (by omega)).trans rfl))
      have c3 : wr.cell? ⟨b, o + (k * 5 + 3), none⟩ = some (.int .i64 x.packet) := (hb.cell (p := ⟨b, o + (k * 5 + 3), none⟩) hbl).trans (hcell _ _ ((flat_get encEvent 5 encEvent_len xs k 3 x hx (by omega)).trans rfl))
      have c4 : wr.cell? ⟨b, o + (k * 5 + 4), none⟩ = some (.int .i64 x.size) := (hb.cell (p := ⟨b, o + (k * 5 + 4), none⟩) hbl).trans (hcell _ _ ((flat_get encEvent 5 encEvent_len xs k 4 x hx (by omega)).trans rfl))
      simp only [Nat.add_zero, ← Nat.add_assoc] at c0 c1 c2 c3 c4
      have d0 : wr.cell? ⟨b2, o2 + (k * 5 + 0), none⟩ = some (.int .i64 x.tick) := (hb.cell (p := ⟨b2, o2 + (k * 5 + 0), none⟩) hbl2).trans (hcell2 _ _ ((flat_get encEvent 5 encEvent_len xs k 0 x hx (by omega)).trans rfl))
      have d1 : wr.cell? ⟨b2, o2 + (k * 5 + 1), none⟩ = some (.int .i64 x.kind) := (hb.cell (p := ⟨b2, o2 + (k * 5 + 1), none⟩) hbl2).trans (hcell2 _ _ ((flat_get encEvent 5 encEvent_len xs k 1 x hx (by omega)).trans rfl))
      have d2 : wr.cell? ⟨b2, o2 + (k * 5 + 2), none⟩ = some (.int .i64 x.cls) := (hb.cell (p := ⟨b2, o2 + (k * 5 + 2), none⟩) hbl2).trans (hcell2 _ _ ((flat_get encEvent 5 encEvent_len xs k 2 x hx (by omega)).trans rfl))
      have d3 : wr.cell? ⟨b2, o2 + (k * 5 + 3), none⟩ = some (.int .i64 x.packet) := (hb.cell (p := ⟨b2, o2 + (k * 5 + 3), none⟩) hbl2).trans (hcell2 _ _ ((flat_get encEvent 5 encEvent_len xs k 3 x hx (by omega)).trans rfl))
      have d4 : wr.cell? ⟨b2, o2 + (k * 5 + 4), none⟩ = some (.int .i64 x.size) := (hb.cell (p := ⟨b2, o2 + (k * 5 + 4), none⟩) hbl2).trans (hcell2 _ _ ((flat_get encEvent 5 encEvent_len xs k 4 x hx (by omega)).trans rfl))
      simp only [Nat.add_zero, ← Nat.add_assoc] at d0 d1 d2 d3 d4
      clear hx hcell hcell2
      go_wp2_with fail
      go_still_tail 8, (by kernel_rfl)
      change wpList _ _ _ _ _ wr.drew
      go_wp2_with fail
      refine (eqEvent_same _ _ _ _ _ _ ).mono ?_
      rintro e w1 ⟨rfl, hb1⟩
      go_wp2_with fail
      go_roundw
      case rel => exact ⟨k + 1, by omega, by go_num, ext_trans hb.drew hb1⟩
      case measure => simp [intOf]; omega
    · go_wp2_with fail
      go_ret
      exact ⟨rfl, hb⟩

set_option maxRecDepth 100000 in
set_option maxHeartbeats 1000000 in
theorem markEventS_blk (g n c : Nat) (cs0 : List Value) (k0 : Int) (w : World) (hn : n ≤ 1048576) (hk0 : 0 ≤ k0) (hk1 : k0 ≤ 1000000000000) (hB0 : Blk w g 39 cs0) (hl0 : n * 5 ≤ cs0.length) :
    Calls Try.prog 17 #[.slice (some ⟨g, 0, none⟩) n c, .int .i64 k0] w fun e w' => ∃ kk, e = .returned kk ∧ MarkRel w g 39 n 5 cs0 k0 kk (.int .i64 n) w' := by
  go_enter Try.func17, Try.ntmps17
  go_wp2_with fail
  go_loopw [1, 5] (MarkRel w g 39 n 5 cs0 k0) (fun _ i _ => n - (intOf i).toNat)
  case atStart => exact markRel_start hB0
  case round =>
    obtain ⟨k, hk, rfl, rfl, hg, cs, hB, hl, hcs⟩ := hrel
    by_cases hlt : k < n
    · have HC := Lib.hid hcs
      have hl' : cs.length = cs0.length := hl
      obtain ⟨y0, q0⟩ : ∃ y, wr.cell? ⟨g, k * 5, none⟩ = some y := ⟨cs[k * 5]'(by omega), by rw [hB.cell, List.getElem?_eq_getElem (by omega)]⟩
      have f0 := hB.frozen (k * 5)
      obtain ⟨y1, q1⟩ : ∃ y, wr.cell? ⟨g, k * 5 + 1, none⟩ = some y := ⟨cs[k * 5 + 1]'(by omega), by rw [hB.cell, List.getElem?_eq_getElem (by omega)]⟩
      have f1 := hB.frozen (k * 5 + 1)
      obtain ⟨y2, q2⟩ : ∃ y, wr.cell? ⟨g, k * 5 + 2, none⟩ = some y := ⟨cs[k * 5 + 2]'(by omega), by rw [hB.cell, List.getElem?_eq_getElem (by omega)]⟩
      have f2 := hB.frozen (k * 5 + 2)
      obtain ⟨y3, q3⟩ : ∃ y, wr.cell? ⟨g, k * 5 + 3, none⟩ = some y := ⟨cs[k * 5 + 3]'(by omega), by rw [hB.cell, List.getElem?_eq_getElem (by omega)]⟩
      have f3 := hB.frozen (k * 5 + 3)
      obtain ⟨y4, q4⟩ : ∃ y, wr.cell? ⟨g, k * 5 + 4, none⟩ = some y := ⟨cs[k * 5 + 4]'(by omega), by rw [hB.cell, List.getElem?_eq_getElem (by omega)]⟩
      have f4 := hB.frozen (k * 5 + 4)
      have HL := Lib.hid hl
      clear hcs hl hl'
      go_wp2_with fail
      go_roundw
      case rel => exact markRel_step hlt (by omega) HL.out HC.out (by simpa [SetRow, marks, List.range_succ, Int.add_assoc] using (((((hB.set_ _ _).set_ _ _).set_ _ _).set_ _ _).set_ _ _)) (grownBy_setCell (grownBy_setCell (grownBy_setCell (grownBy_setCell (grownBy_setCell hg _ _) _ _) _ _) _ _) _ _) (by simp <;> omega)
      case measure => simp [intOf]; omega
    · go_wp2_with fail
      go_ret
      obtain rfl : k = n := by omega
      exact ⟨_, rfl, k, Nat.le_refl _, rfl, rfl, hg, cs, hB, hl, hcs⟩

set_option maxRecDepth 100000 in
set_option maxHeartbeats 1000000 in
theorem markEventS_own (A : Option Addr) (n c base : Nat) (xs : List Value) (k0 : Int) (w : World) (hn : n ≤ 1048576) (hk0 : 0 ≤ k0) (hk1 : k0 ≤ 1000000000000) (hown : w.ownsRow base 39 5 (.slice A n c) n xs) :
    Calls Try.prog 17 #[.slice A n c, .int .i64 k0] w fun e w' => e = .returned (.int .i64 (k0 + (n : Int) * 5)) ∧ w'.ownsRow base 39 5 (.slice A n c) n (marks k0 (n * 5)) ∧ w.grownBy w' (Value.ownBlock (.slice A n c)) := by
  by_cases hn0 : 0 < n
  · obtain ⟨g, cs, rfl, hbg, hB, hl, hnc, hcm, htake⟩ := own_blk hown hn0
    have hle : n * 5 ≤ c * 5 := Nat.mul_le_mul_right _ hnc
    refine (markEventS_blk g n c cs k0 w hn hk0 hk1 hB (by omega)).mono ?_
    rintro e w' ⟨kk, rfl, k, hk, he, rfl, hg, cs', hB', hl', hcs'⟩
    obtain rfl : n = k := by simp at he; omega
    exact ⟨rfl, own_marked rfl hl hnc hcm hbg hB' hl' hcs', hg⟩
  · obtain rfl : n = 0 := by omega
    have hx : xs = [] := List.eq_nil_of_length_eq_zero (by simpa using hown.1)
    subst hx
    go_enter Try.func17, Try.ntmps17
    go_wp2_with fail
    go_loopw [1, 5] (fun kk i wr => kk = .int .i64 k0 ∧ i = .int .i64 0 ∧ w = wr) (fun _ _ _ => 0)
    case atStart => exact ⟨rfl, rfl, rfl⟩
    case round =>
      obtain ⟨rfl, rfl, rfl⟩ := hrel
      go_wp2_with fail
      go_ret
      exact ⟨by simp, hown, World.grownBy.refl _ _⟩

set_option maxRecDepth 100000 in
set_option maxHeartbeats 1000000 in
theorem eqIntS_same (A B : Option Addr) (n c d : Nat) (xs : List Int) (w : World) (hn : n ≤ 1048576) (hr : Rd w 1 A n (xs.map (Value.int .i64))) (hr2 : Rd w 1 B n (xs.map (Value.int .i64))) :
    Calls Try.prog 16 #[.slice A n c, .slice B n d] w fun e w' => e = .returned (.bool true) ∧ Below w.heap.size w w' := by
  go_enter Try.func16, Try.ntmps16
  go_wp2_with fail
  go_loopw [5] (EqRel w n) (fun i _ => n - (intOf i).toNat)
  case atStart => exact ⟨0, Nat.zero_le _, rfl, ext_refl w⟩
  case round =>
    obtain ⟨k, hk, rfl, hb⟩ := hrel
    by_cases hlt : k < n
    · obtain ⟨b, o, x, rfl, hbl, hx, hcell⟩ := hr.int k hlt
      obtain ⟨b2, o2, x2, rfl, hbl2, hx2, hcell2⟩ := hr2.int k hlt
      rw [hx] at hx2
      obtain rfl := Option.some.inj hx2
      have c0 : wr.cell? ⟨b, o + k, none⟩ = some (.int .i64 x) := (hb.cell (p := ⟨b, o + k, none⟩) hbl).trans hcell
      have d0 : wr.cell? ⟨b2, o2 + k, none⟩ = some (.int .i64 x) := (hb.cell (p := ⟨b2, o2 + k, none⟩) hbl2).trans hcell2
      clear hx hx2 hcell hcell2
      go_wp2_with fail
      go_quiet (fail)
      go_wp2_with fail
      go_roundw
      case rel => exact ⟨k + 1, by omega, by go_num, ext_drewN hb _⟩
      case measure => simp [intOf]; omega
    · go_wp2_with fail
      go_ret
      exact ⟨rfl, hb⟩

set_option maxRecDepth 100000 in
set_option maxHeartbeats 1000000 in
theorem markIntS_blk (g n c : Nat) (cs0 : List Value) (k0 : Int) (w : World) (hn : n ≤ 1048576) (hk0 : 0 ≤ k0) (hk1 : k0 ≤ 1000000000000) (hB0 : Blk w g 3 cs0) (hl0 : n * 1 ≤ cs0.length) :
    Calls Try.prog 18 #[.slice (some ⟨g, 0, none⟩) n c, .int .i64 k0] w fun e w' => ∃ kk, e = .returned kk ∧ MarkRel w g 3 n 1 cs0 k0 kk (.int .i64 n) w' := by
  go_enter Try.func18, Try.ntmps18
  go_wp2_with fail
  go_loopw [1, 5] (MarkRel w g 3 n 1 cs0 k0) (fun _ i _ => n - (intOf i).toNat)
  case atStart => exact markRel_start hB0
  case round =>
    obtain ⟨k, hk, rfl, rfl, hg, cs, hB, hl, hcs⟩ := hrel
    by_cases hlt : k < n
    · have HC := Lib.hid hcs
      have hl' : cs.length = cs0.length := hl
      obtain ⟨y0, q0⟩ : ∃ y, wr.cell? ⟨g, k, none⟩ = some y := ⟨cs[k]'(by omega), by rw [hB.cell, List.getElem?_eq_getElem (by omega)]⟩
      have f0 := hB.frozen (k)
      have HL := Lib.hid hl
      clear hcs hl hl'
      go_wp2_with fail
      go_roundw
      case rel => exact markRel_step1 hlt (by omega) HL.out HC.out (hB.set_ _ _) (by simp) (grownBy_setCell hg _ _) (by simp <;> omega)
      case measure => simp [intOf]; omega
    · go_wp2_with fail
      go_ret
      obtain rfl : k = n := by omega
      exact ⟨_, rfl, k, Nat.le_refl _, rfl, rfl, hg, cs, hB, hl, hcs⟩

set_option maxRecDepth 100000 in
set_option maxHeartbeats 1000000 in
theorem markIntS_own (A : Option Addr) (n c base : Nat) (xs : List Value) (k0 : Int) (w : World) (hn : n ≤ 1048576) (hk0 : 0 ≤ k0) (hk1 : k0 ≤ 1000000000000) (hown : w.ownsRow base 3 1 (.slice A n c) n xs) :
    Calls Try.prog 18 #[.slice A n c, .int .i64 k0] w fun e w' => e = .returned (.int .i64 (k0 + (n : Int) * 1)) ∧ w'.ownsRow base 3 1 (.slice A n c) n (marks k0 (n * 1)) ∧ w.grownBy w' (Value.ownBlock (.slice A n c)) := by
  by_cases hn0 : 0 < n
  · obtain ⟨g, cs, rfl, hbg, hB, hl, hnc, hcm, htake⟩ := own_blk hown hn0
    have hle : n * 1 ≤ c * 1 := Nat.mul_le_mul_right _ hnc
    refine (markIntS_blk g n c cs k0 w hn hk0 hk1 hB (by omega)).mono ?_
    rintro e w' ⟨kk, rfl, k, hk, he, rfl, hg, cs', hB', hl', hcs'⟩
    obtain rfl : n = k := by simp at he; omega
    exact ⟨rfl, own_marked rfl hl hnc hcm hbg hB' hl' hcs', hg⟩
  · obtain rfl : n = 0 := by omega
    have hx : xs = [] := List.eq_nil_of_length_eq_zero (by simpa using hown.1)
    subst hx
    go_enter Try.func18, Try.ntmps18
    go_wp2_with fail
    go_loopw [1, 5] (fun kk i wr => kk = .int .i64 k0 ∧ i = .int .i64 0 ∧ w = wr) (fun _ _ _ => 0)
    case atStart => exact ⟨rfl, rfl, rfl⟩
    case round =>
      obtain ⟨rfl, rfl, rfl⟩ := hrel
      go_wp2_with fail
      go_ret
      exact ⟨by simp, hown, World.grownBy.refl _ _⟩

set_option maxRecDepth 100000 in
set_option maxHeartbeats 1000000 in
theorem heldIntS_any (A : Option Addr) (n c : Nat) (k0 : Int) (w : World) (hn : n ≤ 1048576) (hk0 : 0 ≤ k0) (hk1 : k0 ≤ 1000000000000) (hr : Rd w 1 A n (marks k0 (n * 1))) :
    Calls Try.prog 19 #[.slice A n c, .int .i64 k0] w fun e w' => e = .returned (.int .i64 (k0 + (n : Int) * 1)) ∧ w = w' := by
  go_enter Try.func19, Try.ntmps19
  go_wp2_with fail
  go_loop [1, 5] (HeldRel n 1 k0) (fun _ i => n - (intOf i).toNat)
  case atStart => exact ⟨0, Nat.zero_le _, rfl, by simp⟩
  case round =>
    obtain ⟨k, hk, rfl, rfl⟩ := hrel
    by_cases hlt : k < n
    · obtain ⟨b, o, rfl, hbl, hcell⟩ := hr.2 (by omega)
      have c0 : w.cell? ⟨b, o + k, none⟩ = some (.int .i64 (k0 + (k : Int))) := by have h := hcell k _ (marks_get k0 (n * 1) k (by omega)); simpa using h
      clear hcell
      go_wp2_with fail
      go_round
      case rel => exact ⟨k + 1, by omega, by go_num, by simp <;> omega⟩
      case measure => simp [intOf]; omega
    · go_wp2_with fail
      go_ret
      obtain rfl : k = n := by omega
      exact ⟨by simp, rfl⟩

def inB (n a b : Int) : Bool := decide (a ≤ n) && decide (n ≤ b)
theorem inB_iff {n a b : Int} : inB n a b = true ↔ a ≤ n ∧ n ≤ b := by simp [inB]
theorem inB_not {n a b : Int} (h : inB n a b = false) : n < a ∨ b < n := by
  rcases Int.lt_or_le n a with h1 | h1
  · exact .inl h1
  · rcases Int.lt_or_le b n with h2 | h2
    · exact .inr h2
    · rw [inB_iff.2 ⟨h1, h2⟩] at h; cases h
theorem mul_bd {a b A B : Int} (h1 : 0 ≤ a) (h2 : a ≤ A) (h3 : 0 ≤ b) (h4 : b ≤ B) : 0 ≤ a * b ∧ a * b ≤ A * B :=
  ⟨Int.mul_nonneg h1 h3, Int.mul_le_mul h2 h4 h3 (by omega)⟩

set_option maxHeartbeats 400000 in
theorem l1In_any (n a b : Int) (w : World) :
    Calls Try.prog 27 #[.int .i64 n, .int .i64 a, .int .i64 b] w fun e w' => e = .returned (.bool (inB n a b)) ∧ w = w' := by
  go_enter Try.func27, Try.ntmps27
  go_wp2
  all_goals (go_ret; simp [inB, *] <;> omega)

end Go.Proofs.Ytooodokpkmfbiaa
