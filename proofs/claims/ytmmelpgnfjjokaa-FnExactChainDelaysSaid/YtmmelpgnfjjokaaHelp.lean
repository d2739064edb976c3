/- Contracts of the laws' own helpers: copiers, comparers (at equal arguments), counters, markers. Each says what the call returns and that nothing that was there has changed (markers: but the marked row). -/
import Derived.Test.YtmmelpgnfjjokaaBase
import Derived.StillTailTactics
import Derived.Deep.QuietTactic
import Derived.BigQuiet
namespace Go.Proofs.Ytmmelpgnfjjokaa
open Go.RowKit
structure Inflow where
  (burst rate : Int)
def encInflow (x : Inflow) : List Value := [.int .i64 x.burst, .int .i64 x.rate]
theorem encInflow_len (x : Inflow) : (encInflow x).length = 2 := rfl

set_option maxHeartbeats 1000000 in
theorem toInflow_any (x0 x1 : Int) (w : World) :
    Calls Try.prog 17 #[.agg #[.int .i64 x0, .int .i64 x1]] w fun e w' => e = .returned (.agg #[.int .i64 x0, .int .i64 x1]) ∧ Below w.heap.size w w' := by
  go_enter Try.func17, Try.ntmps17
  go_wp2
  refine bodyPost_ret (v := .agg #[.int .i64 x0, .int .i64 x1]) (by simp [results, Try.results17, go_sem]) rfl ⟨rfl, ?_⟩
  exact ext_alloc (ext_alloc (ext_alloc (ext_refl w) _) _) _

theorem openInflow {W : World} {r : Reach} {b : Nat} {v : Value} (h : Value.okWide Try.prog W r b 23 v) : ∃ x0 x1 : Int, v = .agg #[.int .i64 x0, .int .i64 x1] := by
  obtain ⟨cs0, rfl, hl0, hc0⟩ := okWide_cells Try.underlying23 (ts := [3, 3]) (by kernel_rfl) (by kernel_rfl) h
  match cs0, hl0 with
  | [a0, a1], _ =>
    obtain ⟨x0, rfl, _⟩ := cell_int Try.underlying3 (hc0 0 3 a0 rfl rfl)
    obtain ⟨x1, rfl, _⟩ := cell_int Try.underlying3 (hc0 1 3 a1 rfl rfl)
    exact ⟨x0, x1, rfl⟩

set_option maxHeartbeats 1000000 in
theorem eqInflow_same (x0 x1 : Int) (w : World) :
    Calls Try.prog 33 #[.agg #[.int .i64 x0, .int .i64 x1], .agg #[.int .i64 x0, .int .i64 x1]] w fun e w' => e = .returned (.bool true) ∧ Below w.heap.size w w' := by
  go_enter Try.func33, Try.ntmps33
  go_wp2
  go_ret
  exact ⟨rfl, ext_alloc (ext_alloc (ext_refl w) _) _⟩

set_option maxHeartbeats 1000000 in
theorem szInflowS_any (A : Option Addr) (n c : Nat) (left : Int) (w : World) (hn : n ≤ 9223372036854775807) (h1 : 0 ≤ left) (h2 : left ≤ 1048576) :
    Calls Try.prog 34 #[.slice A n c, .int .i64 left] w fun e w' => e = .returned (.int .i64 (if left < (n : Int) then -1 else left - n)) ∧ w = w' := by
  by_cases h : left < (n : Int)
  · go_enter Try.func34, Try.ntmps34
    go_wp2
    go_ret
    simp
  · go_enter Try.func34, Try.ntmps34
    go_wp2
    go_ret
    simp

theorem infoInflow : (Try.prog.info? 25).map (fun i => (i.zero, i.size, i.bytes)) = some (some (.agg #[.int .i64 0, .int .i64 0]), 2, 16) := by kernel_rfl
set_option maxHeartbeats 1000000 in
theorem toInflowS_any (A : Option Addr) (n c : Nat) (xs : List Inflow) (w : World) (hn : n ≤ 1048576) (hr : Rd w 2 A n (xs.flatMap encInflow)) :
    Calls Try.prog 36 #[.slice A n c] w fun e w' => ∃ g, e = .returned (.slice (some ⟨g, 0, none⟩) n n) ∧ w'.ownsRow w.heap.size 25 2 (.slice (some ⟨g, 0, none⟩) n n) n (xs.flatMap encInflow) ∧ Below w.heap.size w w' := by
  obtain ⟨i0, hi, hz0, hz1, hz2⟩ := info_parts infoInflow
  have hmk := fun W => run_make (P := Try.prog) W 49 25 i0 _ Try.underlying49 hi hz0 .i64 .i64 (n : Int) (n : Int) (by omega) (by omega) (by rw [hz2]; omega) (by omega)
  rw [hz1] at hmk
  go_enter Try.func36, Try.ntmps36
  go_wp2_with fail
  clear hmk
  go_loopw [4] (ToRel w w.heap.size 25 n 2 (xs.flatMap encInflow)) (fun i _ => n - (intOf i).toNat)
  case atStart => exact toRel_start
  case round =>
    obtain ⟨k, hk, rfl, cs, hB, hl, hcs, hb⟩ := hrel
    by_cases hlt : k < n
    · obtain ⟨b, o, rfl, hbl, hcell⟩ := hr.2 (by omega)
      have hlx : k < xs.length := by have h1 := hr.1; rw [flat_len encInflow 2 encInflow_len] at h1; omega
      have hx : xs[k]? = some xs[k] := List.getElem?_eq_getElem hlx
      generalize xs[k] = x at hx
      have c0 : wr.cell? ⟨b, o + (k * 2 + 0), none⟩ = some (.int .i64 x.burst) := (hb.cell (p := ⟨b, o + (k * 2 + 0), none⟩) hbl).trans (hcell _ _ ((flat_get encInflow 2 encInflow_len xs k 0 x hx (by omega)).trans rfl))
      have c1 : wr.cell? ⟨b, o + (k * 2 + 1), none⟩ = some (.int .i64 x.rate) := (hb.cell (p := ⟨b, o + (k * 2 + 1), none⟩) hbl).trans (hcell _ _ ((flat_get encInflow 2 encInflow_len xs k 1 x hx (by omega)).trans rfl))
      simp only [Nat.add_zero, ← Nat.add_assoc] at c0 c1
      have HX := Lib.hid hx
      have HC := Lib.hid hcs
      clear hx hcell hcs
      go_wp2_with fail
      refine (toInflow_any _ _ _ ).mono ?_
      rintro e w1 ⟨rfl, hb1⟩
      have hB1 := hB.below hb1
      have q0 : w1.cell? ⟨w.heap.size, k * 2, none⟩ = some (cs[k * 2]'(by omega)) := by rw [hB1.cell, List.getElem?_eq_getElem (by omega)]
      have f0 := hB1.frozen (k * 2)
      have q1 : w1.cell? ⟨w.heap.size, k * 2 + 1, none⟩ = some (cs[k * 2 + 1]'(by omega)) := by rw [hB1.cell, List.getElem?_eq_getElem (by omega)]
      have f1 := hB1.frozen (k * 2 + 1)
      go_wp2_with fail
      go_roundw
      case rel => exact toRel_step encInflow_len HX.out hlt hl HC.out ((hB1.set_ _ _).set_ _ _) (((hb.trans (hb1.mono hb.size)).setCell (Nat.le_refl _) _).setCell (Nat.le_refl _) _)
      case measure => simp [intOf]; omega
    · go_wp2_with fail
      go_ret
      exact ⟨_, rfl, own_of_blk (toRel_done (by omega) hB hl hr.1 hcs) hr.1 hn (Nat.le_refl _), hb⟩

theorem openInflowS {H : Type} {enc : TypeId × Value → H} {W : World} {base b0 : Nat} {sp : Nat → Bool} {hd : Bool} {r : Reach} {v : Value} {d : DataW H} {q : List MemPlace} (hv : Value.okWide Try.prog W r b0 46 v) (h : DataW.Trod enc Try.prog W base sp hd 46 v d q) :
    ∃ (A : Option Addr) (n c : Nat) (xs : List Inflow), v = .slice A n c ∧ n ≤ 9223372036854775807 ∧ Rd W 2 A n (xs.flatMap encInflow) :=
  open_rows encInflow 2 (by omega) encInflow_len (fun f => ⟨⟨f 0, f 1⟩, fun j hj => by rcases j with _ | _ | j <;> first | rfl | omega⟩) Try.underlying46 (by kernel_rfl) (by kernel_rfl) hv h

set_option maxHeartbeats 1000000 in
theorem eqInflowS_same (A B : Option Addr) (n c d : Nat) (xs : List Inflow) (w : World) (hn : n ≤ 1048576) (hr : Rd w 2 A n (xs.flatMap encInflow)) (hr2 : Rd w 2 B n (xs.flatMap encInflow)) :
    Calls Try.prog 38 #[.slice A n c, .slice B n d] w fun e w' => e = .returned (.bool true) ∧ Below w.heap.size w w' := by
  go_enter Try.func38, Try.ntmps38
  go_wp2_with fail
  go_loopw [5] (EqRel w n) (fun i _ => n - (intOf i).toNat)
  case atStart => exact ⟨0, Nat.zero_le _, rfl, ext_refl w⟩
  case round =>
    obtain ⟨k, hk, rfl, hb⟩ := hrel
    by_cases hlt : k < n
    · obtain ⟨b, o, rfl, hbl, hcell⟩ := hr.2 (by omega)
      obtain ⟨b2, o2, rfl, hbl2, hcell2⟩ := hr2.2 (by omega)
      have hlx : k < xs.length := by have h1 := hr.1; rw [flat_len encInflow 2 encInflow_len] at h1; omega
      have hx : xs[k]? = some xs[k] := List.getElem?_eq_getElem hlx
      generalize xs[k] = x at hx
      have c0 : wr.cell? ⟨b, o + (k * 2 + 0), none⟩ = some (.int .i64 x.burst) := (hb.cell (p := ⟨b, o + (k * 2 + 0), none⟩) hbl).trans (hcell _ _ ((flat_get encInflow 2 encInflow_len xs k 0 x hx (by omega)).trans rfl))
      have c1 : wr.cell? ⟨b, o + (k * 2 + 1), none⟩ = some (.int .i64 x.rate) := (hb.cell (p := ⟨b, o + (k * 2 + 1), none⟩) hbl).trans (hcell _ _ ((flat_get encInflow 2 encInflow_len xs k 1 x hx (by omega)).trans rfl))
      simp only [Nat.add_zero, ← Nat.add_assoc] at c0 c1
      have d0 : wr.cell? ⟨b2, o2 + (k * 2 + 0), none⟩ = some (.int .i64 x.burst) := (hb.cell (p := ⟨b2, o2 + (k * 2 + 0), none⟩) hbl2).trans (hcell2 _ _ ((flat_get encInflow 2 encInflow_len xs k 0 x hx (by omega)).trans rfl))
      have d1 : wr.cell? ⟨b2, o2 + (k * 2 + 1), none⟩ = some (.int .i64 x.rate) := (hb.cell (p := ⟨b2, o2 + (k * 2 + 1), none⟩) hbl2).trans (hcell2 _ _ ((flat_get encInflow 2 encInflow_len xs k 1 x hx (by omega)).trans rfl))
      simp only [Nat.add_zero, ← Nat.add_assoc] at d0 d1
      clear hx hcell hcell2
      go_wp2_with fail
      go_still_tail 8, (by kernel_rfl)
      change wpList _ _ _ _ _ wr.drew
      go_wp2_with fail
      refine (eqInflow_same _ _ _ ).mono ?_
      rintro e w1 ⟨rfl, hb1⟩
      go_wp2_with fail
      go_roundw
      case rel => exact ⟨k + 1, by omega, by go_num, ext_trans hb.drew hb1⟩
      case measure => simp [intOf]; omega
    · go_wp2_with fail
      go_ret
      exact ⟨rfl, hb⟩

structure Service where
  (rate delay : Int)
def encService (x : Service) : List Value := [.int .i64 x.rate, .int .i64 x.delay]
theorem encService_len (x : Service) : (encService x).length = 2 := rfl

set_option maxHeartbeats 1000000 in
theorem toService_any (x0 x1 : Int) (w : World) :
    Calls Try.prog 20 #[.agg #[.int .i64 x0, .int .i64 x1]] w fun e w' => e = .returned (.agg #[.int .i64 x0, .int .i64 x1]) ∧ Below w.heap.size w w' := by
  go_enter Try.func20, Try.ntmps20
  go_wp2
  refine bodyPost_ret (v := .agg #[.int .i64 x0, .int .i64 x1]) (by simp [results, Try.results20, go_sem]) rfl ⟨rfl, ?_⟩
  exact ext_alloc (ext_alloc (ext_alloc (ext_refl w) _) _) _

theorem openService {W : World} {r : Reach} {b : Nat} {v : Value} (h : Value.okWide Try.prog W r b 29 v) : ∃ x0 x1 : Int, v = .agg #[.int .i64 x0, .int .i64 x1] := by
  obtain ⟨cs0, rfl, hl0, hc0⟩ := okWide_cells Try.underlying29 (ts := [3, 3]) (by kernel_rfl) (by kernel_rfl) h
  match cs0, hl0 with
  | [a0, a1], _ =>
    obtain ⟨x0, rfl, _⟩ := cell_int Try.underlying3 (hc0 0 3 a0 rfl rfl)
    obtain ⟨x1, rfl, _⟩ := cell_int Try.underlying3 (hc0 1 3 a1 rfl rfl)
    exact ⟨x0, x1, rfl⟩

set_option maxHeartbeats 1000000 in
theorem eqService_same (x0 x1 : Int) (w : World) :
    Calls Try.prog 30 #[.agg #[.int .i64 x0, .int .i64 x1], .agg #[.int .i64 x0, .int .i64 x1]] w fun e w' => e = .returned (.bool true) ∧ Below w.heap.size w w' := by
  go_enter Try.func30, Try.ntmps30
  go_wp2
  go_ret
  exact ⟨rfl, ext_alloc (ext_alloc (ext_refl w) _) _⟩

set_option maxHeartbeats 1000000 in
theorem szServiceS_any (A : Option Addr) (n c : Nat) (left : Int) (w : World) (hn : n ≤ 9223372036854775807) (h1 : 0 ≤ left) (h2 : left ≤ 1048576) :
    Calls Try.prog 39 #[.slice A n c, .int .i64 left] w fun e w' => e = .returned (.int .i64 (if left < (n : Int) then -1 else left - n)) ∧ w = w' := by
  by_cases h : left < (n : Int)
  · go_enter Try.func39, Try.ntmps39
    go_wp2
    go_ret
    simp
  · go_enter Try.func39, Try.ntmps39
    go_wp2
    go_ret
    simp

theorem infoService : (Try.prog.info? 31).map (fun i => (i.zero, i.size, i.bytes)) = some (some (.agg #[.int .i64 0, .int .i64 0]), 2, 16) := by kernel_rfl
set_option maxHeartbeats 1000000 in
theorem toServiceS_any (A : Option Addr) (n c : Nat) (xs : List Service) (w : World) (hn : n ≤ 1048576) (hr : Rd w 2 A n (xs.flatMap encService)) :
    Calls Try.prog 41 #[.slice A n c] w fun e w' => ∃ g, e = .returned (.slice (some ⟨g, 0, none⟩) n n) ∧ w'.ownsRow w.heap.size 31 2 (.slice (some ⟨g, 0, none⟩) n n) n (xs.flatMap encService) ∧ Below w.heap.size w w' := by
  obtain ⟨i0, hi, hz0, hz1, hz2⟩ := info_parts infoService
  have hmk := fun W => run_make (P := Try.prog) W 56 31 i0 _ Try.underlying56 hi hz0 .i64 .i64 (n : Int) (n : Int) (by omega) (by omega) (by rw [hz2]; omega) (by omega)
  rw [hz1] at hmk
  go_enter Try.func41, Try.ntmps41
  go_wp2_with fail
  clear hmk
  go_loopw [4] (ToRel w w.heap.size 31 n 2 (xs.flatMap encService)) (fun i _ => n - (intOf i).toNat)
  case atStart => exact toRel_start
  case round =>
    obtain ⟨k, hk, rfl, cs, hB, hl, hcs, hb⟩ := hrel
    by_cases hlt : k < n
    · obtain ⟨b, o, rfl, hbl, hcell⟩ := hr.2 (by omega)
      have hlx : k < xs.length := by have h1 := hr.1; rw [flat_len encService 2 encService_len] at h1; omega
      have hx : xs[k]? = some xs[k] := List.getElem?_eq_getElem hlx
      generalize xs[k] = x at hx
      have c0 : wr.cell? ⟨b, o + (k * 2 + 0), none⟩ = some (.int .i64 x.rate) := (hb.cell (p := ⟨b, o + (k * 2 + 0), none⟩) hbl).trans (hcell _ _ ((flat_get encService 2 encService_len xs k 0 x hx (by omega)).trans rfl))
      have c1 : wr.cell? ⟨b, o + (k * 2 + 1), none⟩ = some (.int .i64 x.delay) := (hb.cell (p := ⟨b, o + (k * 2 + 1), none⟩) hbl).trans (hcell _ _ ((flat_get encService 2 encService_len xs k 1 x hx (by omega)).trans rfl))
      simp only [Nat.add_zero, ← Nat.add_assoc] at c0 c1
      have HX := Lib.hid hx
      have HC := Lib.hid hcs
      clear hx hcell hcs
      go_wp2_with fail
      refine (toService_any _ _ _ ).mono ?_
      rintro e w1 ⟨rfl, hb1⟩
      have hB1 := hB.below hb1
      have q0 : w1.cell? ⟨w.heap.size, k * 2, none⟩ = some (cs[k * 2]'(by omega)) := by rw [hB1.cell, List.getElem?_eq_getElem (by omega)]
      have f0 := hB1.frozen (k * 2)
      have q1 : w1.cell? ⟨w.heap.size, k * 2 + 1, none⟩ = some (cs[k * 2 + 1]'(by omega)) := by rw [hB1.cell, List.getElem?_eq_getElem (by omega)]
      have f1 := hB1.frozen (k * 2 + 1)
      go_wp2_with fail
      go_roundw
      case rel => exact toRel_step encService_len HX.out hlt hl HC.out ((hB1.set_ _ _).set_ _ _) (((hb.trans (hb1.mono hb.size)).setCell (Nat.le_refl _) _).setCell (Nat.le_refl _) _)
      case measure => simp [intOf]; omega
    · go_wp2_with fail
      go_ret
      exact ⟨_, rfl, own_of_blk (toRel_done (by omega) hB hl hr.1 hcs) hr.1 hn (Nat.le_refl _), hb⟩

theorem openServiceS {H : Type} {enc : TypeId × Value → H} {W : World} {base b0 : Nat} {sp : Nat → Bool} {hd : Bool} {r : Reach} {v : Value} {d : DataW H} {q : List MemPlace} (hv : Value.okWide Try.prog W r b0 53 v) (h : DataW.Trod enc Try.prog W base sp hd 53 v d q) :
    ∃ (A : Option Addr) (n c : Nat) (xs : List Service), v = .slice A n c ∧ n ≤ 9223372036854775807 ∧ Rd W 2 A n (xs.flatMap encService) :=
  open_rows encService 2 (by omega) encService_len (fun f => ⟨⟨f 0, f 1⟩, fun j hj => by rcases j with _ | _ | j <;> first | rfl | omega⟩) Try.underlying53 (by kernel_rfl) (by kernel_rfl) hv h

set_option maxHeartbeats 1000000 in
theorem eqServiceS_same (A B : Option Addr) (n c d : Nat) (xs : List Service) (w : World) (hn : n ≤ 1048576) (hr : Rd w 2 A n (xs.flatMap encService)) (hr2 : Rd w 2 B n (xs.flatMap encService)) :
    Calls Try.prog 43 #[.slice A n c, .slice B n d] w fun e w' => e = .returned (.bool true) ∧ Below w.heap.size w w' := by
  go_enter Try.func43, Try.ntmps43
  go_wp2_with fail
  go_loopw [5] (EqRel w n) (fun i _ => n - (intOf i).toNat)
  case atStart => exact ⟨0, Nat.zero_le _, rfl, ext_refl w⟩
  case round =>
    obtain ⟨k, hk, rfl, hb⟩ := hrel
    by_cases hlt : k < n
    · obtain ⟨b, o, rfl, hbl, hcell⟩ := hr.2 (by omega)
      obtain ⟨b2, o2, rfl, hbl2, hcell2⟩ := hr2.2 (by omega)
      have hlx : k < xs.length := by have h1 := hr.1; rw [flat_len encService 2 encService_len] at h1; omega
      have hx : xs[k]? = some xs[k] := List.getElem?_eq_getElem hlx
      generalize xs[k] = x at hx
      have c0 : wr.cell? ⟨b, o + (k * 2 + 0), none⟩ = some (.int .i64 x.rate) := (hb.cell (p := ⟨b, o + (k * 2 + 0), none⟩) hbl).trans (hcell _ _ ((flat_get encService 2 encService_len xs k 0 x hx (by omega)).trans rfl))
      have c1 : wr.cell? ⟨b, o + (k * 2 + 1), none⟩ = some (.int .i64 x.delay) := (hb.cell (p := ⟨b, o + (k * 2 + 1), none⟩) hbl).trans (hcell _ _ ((flat_get encService 2 encService_len xs k 1 x hx (by omega)).trans rfl))
      simp only [Nat.add_zero, ← Nat.add_assoc] at c0 c1
      have d0 : wr.cell? ⟨b2, o2 + (k * 2 + 0), none⟩ = some (.int .i64 x.rate) := (hb.cell (p := ⟨b2, o2 + (k * 2 + 0), none⟩) hbl2).trans (hcell2 _ _ ((flat_get encService 2 encService_len xs k 0 x hx (by omega)).trans rfl))
      have d1 : wr.cell? ⟨b2, o2 + (k * 2 + 1), none⟩ = some (.int .i64 x.delay) := (hb.cell (p := ⟨b2, o2 + (k * 2 + 1), none⟩) hbl2).trans (hcell2 _ _ ((flat_get encService 2 encService_len xs k 1 x hx (by omega)).trans rfl))
      simp only [Nat.add_zero, ← Nat.add_assoc] at d0 d1
      clear hx hcell hcell2
      go_wp2_with fail
      go_still_tail 8, (by kernel_rfl)
      change wpList _ _ _ _ _ wr.drew
      go_wp2_with fail
      refine (eqService_same _ _ _ ).mono ?_
      rintro e w1 ⟨rfl, hb1⟩
      go_wp2_with fail
      go_roundw
      case rel => exact ⟨k + 1, by omega, by go_num, ext_trans hb.drew hb1⟩
      case measure => simp [intOf]; omega
    · go_wp2_with fail
      go_ret
      exact ⟨rfl, hb⟩

structure Arrived where
  (time size : Int)
def encArrived (x : Arrived) : List Value := [.int .i64 x.time, .int .i64 x.size]
theorem encArrived_len (x : Arrived) : (encArrived x).length = 2 := rfl

set_option maxHeartbeats 1000000 in
theorem toArrived_any (x0 x1 : Int) (w : World) :
    Calls Try.prog 74 #[.agg #[.int .i64 x0, .int .i64 x1]] w fun e w' => e = .returned (.agg #[.int .i64 x0, .int .i64 x1]) ∧ Below w.heap.size w w' := by
  go_enter Try.func74, Try.ntmps74
  go_wp2
  refine bodyPost_ret (v := .agg #[.int .i64 x0, .int .i64 x1]) (by simp [results, Try.results74, go_sem]) rfl ⟨rfl, ?_⟩
  exact ext_alloc (ext_alloc (ext_alloc (ext_refl w) _) _) _

theorem openArrived {W : World} {r : Reach} {b : Nat} {v : Value} (h : Value.okWide Try.prog W r b 92 v) : ∃ x0 x1 : Int, v = .agg #[.int .i64 x0, .int .i64 x1] := by
  obtain ⟨cs0, rfl, hl0, hc0⟩ := okWide_cells Try.underlying92 (ts := [3, 3]) (by kernel_rfl) (by kernel_rfl) h
  match cs0, hl0 with
  | [a0, a1], _ =>
    obtain ⟨x0, rfl, _⟩ := cell_int Try.underlying3 (hc0 0 3 a0 rfl rfl)
    obtain ⟨x1, rfl, _⟩ := cell_int Try.underlying3 (hc0 1 3 a1 rfl rfl)
    exact ⟨x0, x1, rfl⟩

set_option maxHeartbeats 1000000 in
theorem eqArrived_same (x0 x1 : Int) (w : World) :
    Calls Try.prog 77 #[.agg #[.int .i64 x0, .int .i64 x1], .agg #[.int .i64 x0, .int .i64 x1]] w fun e w' => e = .returned (.bool true) ∧ Below w.heap.size w w' := by
  go_enter Try.func77, Try.ntmps77
  go_wp2
  go_ret
  exact ⟨rfl, ext_alloc (ext_alloc (ext_refl w) _) _⟩

set_option maxHeartbeats 1000000 in
theorem szArrivedS_any (A : Option Addr) (n c : Nat) (left : Int) (w : World) (hn : n ≤ 9223372036854775807) (h1 : 0 ≤ left) (h2 : left ≤ 1048576) :
    Calls Try.prog 44 #[.slice A n c, .int .i64 left] w fun e w' => e = .returned (.int .i64 (if left < (n : Int) then -1 else left - n)) ∧ w = w' := by
  by_cases h : left < (n : Int)
  · go_enter Try.func44, Try.ntmps44
    go_wp2
    go_ret
    simp
  · go_enter Try.func44, Try.ntmps44
    go_wp2
    go_ret
    simp

theorem infoArrived : (Try.prog.info? 90).map (fun i => (i.zero, i.size, i.bytes)) = some (some (.agg #[.int .i64 0, .int .i64 0]), 2, 16) := by kernel_rfl
set_option maxHeartbeats 1000000 in
theorem toArrivedS_any (A : Option Addr) (n c : Nat) (xs : List Arrived) (w : World) (hn : n ≤ 1048576) (hr : Rd w 2 A n (xs.flatMap encArrived)) :
    Calls Try.prog 46 #[.slice A n c] w fun e w' => ∃ g, e = .returned (.slice (some ⟨g, 0, none⟩) n n) ∧ w'.ownsRow w.heap.size 90 2 (.slice (some ⟨g, 0, none⟩) n n) n (xs.flatMap encArrived) ∧ Below w.heap.size w w' := by
  obtain ⟨i0, hi, hz0, hz1, hz2⟩ := info_parts infoArrived
  have hmk := fun W => run_make (P := Try.prog) W 63 90 i0 _ Try.underlying63 hi hz0 .i64 .i64 (n : Int) (n : Int) (by omega) (by omega) (by rw [hz2]; omega) (by omega)
  rw [hz1] at hmk
  go_enter Try.func46, Try.ntmps46
  go_wp2_with fail
  clear hmk
  go_loopw [4] (ToRel w w.heap.size 90 n 2 (xs.flatMap encArrived)) (fun i _ => n - (intOf i).toNat)
  case atStart => exact toRel_start
  case round =>
    obtain ⟨k, hk, rfl, cs, hB, hl, hcs, hb⟩ := hrel
    by_cases hlt : k < n
    · obtain ⟨b, o, rfl, hbl, hcell⟩ := hr.2 (by omega)
      have hlx : k < xs.length := by have h1 := hr.1; rw [flat_len encArrived 2 encArrived_len] at h1; omega
      have hx : xs[k]? = some xs[k] := List.getElem?_eq_getElem hlx
      generalize xs[k] = x at hx
      have c0 : wr.cell? ⟨b, o + (k * 2 + 0), none⟩ = some (.int .i64 x.time) := (hb.cell (p := ⟨b, o + (k * 2 + 0), none⟩) hbl).trans (hcell _ _ ((flat_get encArrived 2 encArrived_len xs k 0 x hx (by omega)).trans rfl))
      have c1 : wr.cell? ⟨b, o + (k * 2 + 1), none⟩ = some (.int .i64 x.size) := (hb.cell (p := ⟨b, o + (k * 2 + 1), none⟩) hbl).trans (hcell _ _ ((flat_get encArrived 2 encArrived_len xs k 1 x hx (by omega)).trans rfl))
      simp only [Nat.add_zero, ← Nat.add_assoc] at c0 c1
      have HX := Lib.hid hx
      have HC := Lib.hid hcs
      clear hx hcell hcs
      go_wp2_with fail
      refine (toArrived_any _ _ _ ).mono ?_
      rintro e w1 ⟨rfl, hb1⟩
      have hB1 := hB.below hb1
      have q0 : w1.cell? ⟨w.heap.size, k * 2, none⟩ = some (cs[k * 2]'(by omega)) := by rw [hB1.cell, List.getElem?_eq_getElem (by omega)]
      have f0 := hB1.frozen (k * 2)
      have q1 : w1.cell? ⟨w.heap.size, k * 2 + 1, none⟩ = some (cs[k * 2 + 1]'(by omega)) := by rw [hB1.cell, List.getElem?_eq_getElem (by omega)]
      have f1 := hB1.frozen (k * 2 + 1)
      go_wp2_with fail
      go_roundw
      case rel => exact toRel_step encArrived_len HX.out hlt hl HC.out ((hB1.set_ _ _).set_ _ _) (((hb.trans (hb1.mono hb.size)).setCell (Nat.le_refl _) _).setCell (Nat.le_refl _) _)
      case measure => simp [intOf]; omega
    · go_wp2_with fail
      go_ret
      exact ⟨_, rfl, own_of_blk (toRel_done (by omega) hB hl hr.1 hcs) hr.1 hn (Nat.le_refl _), hb⟩

theorem openArrivedS {H : Type} {enc : TypeId × Value → H} {W : World} {base b0 : Nat} {sp : Nat → Bool} {hd : Bool} {r : Reach} {v : Value} {d : DataW H} {q : List MemPlace} (hv : Value.okWide Try.prog W r b0 60 v) (h : DataW.Trod enc Try.prog W base sp hd 60 v d q) :
    ∃ (A : Option Addr) (n c : Nat) (xs : List Arrived), v = .slice A n c ∧ n ≤ 9223372036854775807 ∧ Rd W 2 A n (xs.flatMap encArrived) :=
  open_rows encArrived 2 (by omega) encArrived_len (fun f => ⟨⟨f 0, f 1⟩, fun j hj => by rcases j with _ | _ | j <;> first | rfl | omega⟩) Try.underlying60 (by kernel_rfl) (by kernel_rfl) hv h

set_option maxHeartbeats 1000000 in
theorem eqArrivedS_same (A B : Option Addr) (n c d : Nat) (xs : List Arrived) (w : World) (hn : n ≤ 1048576) (hr : Rd w 2 A n (xs.flatMap encArrived)) (hr2 : Rd w 2 B n (xs.flatMap encArrived)) :
    Calls Try.prog 48 #[.slice A n c, .slice B n d] w fun e w' => e = .returned (.bool true) ∧ Below w.heap.size w w' := by
  go_enter Try.func48, Try.ntmps48
  go_wp2_with fail
  go_loopw [5] (EqRel w n) (fun i _ => n - (intOf i).toNat)
  case atStart => exact ⟨0, Nat.zero_le _, rfl, ext_refl w⟩
  case round =>
    obtain ⟨k, hk, rfl, hb⟩ := hrel
    by_cases hlt : k < n
    · obtain ⟨b, o, rfl, hbl, hcell⟩ := hr.2 (by omega)
      obtain ⟨b2, o2, rfl, hbl2, hcell2⟩ := hr2.2 (by omega)
      have hlx : k < xs.length := by have h1 := hr.1; rw [flat_len encArrived 2 encArrived_len] at h1; omega
      have hx : xs[k]? = some xs[k] := List.getElem?_eq_getElem hlx
      generalize xs[k] = x at hx
      have c0 : wr.cell? ⟨b, o + (k * 2 + 0), none⟩ = some (.int .i64 x.time) := (hb.cell (p := ⟨b, o + (k * 2 + 0), none⟩) hbl).trans (hcell _ _ ((flat_get encArrived 2 encArrived_len xs k 0 x hx (by omega)).trans rfl))
      have c1 : wr.cell? ⟨b, o + (k * 2 + 1), none⟩ = some (.int .i64 x.size) := (hb.cell (p := ⟨b, o + (k * 2 + 1), none⟩) hbl).trans (hcell _ _ ((flat_get encArrived 2 encArrived_len xs k 1 x hx (by omega)).trans rfl))
      simp only [Nat.add_zero, ← Nat.add_assoc] at c0 c1
      have d0 : wr.cell? ⟨b2, o2 + (k * 2 + 0), none⟩ = some (.int .i64 x.time) := (hb.cell (p := ⟨b2, o2 + (k * 2 + 0), none⟩) hbl2).trans (hcell2 _ _ ((flat_get encArrived 2 encArrived_len xs k 0 x hx (by omega)).trans rfl))
      have d1 : wr.cell? ⟨b2, o2 + (k * 2 + 1), none⟩ = some (.int .i64 x.size) := (hb.cell (p := ⟨b2, o2 + (k * 2 + 1), none⟩) hbl2).trans (hcell2 _ _ ((flat_get encArrived 2 encArrived_len xs k 1 x hx (by omega)).trans rfl))
      simp only [Nat.add_zero, ← Nat.add_assoc] at d0 d1
      clear hx hcell hcell2
      go_wp2_with fail
      go_still_tail 8, (by kernel_rfl)
      change wpList _ _ _ _ _ wr.drew
      go_wp2_with fail
      refine (eqArrived_same _ _ _ ).mono ?_
      rintro e w1 ⟨rfl, hb1⟩
      go_wp2_with fail
      go_roundw
      case rel => exact ⟨k + 1, by omega, by go_num, ext_trans hb.drew hb1⟩
      case measure => simp [intOf]; omega
    · go_wp2_with fail
      go_ret
      exact ⟨rfl, hb⟩

set_option maxHeartbeats 1000000 in
theorem markArrivedS_blk (g n c : Nat) (cs0 : List Value) (k0 : Int) (w : World) (hn : n ≤ 1048576) (hk0 : 0 ≤ k0) (hk1 : k0 ≤ 1000000000000) (hB0 : Blk w g 90 cs0) (hl0 : n * 2 ≤ cs0.length) :
    Calls Try.prog 56 #[.slice (some ⟨g, 0, none⟩) n c, .int .i64 k0] w fun e w' => ∃ kk, e = .returned kk ∧ MarkRel w g 90 n 2 cs0 k0 kk (.int .i64 n) w' := by
  go_enter Try.func56, Try.ntmps56
  go_wp2_with fail
  go_loopw [1, 5] (MarkRel w g 90 n 2 cs0 k0) (fun _ i _ => n - (intOf i).toNat)
  case atStart => exact markRel_start hB0
  case round =>
    obtain ⟨k, hk, rfl, rfl, hg, cs, hB, hl, hcs⟩ := hrel
    by_cases hlt : k < n
    · have HC := Lib.hid hcs
      have hl' : cs.length = cs0.length := hl
      obtain ⟨y0, q0⟩ : ∃ y, wr.cell? ⟨g, k * 2, none⟩ = some y := ⟨cs[k * 2]'(by omega), by rw [hB.cell, List.getElem?_eq_getElem (by omega)]⟩
      have f0 := hB.frozen (k * 2)
      obtain ⟨y1, q1⟩ : ∃ y, wr.cell? ⟨g, k * 2 + 1, none⟩ = some y := ⟨cs[k * 2 + 1]'(by omega), by rw [hB.cell, List.getElem?_eq_getElem (by omega)]⟩
      have f1 := hB.frozen (k * 2 + 1)
      have HL := Lib.hid hl
      clear hcs hl hl'
      go_wp2_with fail
      go_roundw
      case rel => exact markRel_step hlt (by omega) HL.out HC.out (by simpa [SetRow, marks, List.range_succ, Int.add_assoc] using ((hB.set_ _ _).set_ _ _)) (grownBy_setCell (grownBy_setCell hg _ _) _ _) (by simp <;> omega)
      case measure => simp [intOf]; omega
    · go_wp2_with fail
      go_ret
      obtain rfl : k = n := by omega
      exact ⟨_, rfl, k, Nat.le_refl _, rfl, rfl, hg, cs, hB, hl, hcs⟩

set_option maxHeartbeats 1000000 in
theorem markArrivedS_own (A : Option Addr) (n c base : Nat) (xs : List Value) (k0 : Int) (w : World) (hn : n ≤ 1048576) (hk0 : 0 ≤ k0) (hk1 : k0 ≤ 1000000000000) (hown : w.ownsRow base 90 2 (.slice A n c) n xs) :
    Calls Try.prog 56 #[.slice A n c, .int .i64 k0] w fun e w' => e = .returned (.int .i64 (k0 + (n : Int) * 2)) ∧ w'.ownsRow base 90 2 (.slice A n c) n (marks k0 (n * 2)) ∧ w.grownBy w' (Value.ownBlock (.slice A n c)) := by
  by_cases hn0 : 0 < n
  · obtain ⟨g, cs, rfl, hbg, hB, hl, hnc, hcm, htake⟩ := own_blk hown hn0
    have hle : n * 2 ≤ c * 2 := Nat.mul_le_mul_right _ hnc
    refine (markArrivedS_blk g n c cs k0 w hn hk0 hk1 hB (by omega)).mono ?_
    rintro e w' ⟨kk, rfl, k, hk, he, rfl, hg, cs', hB', hl', hcs'⟩
    obtain rfl : n = k := by simp at he; omega
    exact ⟨rfl, own_marked rfl hl hnc hcm hbg hB' hl' hcs', hg⟩
  · obtain rfl : n = 0 := by omega
    have hx : xs = [] := List.eq_nil_of_length_eq_zero (by simpa using hown.1)
    subst hx
    go_enter Try.func56, Try.ntmps56
    go_wp2_with fail
    go_loopw [1, 5] (fun kk i wr => kk = .int .i64 k0 ∧ i = .int .i64 0 ∧ w = wr) (fun _ _ _ => 0)
    case atStart => exact ⟨rfl, rfl, rfl⟩
    case round =>
      obtain ⟨rfl, rfl, rfl⟩ := hrel
      go_wp2_with fail
      go_ret
      exact ⟨by simp, hown, World.grownBy.refl _ _⟩

set_option maxHeartbeats 1000000 in
theorem eqIntS_same (A B : Option Addr) (n c d : Nat) (xs : List Int) (w : World) (hn : n ≤ 1048576) (hr : Rd w 1 A n (xs.map (Value.int .i64))) (hr2 : Rd w 1 B n (xs.map (Value.int .i64))) :
    Calls Try.prog 55 #[.slice A n c, .slice B n d] w fun e w' => e = .returned (.bool true) ∧ Below w.heap.size w w' := by
  go_enter Try.func55, Try.ntmps55
  go_wp2_with fail
  go_loopw [5] (EqRel w n) (fun i _ => n - (intOf i).toNat)
  case atStart => exact ⟨0, Nat.zero_le _, rfl, ext_refl w⟩
  case round =>
    obtain ⟨k, hk, rfl, hb⟩ := hrel
    by_cases hlt : k < n
    · obtain ⟨b, o, x, rfl, hbl, hx, hcell⟩ := hr.int k hlt
      obtain ⟨b2, o2, x2, rfl, hbl2, hx2, hcell2⟩ := hr2.int k hlt
      rw [hx] at hx2
      obtain rfl := Option.some.inj hx2
      have c0 : wr.cell? ⟨b, o + k, none⟩ = some (.int .i64 x) := (hb.cell (p := ⟨b, o + k, none⟩) hbl).trans hcell
      have d0 : wr.cell? ⟨b2, o2 + k, none⟩ = some (.int .i64 x) := (hb.cell (p := ⟨b2, o2 + k, none⟩) hbl2).trans hcell2
      clear hx hx2 hcell hcell2
      go_wp2_with fail
      go_quiet (fail)
      go_wp2_with fail
      go_roundw
      case rel => exact ⟨k + 1, by omega, by go_num, ext_drewN hb _⟩
      case measure => simp [intOf]; omega
    · go_wp2_with fail
      go_ret
      exact ⟨rfl, hb⟩

set_option maxHeartbeats 1000000 in
theorem markIntS_blk (g n c : Nat) (cs0 : List Value) (k0 : Int) (w : World) (hn : n ≤ 1048576) (hk0 : 0 ≤ k0) (hk1 : k0 ≤ 1000000000000) (hB0 : Blk w g 3 cs0) (hl0 : n * 1 ≤ cs0.length) :
    Calls Try.prog 57 #[.slice (some ⟨g, 0, none⟩) n c, .int .i64 k0] w fun e w' => ∃ kk, e = .returned kk ∧ MarkRel w g 3 n 1 cs0 k0 kk (.int .i64 n) w' := by
  go_enter Try.func57, Try.ntmps57
  go_wp2_with fail
  go_loopw [1, 5] (MarkRel w g 3 n 1 cs0 k0) (fun _ i _ => n - (intOf i).toNat)
  case atStart => exact markRel_start hB0
  case round =>
    obtain ⟨k, hk, rfl, rfl, hg, cs, hB, hl, hcs⟩ := hrel
    by_cases hlt : k < n
    · have HC := Lib.hid hcs
      have hl' : cs.length = cs0.length := hl
      obtain ⟨y0, q0⟩ : ∃ y, wr.cell? ⟨g, k, none⟩ = some y := ⟨cs[k]'(by omega), by rw [hB.cell, List.getElem?_eq_getElem (by omega)]⟩
      have f0 := hB.frozen (k)
      have HL := Lib.hid hl
      clear hcs hl hl'
      go_wp2_with fail
      go_roundw
      case rel => exact markRel_step1 hlt (by omega) HL.out HC.out (hB.set_ _ _) (by simp) (grownBy_setCell hg _ _) (by simp <;> omega)
      case measure => simp [intOf]; omega
    · go_wp2_with fail
      go_ret
      obtain rfl : k = n := by omega
      exact ⟨_, rfl, k, Nat.le_refl _, rfl, rfl, hg, cs, hB, hl, hcs⟩

set_option maxHeartbeats 1000000 in
theorem markIntS_own (A : Option Addr) (n c base : Nat) (xs : List Value) (k0 : Int) (w : World) (hn : n ≤ 1048576) (hk0 : 0 ≤ k0) (hk1 : k0 ≤ 1000000000000) (hown : w.ownsRow base 3 1 (.slice A n c) n xs) :
    Calls Try.prog 57 #[.slice A n c, .int .i64 k0] w fun e w' => e = .returned (.int .i64 (k0 + (n : Int) * 1)) ∧ w'.ownsRow base 3 1 (.slice A n c) n (marks k0 (n * 1)) ∧ w.grownBy w' (Value.ownBlock (.slice A n c)) := by
  by_cases hn0 : 0 < n
  · obtain ⟨g, cs, rfl, hbg, hB, hl, hnc, hcm, htake⟩ := own_blk hown hn0
    have hle : n * 1 ≤ c * 1 := Nat.mul_le_mul_right _ hnc
    refine (markIntS_blk g n c cs k0 w hn hk0 hk1 hB (by omega)).mono ?_
    rintro e w' ⟨kk, rfl, k, hk, he, rfl, hg, cs', hB', hl', hcs'⟩
    obtain rfl : n = k := by simp at he; omega
    exact ⟨rfl, own_marked rfl hl hnc hcm hbg hB' hl' hcs', hg⟩
  · obtain rfl : n = 0 := by omega
    have hx : xs = [] := List.eq_nil_of_length_eq_zero (by simpa using hown.1)
    subst hx
    go_enter Try.func57, Try.ntmps57
    go_wp2_with fail
    go_loopw [1, 5] (fun kk i wr => kk = .int .i64 k0 ∧ i = .int .i64 0 ∧ w = wr) (fun _ _ _ => 0)
    case atStart => exact ⟨rfl, rfl, rfl⟩
    case round =>
      obtain ⟨rfl, rfl, rfl⟩ := hrel
      go_wp2_with fail
      go_ret
      exact ⟨by simp, hown, World.grownBy.refl _ _⟩

set_option maxHeartbeats 1000000 in
theorem heldIntS_any (A : Option Addr) (n c : Nat) (k0 : Int) (w : World) (hn : n ≤ 1048576) (hk0 : 0 ≤ k0) (hk1 : k0 ≤ 1000000000000) (hr : Rd w 1 A n (marks k0 (n * 1))) :
    Calls Try.prog 58 #[.slice A n c, .int .i64 k0] w fun e w' => e = .returned (.int .i64 (k0 + (n : Int) * 1)) ∧ w = w' := by
  go_enter Try.func58, Try.ntmps58
  go_wp2_with fail
  go_loop [1, 5] (HeldRel n 1 k0) (fun _ i => n - (intOf i).toNat)
  case atStart => exact ⟨0, Nat.zero_le _, rfl, by simp⟩
  case round =>
    obtain ⟨k, hk, rfl, rfl⟩ := hrel
    by_cases hlt : k < n
    · obtain ⟨b, o, rfl, hbl, hcell⟩ := hr.2 (by omega)
      have c0 : w.cell? ⟨b, o + k, none⟩ = some (.int .i64 (k0 + (k : Int))) := by have h := hcell k _ (marks_get k0 (n * 1) k (by omega)); simpa using h
      clear hcell
      go_wp2_with fail
      go_round
      case rel => exact ⟨k + 1, by omega, by go_num, by simp <;> omega⟩
      case measure => simp [intOf]; omega
    · go_wp2_with fail
      go_ret
      obtain rfl : k = n := by omega
      exact ⟨by simp, rfl⟩

end Go.Proofs.Ytmmelpgnfjjokaa
