/- Contracts of the laws' own helpers: copiers, comparers (at equal arguments), counters, markers. Each says what the call returns and that nothing that was there has changed (markers: but the marked row). -/
import Derived.Test.YtgdccclpibbbeaaBase
import Derived.StillTailTactics
import Derived.Deep.QuietTactic
import Derived.BigQuiet
namespace Go.Proofs.Ytgdccclpibbbeaa
open Go.RowKit
structure Marked where
  (tick mark : Int)
def encMarked (x : Marked) : List Value := [.int .i64 x.tick, .int .i64 x.mark]
theorem encMarked_len (x : Marked) : (encMarked x).length = 2 := rfl

set_option maxHeartbeats 1000000 in
theorem toMarked_any (x0 x1 : Int) (w : World) :
    Calls Try.prog 44 #[.agg #[.int .i64 x0, .int .i64 x1]] w fun e w' => e = .returned (.agg #[.int .i64 x0, .int .i64 x1]) ∧ Below w.heap.size w w' := by
  go_enter Try.func44, Try.ntmps44
  go_wp2
  refine bodyPost_ret (v := .agg #[.int .i64 x0, .int .i64 x1]) (by simp [results, Try.results44, go_sem]) rfl ⟨rfl, ?_⟩
  exact ext_alloc (ext_alloc (ext_alloc (ext_refl w) _) _) _

theorem openMarked {W : World} {r : Reach} {b : Nat} {v : Value} (h : Value.okWide Try.prog W r b 53 v) : ∃ x0 x1 : Int, v = .agg #[.int .i64 x0, .int .i64 x1] := by
  obtain ⟨cs0, rfl, hl0, hc0⟩ := okWide_cells Try.underlying53 (ts := [3, 3]) (by kernel_rfl) (by kernel_rfl) h
  match cs0, hl0 with
  | [a0, a1], _ =>
    obtain ⟨x0, rfl, _⟩ := cell_int Try.underlying3 (hc0 0 3 a0 rfl rfl)
    obtain ⟨x1, rfl, _⟩ := cell_int Try.underlying3 (hc0 1 3 a1 rfl rfl)
    exact ⟨x0, x1, rfl⟩

set_option maxHeartbeats 1000000 in
theorem eqMarked_same (x0 x1 : Int) (w : World) :
    Calls Try.prog 47 #[.agg #[.int .i64 x0, .int .i64 x1], .agg #[.int .i64 x0, .int .i64 x1]] w fun e w' => e = .returned (.bool true) ∧ Below w.heap.size w w' := by
  go_enter Try.func47, Try.ntmps47
  go_wp2
  go_ret
  exact ⟨rfl, ext_alloc (ext_alloc (ext_refl w) _) _⟩

set_option maxHeartbeats 1000000 in
theorem szMarkedS_any (A : Option Addr) (n c : Nat) (left : Int) (w : World) (hn : n ≤ 9223372036854775807) (h1 : 0 ≤ left) (h2 : left ≤ 1048576) :
    Calls Try.prog 24 #[.slice A n c, .int .i64 left] w fun e w' => e = .returned (.int .i64 (if left < (n : Int) then -1 else left - n)) ∧ w = w' := by
  by_cases h : left < (n : Int)
  · go_enter Try.func24, Try.ntmps24
    go_wp2
    go_ret
    simp
  · go_enter Try.func24, Try.ntmps24
    go_wp2
    go_ret
    simp

theorem infoMarked : (Try.prog.info? 51).map (fun i => (i.zero, i.size, i.bytes)) = some (some (.agg #[.int .i64 0, .int .i64 0]), 2, 16) := by kernel_rfl
set_option maxHeartbeats 1000000 in
theorem toMarkedS_any (A : Option Addr) (n c : Nat) (xs : List Marked) (w : World) (hn : n ≤ 1048576) (hr : Rd w 2 A n (xs.flatMap encMarked)) :
    Calls Try.prog 26 #[.slice A n c] w fun e w' => ∃ g, e = .returned (.slice (some ⟨g, 0, none⟩) n n) ∧ w'.ownsRow w.heap.size 51 2 (.slice (some ⟨g, 0, none⟩) n n) n (xs.flatMap encMarked) ∧ Below w.heap.size w w' := by
  obtain ⟨i0, hi, hz0, hz1, hz2⟩ := info_parts infoMarked
  have hmk := fun W => run_make (P := Try.prog) W 35 51 i0 _ Try.underlying35 hi hz0 .i64 .i64 (n : Int) (n : Int) (by omega) (by omega) (by rw [hz2]; omega) (by omega)
  rw [hz1] at hmk
  go_enter Try.func26, Try.ntmps26
  go_wp2_with fail
  clear hmk
  go_loopw [4] (ToRel w w.heap.size 51 n 2 (xs.flatMap encMarked)) (fun i _ => n - (intOf i).toNat)
  case atStart => exact toRel_start
  case round =>
    obtain ⟨k, hk, rfl, cs, hB, hl, hcs, hb⟩ := hrel
    by_cases hlt : k < n
    · obtain ⟨b, o, rfl, hbl, hcell⟩ := hr.2 (by omega)
      have hlx : k < xs.length := by have h1 := hr.1; rw [flat_len encMarked 2 encMarked_len] at h1; omega
      have hx : xs[k]? = some xs[k] := List.getElem?_eq_getElem hlx
      generalize xs[k] = x at hx
      have c0 : wr.cell? ⟨b, o + (k * 2 + 0), none⟩ = some (.int .i64 x.tick) := (hb.cell (p := ⟨b, o + (k * 2 + 0), none⟩) hbl).trans (hcell _ _ ((flat_get encMarked 2 encMarked_len xs k 0 x hx (by omega)).trans rfl))
      have c1 : wr.cell? ⟨b, o + (k * 2 + 1), none⟩ = some (.int .i64 x.mark) := (hb.cell (p := ⟨b, o + (k * 2 + 1), none⟩) hbl).trans (hcell _ _ ((flat_get encMarked 2 encMarked_len xs k 1 x hx (by omega)).trans rfl))
      simp only [Nat.add_zero, ← Nat.add_assoc] at c0 c1
      have HX := Lib.hid hx
      have HC := Lib.hid hcs
      clear hx hcell hcs
      go_wp2_with fail
      refine (toMarked_any _ _ _ ).mono ?_
      rintro e w1 ⟨rfl, hb1⟩
      have hB1 := hB.below hb1
      have q0 : w1.cell? ⟨w.heap.size, k * 2, none⟩ = some (cs[k * 2]'(by omega)) := by rw [hB1.cell, List.getElem?_eq_getElem (by omega)]
      have f0 := hB1.frozen (k * 2)
      have q1 : w1.cell? ⟨w.heap.size, k * 2 + 1, none⟩ = some (cs[k * 2 + 1]'(by omega)) := by rw [hB1.cell, List.getElem?_eq_getElem (by omega)]
      have f1 := hB1.frozen (k * 2 + 1)
      go_wp2_with fail
      go_roundw
      case rel => exact toRel_step encMarked_len HX.out hlt hl HC.out ((hB1.set_ _ _).set_ _ _) (((hb.trans (hb1.mono hb.size)).setCell (Nat.le_refl _) _).setCell (Nat.le_refl _) _)
      case measure => simp [intOf]; omega
    · go_wp2_with fail
      go_ret
      exact ⟨_, rfl, own_of_blk (toRel_done (by omega) hB hl hr.1 hcs) hr.1 hn (Nat.le_refl _), hb⟩

theorem openMarkedS {H : Type} {enc : TypeId × Value → H} {W : World} {base b0 : Nat} {sp : Nat → Bool} {hd : Bool} {r : Reach} {v : Value} {d : DataW H} {q : List MemPlace} (hv : Value.okWide Try.prog W r b0 32 v) (h : DataW.Trod enc Try.prog W base sp hd 32 v d q) :
    ∃ (A : Option Addr) (n c : Nat) (xs : List Marked), v = .slice A n c ∧ n ≤ 9223372036854775807 ∧ Rd W 2 A n (xs.flatMap encMarked) :=
  open_rows encMarked 2 (by omega) encMarked_len (fun f => ⟨⟨f 0, f 1⟩, fun j hj => by rcases j with _ | _ | j <;> first | rfl | omega⟩) Try.underlying32 (by kernel_rfl) (by kernel_rfl) hv h

set_option maxHeartbeats 1000000 in
theorem eqMarkedS_same (A B : Option Addr) (n c d : Nat) (xs : List Marked) (w : World) (hn : n ≤ 1048576) (hr : Rd w 2 A n (xs.flatMap encMarked)) (hr2 : Rd w 2 B n (xs.flatMap encMarked)) :
    Calls Try.prog 28 #[.slice A n c, .slice B n d] w fun e w' => e = .returned (.bool true) ∧ Below w.heap.size w w' := by
  go_enter Try.func28, Try.ntmps28
  go_wp2_with fail
  go_loopw [5] (EqRel w n) (fun i _ => n - (intOf i).toNat)
  case atStart => exact ⟨0, Nat.zero_le _, rfl, ext_refl w⟩
  case round =>
    obtain ⟨k, hk, rfl, hb⟩ := hrel
    by_cases hlt : k < n
    · obtain ⟨b, o, rfl, hbl, hcell⟩ := hr.2 (by omega)
      obtain ⟨b2, o2, rfl, hbl2, hcell2⟩ := hr2.2 (by omega)
      have hlx : k < xs.length := by have h1 := hr.1; rw [flat_len encMarked 2 encMarked_len] at h1; omega
      have hx : xs[k]? = some xs[k] := List.getElem?_eq_getElem hlx
      generalize xs[k] = x at hx
      have c0 : wr.cell? ⟨b, o + (k * 2 + 0), none⟩ = some (.int .i64 x.tick) := (hb.cell (p := ⟨b, o + (k * 2 + 0), none⟩) hbl).trans (hcell _ _ ((flat_get encMarked 2 encMarked_len xs k 0 x hx (by omega)).trans rfl))
      have c1 : wr.cell? ⟨b, o + (k * 2 + 1), none⟩ = some (.int .i64 x.mark) := (hb.cell (p := ⟨b, o + (k * 2 + 1), none⟩) hbl).trans (hcell _ _ ((flat_get encMarked 2 encMarked_len xs k 1 x hx (by omega)).trans rfl))
      simp only [Nat.add_zero, ← Nat.add_assoc] at c0 c1
      have d0 : wr.cell? ⟨b2, o2 + (k * 2 + 0), none⟩ = some (.int .i64 x.tick) := (hb.cell (p := ⟨b2, o2 + (k * 2 + 0), none⟩) hbl2).trans (hcell2 _ _ ((flat_get encMarked 2 encMarked_len xs k 0 x hx (by omega)).trans rfl))
      have d1 : wr.cell? ⟨b2, o2 + (k * 2 + 1), none⟩ = some (.int .i64 x.mark) := (hb.cell (p := ⟨b2, o2 + (k * 2 + 1), none⟩) hbl2).trans (hcell2 _ _ ((flat_get encMarked 2 encMarked_len xs k 1 x hx (by omega)).trans rfl))
      simp only [Nat.add_zero, ← Nat.add_assoc] at d0 d1
      clear hx hcell hcell2
      go_wp2_with fail
      go_still_tail 8, (by kernel_rfl)
      change wpList _ _ _ _ _ wr.drew
      go_wp2_with fail
      refine (eqMarked_same _ _ _ ).mono ?_
      rintro e w1 ⟨rfl, hb1⟩
      go_wp2_with fail
      go_roundw
      case rel => exact ⟨k + 1, by omega, by go_num, ext_trans hb.drew hb1⟩
      case measure => simp [intOf]; omega
    · go_wp2_with fail
      go_ret
      exact ⟨rfl, hb⟩

set_option maxHeartbeats 1000000 in
theorem markMarkedS_blk (g n c : Nat) (cs0 : List Value) (k0 : Int) (w : World) (hn : n ≤ 1048576) (hk0 : 0 ≤ k0) (hk1 : k0 ≤ 1000000000000) (hB0 : Blk w g 51 cs0) (hl0 : n * 2 ≤ cs0.length) :
    Calls Try.prog 29 #[.slice (some ⟨g, 0, none⟩) n c, .int .i64 k0] w fun e w' => ∃ kk, e = .returned kk ∧ MarkRel w g 51 n 2 cs0 k0 kk (.int .i64 n) w' := by
  go_enter Try.func29, Try.ntmps29
  go_wp2_with fail
  go_loopw [1, 5] (MarkRel w g 51 n 2 cs0 k0) (fun _ i _ => n - (intOf i).toNat)
  case atStart => exact markRel_start hB0
  case round =>
    obtain ⟨k, hk, rfl, rfl, hg, cs, hB, hl, hcs⟩ := hrel
    by_cases hlt : k < n
    · have HC := Lib.hid hcs
      have hl' : cs.length = cs0.length := hl
      obtain ⟨y0, q0⟩ : ∃ y, wr.cell? ⟨g, k * 2, none⟩ = some y := ⟨cs[k * 2]'(by omega), by rw [hB.cell, List.getElem?_eq_getElem (by omega)]⟩
      have f0 := hB.frozen (k * 2)
      obtain ⟨y1, q1⟩ : ∃ y, wr.cell? ⟨g, k * 2 + 1, none⟩ = some y := ⟨cs[k * 2 + 1]'(by omega), by rw [hB.cell, List.getElem?_eq_getElem (by omega)]⟩
      have f1 := hB.frozen (k * 2 + 1)
      have HL := Lib.hid hl
      clear hcs hl hl'
      go_wp2_with fail
      go_roundw
      case rel => exact markRel_step hlt (by omega) HL.out HC.out (by simpa [SetRow, marks, List.range_succ, Int.add_assoc] using ((hB.set_ _ _).set_ _ _)) (grownBy_setCell (grownBy_setCell hg _ _) _ _) (by simp <;> omega)
      case measure => simp [intOf]; omega
    · go_wp2_with fail
      go_ret
      obtain rfl : k = n := by omega
      exact ⟨_, rfl, k, Nat.le_refl _, rfl, rfl, hg, cs, hB, hl, hcs⟩

set_option maxHeartbeats 1000000 in
theorem markMarkedS_own (A : Option Addr) (n c base : Nat) (xs : List Value) (k0 : Int) (w : World) (hn : n ≤ 1048576) (hk0 : 0 ≤ k0) (hk1 : k0 ≤ 1000000000000) (hown : w.ownsRow base 51 2 (.slice A n c) n xs) :
    Calls Try.prog 29 #[.slice A n c, .int .i64 k0] w fun e w' => e = .returned (.int .i64 (k0 + (n : Int) * 2)) ∧ w'.ownsRow base 51 2 (.slice A n c) n (marks k0 (n * 2)) ∧ w.grownBy w' (Value.ownBlock (.slice A n c)) := by
  by_cases hn0 : 0 < n
  · obtain ⟨g, cs, rfl, hbg, hB, hl, hnc, hcm, htake⟩ := own_blk hown hn0
    have hle : n * 2 ≤ c * 2 := Nat.mul_le_mul_right _ hnc
    refine (markMarkedS_blk g n c cs k0 w hn hk0 hk1 hB (by omega)).mono ?_
    rintro e w' ⟨kk, rfl, k, hk, he, rfl, hg, cs', hB', hl', hcs'⟩
    obtain rfl : n = k := by simp at he; omega
    exact ⟨rfl, own_marked rfl hl hnc hcm hbg hB' hl' hcs', hg⟩
  · obtain rfl : n = 0 := by omega
    have hx : xs = [] := List.eq_nil_of_length_eq_zero (by simpa using hown.1)
    subst hx
    go_enter Try.func29, Try.ntmps29
    go_wp2_with fail
    go_loopw [1, 5] (fun kk i wr => kk = .int .i64 k0 ∧ i = .int .i64 0 ∧ w = wr) (fun _ _ _ => 0)
    case atStart => exact ⟨rfl, rfl, rfl⟩
    case round =>
      obtain ⟨rfl, rfl, rfl⟩ := hrel
      go_wp2_with fail
      go_ret
      exact ⟨by simp, hown, World.grownBy.refl _ _⟩

theorem openIntS {H : Type} {enc : TypeId × Value → H} {W : World} {base b0 : Nat} {sp : Nat → Bool} {hd : Bool} {r : Reach} {v : Value} {d : DataW H} {q : List MemPlace} (hv : Value.okWide Try.prog W r b0 22 v) (h : DataW.Trod enc Try.prog W base sp hd 22 v d q) :
    ∃ (A : Option Addr) (n c : Nat) (xs : List Int), v = .slice A n c ∧ n ≤ 9223372036854775807 ∧ Rd W 1 A n (xs.flatMap encInt) :=
  open_rows encInt 1 (by omega) encInt_len (fun f => ⟨f 0, fun j hj => by rcases j with _ | j <;> first | rfl | omega⟩) Try.underlying22 (by kernel_rfl) (by kernel_rfl) hv h

theorem infoInt : (Try.prog.info? 3).map (fun i => (i.zero, i.size, i.bytes)) = some (some (.int .i64 0), 1, 8) := by kernel_rfl
set_option maxHeartbeats 1000000 in
theorem toIntS_any (A : Option Addr) (n c : Nat) (xs : List Int) (w : World) (hn : n ≤ 1048576) (hr : Rd w 1 A n (xs.map (Value.int .i64))) :
    Calls Try.prog 13 #[.slice A n c] w fun e w' => ∃ g, e = .returned (.slice (some ⟨g, 0, none⟩) n n) ∧ w'.ownsRow w.heap.size 3 1 (.slice (some ⟨g, 0, none⟩) n n) n (xs.map (Value.int .i64)) ∧ Below w.heap.size w w' := by
  rw [← map_flat] at hr ⊢
  obtain ⟨i0, hi, hz0, hz1, hz2⟩ := info_parts infoInt
  have hmk := fun W => run_make (P := Try.prog) W 22 3 i0 _ Try.underlying22 hi hz0 .i64 .i64 (n : Int) (n : Int) (by omega) (by omega) (by rw [hz2]; omega) (by omega)
  rw [hz1] at hmk
  go_enter Try.func13, Try.ntmps13
  go_wp2_with fail
  clear hmk
  go_loopw [4] (ToRel w w.heap.size 3 n 1 (xs.flatMap encInt)) (fun i _ => n - (intOf i).toNat)
  case atStart => exact toRel_start1
  case round =>
    obtain ⟨k, hk, rfl, cs, hB, hl, hcs, hb⟩ := hrel
    by_cases hlt : k < n
    · obtain ⟨b, o, rfl, hbl, hcell⟩ := hr.2 (by omega)
      have hlx : k < xs.length := by have h1 := hr.1; rw [flat_len encInt 1 encInt_len] at h1; omega
      have hx : xs[k]? = some xs[k] := List.getElem?_eq_getElem hlx
      generalize xs[k] = x at hx
      have c0 : wr.cell? ⟨b, o + k, none⟩ = some (.int .i64 x) := (hb.cell (p := ⟨b, o + k, none⟩) hbl).trans (hcell _ _ (int_get xs k x hx))
      have HX := Lib.hid hx
      have HC := Lib.hid hcs
      have q0 : wr.cell? ⟨w.heap.size, k, none⟩ = some (cs[k]'(by omega)) := by rw [hB.cell, List.getElem?_eq_getElem (by omega)]
      have f0 := hB.frozen k
      clear hx hcell hcs
      go_wp2_with fail
      try (go_region; try go_wp2_with fail)
      go_roundw
      case rel => exact toRel_step1 HX.out hlt hl HC.out (hB.set_ _ _) (hb.setCell (Nat.le_refl _) _)
      case measure => simp [intOf]; omega
    · go_wp2_with fail
      go_ret
      exact ⟨_, rfl, own_of_blk (toRel_done (by omega) hB hl hr.1 hcs) hr.1 hn (Nat.le_refl _), hb⟩

set_option maxHeartbeats 1000000 in
theorem eqIntS_same (A B : Option Addr) (n c d : Nat) (xs : List Int) (w : World) (hn : n ≤ 1048576) (hr : Rd w 1 A n (xs.map (Value.int .i64))) (hr2 : Rd w 1 B n (xs.map (Value.int .i64))) :
    Calls Try.prog 15 #[.slice A n c, .slice B n d] w fun e w' => e = .returned (.bool true) ∧ Below w.heap.size w w' := by
  go_enter Try.func15, Try.ntmps15
  go_wp2_with fail
  go_loopw [5] (EqRel w n) (fun i _ => n - (intOf i).toNat)
  case atStart => exact ⟨0, Nat.zero_le _, rfl, ext_refl w⟩
  case round =>
    obtain ⟨k, hk, rfl, hb⟩ := hrel
    by_cases hlt : k < n
    · obtain ⟨b, o, x, rfl, hbl, hx, hcell⟩ := hr.int k hlt
      obtain ⟨b2, o2, x2, rfl, hbl2, hx2, hcell2⟩ := hr2.int k hlt
      rw [hx] at hx2
      obtain rfl := Option.some.inj hx2
      have c0 : wr.cell? ⟨b, o + k, none⟩ = some (.int .i64 x) := (hb.cell (p := ⟨b, o + k, none⟩) hbl).trans hcell
      have d0 : wr.cell? ⟨b2, o2 + k, none⟩ = some (.int .i64 x) := (hb.cell (p := ⟨b2, o2 + k, none⟩) hbl2).trans hcell2
      clear hx hx2 hcell hcell2
      go_wp2_with fail
      go_quiet (fail)
      go_wp2_with fail
      go_roundw
      case rel => exact ⟨k + 1, by omega, by go_num, ext_drewN hb _⟩
      case measure => simp [intOf]; omega
    · go_wp2_with fail
      go_ret
      exact ⟨rfl, hb⟩

set_option maxHeartbeats 1000000 in
theorem markIntS_blk (g n c : Nat) (cs0 : List Value) (k0 : Int) (w : World) (hn : n ≤ 1048576) (hk0 : 0 ≤ k0) (hk1 : k0 ≤ 1000000000000) (hB0 : Blk w g 3 cs0) (hl0 : n * 1 ≤ cs0.length) :
    Calls Try.prog 20 #[.slice (some ⟨g, 0, none⟩) n c, .int .i64 k0] w fun e w' => ∃ kk, e = .returned kk ∧ MarkRel w g 3 n 1 cs0 k0 kk (.int .i64 n) w' := by
  go_enter Try.func20, Try.ntmps20
  go_wp2_with fail
  go_loopw [1, 5] (MarkRel w g 3 n 1 cs0 k0) (fun _ i _ => n - (intOf i).toNat)
  case atStart => exact markRel_start hB0
  case round =>
    obtain ⟨k, hk, rfl, rfl, hg, cs, hB, hl, hcs⟩ := hrel
    by_cases hlt : k < n
    · have HC := Lib.hid hcs
      have hl' : cs.length = cs0.length := hl
      obtain ⟨y0, q0⟩ : ∃ y, wr.cell? ⟨g, k, none⟩ = some y := ⟨cs[k]'(by omega), by rw [hB.cell, List.getElem?_eq_getElem (by omega)]⟩
      have f0 := hB.frozen (k)
      have HL := Lib.hid hl
      clear hcs hl hl'
      go_wp2_with fail
      go_roundw
      case rel => exact markRel_step1 hlt (by omega) HL.out HC.out (hB.set_ _ _) (by simp) (grownBy_setCell hg _ _) (by simp <;> omega)
      case measure => simp [intOf]; omega
    · go_wp2_with fail
      go_ret
      obtain rfl : k = n := by omega
      exact ⟨_, rfl, k, Nat.le_refl _, rfl, rfl, hg, cs, hB, hl, hcs⟩

set_option maxHeartbeats 1000000 in
theorem markIntS_own (A : Option Addr) (n c base : Nat) (xs : List Value) (k0 : Int) (w : World) (hn : n ≤ 1048576) (hk0 : 0 ≤ k0) (hk1 : k0 ≤ 1000000000000) (hown : w.ownsRow base 3 1 (.slice A n c) n xs) :
    Calls Try.prog 20 #[.slice A n c, .int .i64 k0] w fun e w' => e = .returned (.int .i64 (k0 + (n : Int) * 1)) ∧ w'.ownsRow base 3 1 (.slice A n c) n (marks k0 (n * 1)) ∧ w.grownBy w' (Value.ownBlock (.slice A n c)) := by
  by_cases hn0 : 0 < n
  · obtain ⟨g, cs, rfl, hbg, hB, hl, hnc, hcm, htake⟩ := own_blk hown hn0
    have hle : n * 1 ≤ c * 1 := Nat.mul_le_mul_right _ hnc
    refine (markIntS_blk g n c cs k0 w hn hk0 hk1 hB (by omega)).mono ?_
    rintro e w' ⟨kk, rfl, k, hk, he, rfl, hg, cs', hB', hl', hcs'⟩
    obtain rfl : n = k := by simp at he; omega
    exact ⟨rfl, own_marked rfl hl hnc hcm hbg hB' hl' hcs', hg⟩
  · obtain rfl : n = 0 := by omega
    have hx : xs = [] := List.eq_nil_of_length_eq_zero (by simpa using hown.1)
    subst hx
    go_enter Try.func20, Try.ntmps20
    go_wp2_with fail
    go_loopw [1, 5] (fun kk i wr => kk = .int .i64 k0 ∧ i = .int .i64 0 ∧ w = wr) (fun _ _ _ => 0)
    case atStart => exact ⟨rfl, rfl, rfl⟩
    case round =>
      obtain ⟨rfl, rfl, rfl⟩ := hrel
      go_wp2_with fail
      go_ret
      exact ⟨by simp, hown, World.grownBy.refl _ _⟩

set_option maxHeartbeats 1000000 in
theorem heldIntS_any (A : Option Addr) (n c : Nat) (k0 : Int) (w : World) (hn : n ≤ 1048576) (hk0 : 0 ≤ k0) (hk1 : k0 ≤ 1000000000000) (hr : Rd w 1 A n (marks k0 (n * 1))) :
    Calls Try.prog 21 #[.slice A n c, .int .i64 k0] w fun e w' => e = .returned (.int .i64 (k0 + (n : Int) * 1)) ∧ w = w' := by
  go_enter Try.func21, Try.ntmps21
  go_wp2_with fail
  go_loop [1, 5] (HeldRel n 1 k0) (fun _ i => n - (intOf i).toNat)
  case atStart => exact ⟨0, Nat.zero_le _, rfl, by simp⟩
  case round =>
    obtain ⟨k, hk, rfl, rfl⟩ := hrel
    by_cases hlt : k < n
    · obtain ⟨b, o, rfl, hbl, hcell⟩ := hr.2 (by omega)
      have c0 : w.cell? ⟨b, o + k, none⟩ = some (.int .i64 (k0 + (k : Int))) := by have h := hcell k _ (marks_get k0 (n * 1) k (by omega)); simpa using h
      clear hcell
      go_wp2_with fail
      go_round
      case rel => exact ⟨k + 1, by omega, by go_num, by simp <;> omega⟩
      case measure => simp [intOf]; omega
    · go_wp2_with fail
      go_ret
      obtain rfl : k = n := by omega
      exact ⟨by simp, rfl⟩

def inB (n a b : Int) : Bool := decide (a ≤ n) && decide (n ≤ b)
theorem inB_iff {n a b : Int} : inB n a b = true ↔ a ≤ n ∧ n ≤ b := by simp [inB]
theorem inB_not {n a b : Int} (h : inB n a b = false) : n < a ∨ b < n := by
  rcases Int.lt_or_le n a with h1 | h1
  · exact .inl h1
  · rcases Int.lt_or_le b n with h2 | h2
    · exact .inr h2
    · rw [inB_iff.2 ⟨h1, h2⟩] at h; cases h
theorem mul_bd {a b A B : Int} (h1 : 0 ≤ a) (h2 : a ≤ A) (h3 : 0 ≤ b) (h4 : b ≤ B) : 0 ≤ a * b ∧ a * b ≤ A * B :=
  ⟨Int.mul_nonneg h1 h3, Int.mul_le_mul h2 h4 h3 (by omega)⟩

set_option maxHeartbeats 400000 in
theorem l1In_any (n a b : Int) (w : World) :
    Calls Try.prog 52 #[.int .i64 n, .int .i64 a, .int .i64 b] w fun e w' => e = .returned (.bool (inB n a b)) ∧ w = w' := by
  go_enter Try.func52, Try.ntmps52
  go_wp2
  all_goals (go_ret; simp [inB, *] <;> omega)

set_option maxHeartbeats 400000 in
theorem l1Most_any (a b : Int) (w : World) :
    Calls Try.prog 53 #[.int .i64 a, .int .i64 b] w fun e w' => e = .returned (.int .i64 (max a b)) ∧ w = w' := by
  by_cases h : b < a
  · go_enter Try.func53, Try.ntmps53
    go_wp2
    go_ret
    rw [Int.max_eq_left (by omega)]
    simp
  · go_enter Try.func53, Try.ntmps53
    go_wp2
    go_ret
    rw [Int.max_eq_right (by omega)]
    simp

def AllRel (n : Nat) (xs : List Int) (lo hi : Int) (i : Value) : Prop := ∃ k : Nat, k ≤ n ∧ i = .int .i64 k ∧ (xs.take k).all (fun x => inB x lo hi) = true
theorem take_snoc {α : Type} {xs : List α} {k : Nat} {x : α} (h : xs[k]? = some x) : xs.take (k + 1) = xs.take k ++ [x] := by rw [List.take_add_one, h]; rfl
theorem all_false {α : Type} {xs : List α} {k : Nat} {x : α} {f : α → Bool} (h : xs[k]? = some x) (hf : f x = false) : xs.all f = false := by
  rw [List.all_eq_false]
  exact ⟨x, List.mem_of_getElem? h, by simp [hf]⟩
set_option maxHeartbeats 400000 in
theorem l1All_any (A : Option Addr) (n c : Nat) (xs : List Int) (lo hi : Int) (w : World) (hn : n ≤ 1048576) (hr : Rd w 1 A n (xs.map (Value.int .i64))) :
    Calls Try.prog 55 #[.slice A n c, .int .i64 lo, .int .i64 hi] w fun e w' => e = .returned (.bool (xs.all fun x => inB x lo hi)) ∧ w = w' := by
  go_enter Try.func55, Try.ntmps55
  go_wp2_with fail
  go_loop [11] (AllRel n xs lo hi) (fun i => n - (intOf i).toNat)
  case atStart => exact ⟨0, Nat.zero_le _, rfl, by simp⟩
  case round =>
    obtain ⟨k, hk, rfl, ha⟩ := hrel
    by_cases hlt : k < n
    · obtain ⟨b, o, x, rfl, hbl, hx, hc⟩ := hr.int k hlt
      have HX := Lib.hid hx
      have HA := Lib.hid ha
      clear hx ha
      cases hin : inB x lo hi with
      | false =>
        go_wp2_with (go_at_call 52; refine (l1In_any _ _ _ _).mono ?_; rintro e w' ⟨rfl, rfl⟩)
        go_ret
        exact ⟨by rw [all_false HX.out hin]; rfl, rfl⟩
      | true =>
        go_wp2_with (go_at_call 52; refine (l1In_any _ _ _ _).mono ?_; rintro e w' ⟨rfl, rfl⟩)
        go_round
        case rel => exact ⟨k + 1, by omega, by go_num, by rw [take_snoc HX.out, List.all_append, HA.out]; simp [hin]⟩
        case measure => simp [intOf]; omega
    · have hl := hr.len1
      have HA := Lib.hid ha
      clear ha
      go_wp2_with fail
      go_ret
      have h2 := HA.out
      rw [List.take_of_length_le (by omega)] at h2
      exact ⟨by rw [h2]; rfl, rfl⟩

end Go.Proofs.Ytgdccclpibbbeaa
