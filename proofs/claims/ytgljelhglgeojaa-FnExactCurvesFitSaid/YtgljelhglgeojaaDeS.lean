/- Lists of sessions: contracts of the laws' own helpers (counter, copier, comparer, marker). -/
import Derived.Test.YtgljelhglgeojaaDeE
import Derived.StillTailTactics
namespace Go.Proofs.Ytgljelhglgeojaa
open Go.RowKit

def sumM (xs : List SesV) : Nat := (xs.map SesV.m).sum
theorem sumM_take {xs : List SesV} {k : Nat} {x : SesV} (h : xs[k]? = some x) : sumM (xs.take (k + 1)) = sumM (xs.take k) + x.m := by
  rw [take_snoc h]; simp [sumM]
theorem sumM_le (xs : List SesV) (k : Nat) : sumM (xs.take k) ≤ sumM xs := by
  have h : sumM xs = sumM (xs.take k) + sumM (xs.drop k) := by
    unfold sumM
    rw [← List.sum_append_nat, ← List.map_append, List.take_append_drop]
  omega
theorem sumM_mem {xs : List SesV} {k : Nat} {x : SesV} (h : xs[k]? = some x) : x.m ≤ sumM xs := by
  have h1 := sumM_take h
  have h2 := sumM_le xs (k + 1)
  omega
def SZ (w : World) (y : SesV) : Prop := y.m ≤ 1048576 ∧ y.m ≤ y.c ∧ Rd w 1 y.A y.m (y.zs.map (Value.int .i64))
/-- A session whose sizes lie in a block of the call's own. -/
def SesW (w : World) (base : Nat) (y : SesV) : Prop := y.zs.length = y.m ∧ y.m ≤ 1048576 ∧ y.c = y.m ∧ ∃ g, y.A = some ⟨g, 0, none⟩ ∧ base ≤ g ∧ Blk w g 3 (y.zs.map (Value.int .i64))
theorem SesW.sz {w : World} {base : Nat} {y : SesV} (h : SesW w base y) : SZ w y := by
  obtain ⟨h1, h2, h3, g, hA, hg, hB⟩ := h
  exact ⟨h2, by omega, by rw [hA]; exact Rd.of_blk hB (by simp [h1])⟩
theorem SesW.below {w w' : World} {base : Nat} {y : SesV} (h : SesW w base y) (hb : Below w.heap.size w w') : SesW w' base y := by
  obtain ⟨h1, h2, h3, g, hA, hg, hB⟩ := h
  exact ⟨h1, h2, h3, g, hA, hg, hB.below hb⟩
theorem SesW.far {w : World} {base : Nat} {y : SesV} (h : SesW w base y) {p : Addr} (hp : p.block < base) (u : Value) : SesW (w.setCell p u) base y := by
  obtain ⟨h1, h2, h3, g, hA, hg, hB⟩ := h
  exact ⟨h1, h2, h3, g, hA, hg, hB.far (p := p) (by omega) u⟩
theorem SesW.base {w : World} {base b2 : Nat} {y : SesV} (h : SesW w base y) (hb : b2 ≤ base) : SesW w b2 y := by
  obtain ⟨h1, h2, h3, g, hA, hg, hB⟩ := h
  exact ⟨h1, h2, h3, g, hA, by omega, hB⟩
theorem SZ.below {w w' : World} {y : SesV} (h : SZ w y) (hb : Below w.heap.size w w') : SZ w' y := ⟨h.1, h.2.1, h.2.2.below hb⟩
theorem sesW_own {w : World} {base g : Nat} {x : Ses} {m : Nat} (hm : m ≤ 1048576) (hl : x.zs.length = m) (h : w.ownsRow base 3 1 (.slice (some ⟨g, 0, none⟩) m m) m (x.zs.map (Value.int .i64))) : SesW w base ⟨x, some ⟨g, 0, none⟩, m, m⟩ := by
  refine ⟨hl, hm, rfl, g, rfl, ?_⟩
  rcases h.2 with ⟨h0, _⟩ | ⟨g', cap, cur, hv, hb, hg, _, _, hcs, htake⟩
  · cases h0
  · injection hv with hA _ hc
    injection hA with hA
    injection hA with h1 _
    subst h1; subst hc
    refine ⟨hb, ?_⟩
    have e : cur.toList = x.zs.map (Value.int .i64) := by rw [← htake, List.take_of_length_le (by simp [hcs])]
    unfold Blk
    rw [hg]
    congr 1
    congr 1
    rw [← e]

def szV (left : Int) (t : Nat) : Int := if left < (t : Int) then -1 else left - t
theorem szV_lt {left : Int} {t : Nat} (h : left < (t : Int)) : szV left t = -1 := by unfold szV; rw [if_pos h]
theorem szV_ge {left : Int} {t : Nat} (h : (t : Int) ≤ left) : szV left t = left - t := by unfold szV; rw [if_neg (by omega)]
theorem szV_pos {left : Int} {t : Nat} (h : ¬ szV left t < 0) : (t : Int) ≤ left := by
  apply Classical.byContradiction
  intro h2
  exact h (by rw [szV_lt (by omega)]; decide)
def SzRel (w : World) (n : Nat) (xs : List SesV) (left : Int) (l i : Value) (wr : World) : Prop :=
  ∃ k : Nat, k ≤ n ∧ i = .int .i64 k ∧ l = .int .i64 (left - n - sumM (xs.take k)) ∧ 0 ≤ left - n - sumM (xs.take k) ∧ Below w.heap.size w wr
set_option maxRecDepth 100000 in
set_option maxHeartbeats 4000000 in
theorem szSessionS_any (A : Option Addr) (n c : Nat) (xs : List SesV) (left : Int) (w : World) (hn : n ≤ 9223372036854775807) (h1 : 0 ≤ left) (h2 : left ≤ 1048576) (hr : Rd w 7 A n (xs.flatMap encSes)) (hz : ∀ x ∈ xs, x.m ≤ 9223372036854775807) :
    Calls Try.prog 13 #[.slice A n c, .int .i64 left] w fun e w' => e = .returned (.int .i64 (szV left (n + sumM xs))) ∧ Below w.heap.size w w' := by
  have hl : xs.length = n := by have h1 := hr.1; rw [flat_len encSes 7 encSes_len] at h1; omega
  have HL := Lib.hid hl
  clear hl
  by_cases hbig : left < (n : Int)
  · rw [szV_lt (by omega)]
    go_enter Try.func13, Try.ntmps13
    go_wp2_with fail
    go_ret
    exact ⟨rfl, ext_refl w⟩
  · go_enter Try.func13, Try.ntmps13
    go_wp2_with fail
    go_loopw [1, 5] (SzRel w n xs left) (fun _ i _ => n - (intOf i).toNat)
    case atStart => exact ⟨0, Nat.zero_le _, rfl, by simp [sumM], by simp [sumM]; omega, ext_refl w⟩
    case round =>
      obtain ⟨k, hk, rfl, rfl, hge, hb⟩ := hrel
      by_cases hlt : k < n
      · 
        obtain ⟨b, o, rfl, hblb, hcellb⟩ := hr.2 (by omega)
        have hblrbx : b < wr.heap.size := Nat.lt_of_lt_of_le hblb hb.size
        have hlxx : k < xs.length := by rw [HL.out]; omega
        have hxx : xs[k]? = some xs[k] := List.getElem?_eq_getElem hlxx
        generalize xs[k] = x at hxx
        have c0 : wr.cell? ⟨b, o + (k * 7 + 0), none⟩ = some (.int .i64 x.f) := (hb.cell (p := ⟨b, o + (k * 7 + 0), none⟩) hblb).trans (hcellb _ _ ((flat_get encSes 7 encSes_len xs k 0 x hxx (by omega)).trans rfl))
        have c1 : wr.cell? ⟨b, o + (k * 7 + 1), none⟩ = some (.int .i64 x.l) := (hb.cell (p := ⟨b, o + (k * 7 + 1), none⟩) hblb).trans (hcellb _ _ ((flat_get encSes 7 encSes_len xs k 1 x hxx (by omega)).trans rfl))
        have c2 : wr.cell? ⟨b, o + (k * 7 + 2), none⟩ = some (.int .i64 x.s) := (hb.cell (p := ⟨b, o + (k * 7 + 2), none⟩) hblb).trans (hcellb _ _ ((flat_get encSes 7 encSes_len xs k 2 x hxx (by omega)).trans rfl))
        have c3 : wr.cell? ⟨b, o + (k * 7 + 3), none⟩ = some (.int .i64 x.st) := (hb.cell (p := ⟨b, o + (k * 7 + 3), none⟩) hblb).trans (hcellb _ _ ((flat_get encSes 7 encSes_len xs k 3 x hxx (by omega)).trans rfl))
        have c4 : wr.cell? ⟨b, o + (k * 7 + 4), none⟩ = some (.int .i64 x.ba) := (hb.cell (p := ⟨b, o + (k * 7 + 4), none⟩) hblb).trans (hcellb _ _ ((flat_get encSes 7 encSes_len xs k 4 x hxx (by omega)).trans rfl))
        have c5 : wr.cell? ⟨b, o + (k * 7 + 5), none⟩ = some (.int .i64 x.se) := (hb.cell (p := ⟨b, o + (k * 7 + 5), none⟩) hblb).trans (hcellb _ _ ((flat_get encSes 7 encSes_len xs k 5 x hxx (by omega)).trans rfl))
        have c6 : wr.cell? ⟨b, o + (k * 7 + 6), none⟩ = some (.slice x.A x.m x.c) := (hb.cell (p := ⟨b, o + (k * 7 + 6), none⟩) hblb).trans (hcellb _ _ ((flat_get encSes 7 encSes_len xs k 6 x hxx (by omega)).trans rfl))
        simp only [Nat.add_zero, ← Nat.add_assoc] at c0 c1 c2 c3 c4 c5 c6
        have HX := Lib.hid hxx
        clear hxx hlxx hcellb
        have HS := Lib.hid (sumM_take HX.out)
        have HS2 := Lib.hid (sumM_le xs (k + 1))
        have hxm := hz x (List.mem_of_getElem? HX.out)
        have HG := Lib.hid hge
        generalize hsk : sumM (xs.take k) = s at *
        have hs2 : (s : Int) ≤ left := by omega
        go_wp2_with fail
        refine (szSession_any x (left - n - s) _ hxm hge (by omega)).mono ?_; rintro e w1 ⟨rfl, hb1⟩
        by_cases hover : left - n - s < (x.m : Int)
        · rw [if_pos hover]
          go_wp2_with fail
          go_ret
          exact ⟨ret_int (by rw [szV_lt (by have := HS.out; have := HS2.out; omega)]), ext_trans hb hb1⟩
        · rw [if_neg hover]
          have hnn : left - n - s - x.m = left - n - (s + x.m : Nat) := by omega
          have hnn2 : 0 ≤ left - n - s - x.m := by omega
          go_wp2_with fail
          go_roundw
          case rel => exact ⟨k + 1, by omega, by go_num, by rw [HS.out]; congr 1, by have := HS.out; omega, ext_trans hb hb1⟩
          case measure => simp [intOf]; omega
      · go_wp2_with fail
        go_ret
        have e0 : xs.take k = xs := List.take_of_length_le (by rw [HL.out]; omega)
        rw [e0] at hge ⊢
        exact ⟨ret_int (by rw [szV_ge (by omega)]; omega), hb⟩

theorem infoSes : (Try.prog.info? 39).map (fun i => (i.zero, i.size, i.bytes)) = some (some (.agg #[.int .i64 0, .int .i64 0, .int .i64 0, .int .i64 0, .int .i64 0, .int .i64 0, .slice none 0 0]), 7, 72) := by kernel_rfl
def ToS (w : World) (n : Nat) (xs : List SesV) (i : Value) (wr : World) : Prop :=
  ∃ k : Nat, k ≤ n ∧ i = .int .i64 k ∧ ∃ (ys : List SesV) (cs : List Value), ys.length = k ∧ ys.map SesV.toSes = (xs.take k).map SesV.toSes ∧ (∀ y ∈ ys, SesW wr (w.heap.size + 1) y) ∧
    Blk wr w.heap.size 39 cs ∧ cs.length = n * 7 ∧ (∀ j, j < k * 7 → cs[j]? = (ys.flatMap encSes)[j]?) ∧ Below w.heap.size w wr
theorem toS_step {ys : List SesV} {y : SesV} {cs : List Value} {k n : Nat} (hl : ys.length = k) (hk : k < n) (hcl : cs.length = n * 7) (hcs : ∀ j, j < k * 7 → cs[j]? = (ys.flatMap encSes)[j]?) :
    ∀ j, j < (k + 1) * 7 → (SetRow cs (k * 7) (encSes y))[j]? = ((ys ++ [y]).flatMap encSes)[j]? := by
  intro j hj
  have hfl : (ys.flatMap encSes).length = k * 7 := by rw [flat_len encSes 7 encSes_len, hl]
  rw [setRow_get _ _ _ _ (by rw [encSes_len, hcl]; omega), encSes_len, List.flatMap_append]
  by_cases h1 : k * 7 ≤ j ∧ j < k * 7 + 7
  · rw [if_pos h1, List.getElem?_append_right (by omega), hfl]; simp
  · rw [if_neg h1, List.getElem?_append_left (by omega)]
    exact hcs j (by omega)
/-- What the copier hands back: a row of sessions whose sizes lie in blocks of the call's own. -/
def RetS (w : World) (n : Nat) (xs : List SesV) (e : Ending) (w' : World) : Prop :=
  ∃ ys : List SesV, e = .returned (.slice (some ⟨w.heap.size, 0, none⟩) n n) ∧ ys.map SesV.toSes = xs.map SesV.toSes ∧ (∀ y ∈ ys, SesW w' (w.heap.size + 1) y) ∧ Blk w' w.heap.size 39 (ys.flatMap encSes) ∧ Below w.heap.size w w'
set_option maxRecDepth 100000 in
set_option maxHeartbeats 4000000 in
theorem toSessionS_any (A : Option Addr) (n c : Nat) (xs : List SesV) (w : World) (hn : n ≤ 1048576) (hr : Rd w 7 A n (xs.flatMap encSes)) (hz : ∀ x ∈ xs, x.m ≤ 1048576 ∧ Rd w 1 x.A x.m (x.zs.map (Value.int .i64))) :
    Calls Try.prog 15 #[.slice A n c] w (RetS w n xs) := by
  have hl : xs.length = n := by have h1 := hr.1; rw [flat_len encSes 7 encSes_len] at h1; omega
  have HL := Lib.hid hl
  clear hl
  obtain ⟨i0, hi, hz0, hz1, hz2⟩ := info_parts infoSes
  have hmk := fun W => run_make (P := Try.prog) W 26 39 i0 _ Try.underlying26 hi hz0 .i64 .i64 (n : Int) (n : Int) (by omega) (by omega) (by rw [hz2]; omega) (by omega)
  rw [hz1] at hmk
  go_enter Try.func15, Try.ntmps15
  go_wp2_with fail
  clear hmk
  go_loopw [4] (ToS w n xs) (fun i _ => n - (intOf i).toNat)
  case atStart => exact ⟨0, Nat.zero_le _, rfl, [], (madeCells _ (n * 7)).toList, rfl, rfl, by simp, heap_alloc_new w _, by rw [Array.length_toList, size_madeCells], fun j hj => by omega, ext_alloc (ext_refl w) _⟩
  case round =>
    obtain ⟨k, hk, rfl, ys, cs, hyl, hym, hyw, hB, hcl, hcs, hb⟩ := hrel
    have HCS := Lib.hid hcs
    have HYM := Lib.hid hym
    clear hcs hym
    by_cases hlt : k < n
    · 
      obtain ⟨b, o, rfl, hblb, hcellb⟩ := hr.2 (by omega)
      have hblrbx : b < wr.heap.size := Nat.lt_of_lt_of_le hblb hb.size
      have hlxx : k < xs.length := by rw [HL.out]; omega
      have hxx : xs[k]? = some xs[k] := List.getElem?_eq_getElem hlxx
      generalize xs[k] = x at hxx
      have c0 : wr.cell? ⟨b, o + (k * 7 + 0), none⟩ = some (.int .i64 x.f) := (hb.cell (p := ⟨b, o + (k * 7 + 0), none⟩) hblb).trans (hcellb _ _ ((flat_get encSes 7 encSes_len xs k 0 x hxx (by omega)).trans rfl))
      have c1 : wr.cell? ⟨b, o + (k * 7 + 1), none⟩ = some (.int .i64 x.l) := (hb.cell (p := ⟨b, o + (k * 7 + 1), none⟩) hblb).trans (hcellb _ _ ((flat_get encSes 7 encSes_len xs k 1 x hxx (by omega)).trans rfl))
      have c2 : wr.cell? ⟨b, o + (k * 7 + 2), none⟩ = some (.int .i64 x.s) := (hb.cell (p := ⟨b, o + (k * 7 + 2), none⟩) hblb).trans (hcellb _ _ ((flat_get encSes 7 encSes_len xs k 2 x hxx (by omega)).trans rfl))
      have c3 : wr.cell? ⟨b, o + (k * 7 + 3), none⟩ = some (.int .i64 x.st) := (hb.cell (p := ⟨b, o + (k * 7 + 3), none⟩) hblb).trans (hcellb _ _ ((flat_get encSes 7 encSes_len xs k 3 x hxx (by omega)).trans rfl))
      have c4 : wr.cell? ⟨b, o + (k * 7 + 4), none⟩ = some (.int .i64 x.ba) := (hb.cell (p := ⟨b, o + (k * 7 + 4), none⟩) hblb).trans (hcellb _ _ ((flat_get encSes 7 encSes_len xs k 4 x hxx (by omega)).trans rfl))
      have c5 : wr.cell? ⟨b, o + (k * 7 + 5), none⟩ = some (.int .i64 x.se) := (hb.cell (p := ⟨b, o + (k * 7 + 5), none⟩) hblb).trans (hcellb _ _ ((flat_get encSes 7 encSes_len xs k 5 x hxx (by omega)).trans rfl))
      have c6 : wr.cell? ⟨b, o + (k * 7 + 6), none⟩ = some (.slice x.A x.m x.c) := (hb.cell (p := ⟨b, o + (k * 7 + 6), none⟩) hblb).trans (hcellb _ _ ((flat_get encSes 7 encSes_len xs k 6 x hxx (by omega)).trans rfl))
      simp only [Nat.add_zero, ← Nat.add_assoc] at c0 c1 c2 c3 c4 c5 c6
      have HX := Lib.hid hxx
      clear hxx hlxx hcellb
      obtain ⟨hxm, hxr⟩ := hz x (List.mem_of_getElem? HX.out)
      go_wp2_with fail
      refine (toSession_any x _ hxm (hxr.below hb)).mono ?_
      rintro e w1 ⟨g, rfl, ow1, hb1⟩
      have hB1 := hB.below hb1
      have HW := Lib.hid (fun y hy => (hyw y hy).below hb1)
      have hy1 := (sesW_own hxm hxr.len1 ow1).base (b2 := w.heap.size + 1) (Nat.lt_of_lt_of_le hB.lt (Nat.le_refl _))
      have q0 : w1.cell? ⟨w.heap.size, k * 7, none⟩ = some (cs[k * 7]'(by omega)) := by rw [hB1.cell, List.getElem?_eq_getElem (by omega)]
      have f0 := hB1.frozen (k * 7)
      have q1 : w1.cell? ⟨w.heap.size, k * 7 + 1, none⟩ = some (cs[k * 7 + 1]'(by omega)) := by rw [hB1.cell, List.getElem?_eq_getElem (by omega)]
      have f1 := hB1.frozen (k * 7 + 1)
      have q2 : w1.cell? ⟨w.heap.size, k * 7 + 2, none⟩ = some (cs[k * 7 + 2]'(by omega)) := by rw [hB1.cell, List.getElem?_eq_getElem (by omega)]
      have f2 := hB1.frozen (k * 7 + 2)
      have q3 : w1.cell? ⟨w.heap.size, k * 7 + 3, none⟩ = some (cs[k * 7 + 3]'(by omega)) := by rw [hB1.cell, List.getElem?_eq_getElem (by omega)]
      have f3 := hB1.frozen (k * 7 + 3)
      have q4 : w1.cell? ⟨w.heap.size, k * 7 + 4, none⟩ = some (cs[k * 7 + 4]'(by omega)) := by rw [hB1.cell, List.getElem?_eq_getElem (by omega)]
      have f4 := hB1.frozen (k * 7 + 4)
      have q5 : w1.cell? ⟨w.heap.size, k * 7 + 5, none⟩ = some (cs[k * 7 + 5]'(by omega)) := by rw [hB1.cell, List.getElem?_eq_getElem (by omega)]
      have f5 := hB1.frozen (k * 7 + 5)
      have q6 : w1.cell? ⟨w.heap.size, k * 7 + 6, none⟩ = some (cs[k * 7 + 6]'(by omega)) := by rw [hB1.cell, List.getElem?_eq_getElem (by omega)]
      have f6 := hB1.frozen (k * 7 + 6)
      go_wp2_with fail
      go_roundw
      case rel =>
        have hlb : w.heap.size < w.heap.size + 1 := Nat.lt_succ_self _
        refine ⟨k + 1, by omega, by go_num, ys ++ [⟨x.toSes, some ⟨g, 0, none⟩, x.m, x.m⟩], SetRow cs (k * 7) (encSes ⟨x.toSes, some ⟨g, 0, none⟩, x.m, x.m⟩), by simp [hyl], ?_, fun y hy => ?_, (((((((hB1.set_ _ _).set_ _ _).set_ _ _).set_ _ _).set_ _ _).set_ _ _).set_ _ _), by rw [setRow_length]; exact hcl, toS_step hyl hlt hcl HCS.out, ((((((((hb.trans (hb1.mono hb.size)).setCell (Nat.le_refl _) _).setCell (Nat.le_refl _) _).setCell (Nat.le_refl _) _).setCell (Nat.le_refl _) _).setCell (Nat.le_refl _) _).setCell (Nat.le_refl _) _).setCell (Nat.le_refl _) _)⟩
        · rw [take_snoc HX.out, List.map_append, List.map_append, HYM.out]; rfl
        · rw [List.mem_append, List.mem_singleton] at hy
          rcases hy with hy | rfl
          · exact ((((((((HW.out y hy).far hlb _).far hlb _).far hlb _).far hlb _).far hlb _).far hlb _).far hlb _)
          · exact (((((((hy1.far hlb _).far hlb _).far hlb _).far hlb _).far hlb _).far hlb _).far hlb _)
      case measure => simp [intOf]; omega
    · obtain rfl : k = n := by omega
      go_wp2_with fail
      go_ret
      refine ⟨ys, rfl, by rw [HYM.out, List.take_of_length_le (by rw [HL.out]; omega)], hyw, ?_, hb⟩
      have e : cs = ys.flatMap encSes := by
        apply List.ext_getElem?
        intro j
        by_cases hj : j < k * 7
        · exact HCS.out j hj
        · rw [List.getElem?_eq_none (by omega), List.getElem?_eq_none (by rw [flat_len encSes 7 encSes_len, hyl]; omega)]
      rw [← e]
      exact hB

theorem same_at {xs ys : List SesV} (h : xs.map SesV.toSes = ys.map SesV.toSes) {k : Nat} {x y : SesV} (hx : xs[k]? = some x) (hy : ys[k]? = some y) : x.toSes = y.toSes := by
  have h1 : (xs.map SesV.toSes)[k]? = (ys.map SesV.toSes)[k]? := by rw [h]
  rw [List.getElem?_map, List.getElem?_map, hx, hy] at h1
  simpa using h1
theorem same_is {x y : SesV} (h : x.toSes = y.toSes) (hm : x.m = y.m) : ∃ Ay cy, y = ⟨x.toSes, Ay, x.m, cy⟩ := by
  obtain ⟨y1, A, m, c⟩ := y
  simp only at h hm
  exact ⟨A, c, by rw [h, hm]⟩
set_option maxRecDepth 100000 in
set_option maxHeartbeats 4000000 in
theorem eqSessionS_same (A B : Option Addr) (n c d : Nat) (xs ys : List SesV) (w : World) (hn : n ≤ 1048576) (hsame : xs.map SesV.toSes = ys.map SesV.toSes) (hr : Rd w 7 A n (xs.flatMap encSes)) (hr2 : Rd w 7 B n (ys.flatMap encSes)) (hz : ∀ x ∈ xs, SZ w x) (hz2 : ∀ y ∈ ys, SZ w y) :
    Calls Try.prog 17 #[.slice A n c, .slice B n d] w fun e w' => e = .returned (.bool true) ∧ Below w.heap.size w w' := by
  have hl : xs.length = n := by have h1 := hr.1; rw [flat_len encSes 7 encSes_len] at h1; omega
  have hl2 : ys.length = n := by have h1 := hr2.1; rw [flat_len encSes 7 encSes_len] at h1; omega
  have HL := Lib.hid hl
  have HL2 := Lib.hid hl2
  have HSM := Lib.hid hsame
  clear hl hl2 hsame
  go_enter Try.func17, Try.ntmps17
  go_wp2_with fail
  go_loopw [5] (EqRel w n) (fun i _ => n - (intOf i).toNat)
  case atStart => exact ⟨0, Nat.zero_le _, rfl, ext_refl w⟩
  case round =>
    obtain ⟨k, hk, rfl, hb⟩ := hrel
    by_cases hlt : k < n
    · 
      obtain ⟨b, o, rfl, hblb, hcellb⟩ := hr.2 (by omega)
      have hblrbx : b < wr.heap.size := Nat.lt_of_lt_of_le hblb hb.size
      have hlxx : k < xs.length := by rw [HL.out]; omega
      have hxx : xs[k]? = some xs[k] := List.getElem?_eq_getElem hlxx
      generalize xs[k] = x at hxx
      have c0 : wr.cell? ⟨b, o + (k * 7 + 0), none⟩ = some (.int .i64 x.f) := (hb.cell (p := ⟨b, o + (k * 7 + 0), none⟩) hblb).trans (hcellb _ _ ((flat_get encSes 7 encSes_len xs k 0 x hxx (by omega)).trans rfl))
      have c1 : wr.cell? ⟨b, o + (k * 7 + 1), none⟩ = some (.int .i64 x.l) := (hb.cell (p := ⟨b, o + (k * 7 + 1), none⟩) hblb).trans (hcellb _ _ ((flat_get encSes 7 encSes_len xs k 1 x hxx (by omega)).trans rfl))
      have c2 : wr.cell? ⟨b, o + (k * 7 + 2), none⟩ = some (.int .i64 x.s) := (hb.cell (p := ⟨b, o + (k * 7 + 2), none⟩) hblb).trans (hcellb _ _ ((flat_get encSes 7 encSes_len xs k 2 x hxx (by omega)).trans rfl))
      have c3 : wr.cell? ⟨b, o + (k * 7 + 3), none⟩ = some (.int .i64 x.st) := (hb.cell (p := ⟨b, o + (k * 7 + 3), none⟩) hblb).trans (hcellb _ _ ((flat_get encSes 7 encSes_len xs k 3 x hxx (by omega)).trans rfl))
      have c4 : wr.cell? ⟨b, o + (k * 7 + 4), none⟩ = some (.int .i64 x.ba) := (hb.cell (p := ⟨b, o + (k * 7 + 4), none⟩) hblb).trans (hcellb _ _ ((flat_get encSes 7 encSes_len xs k 4 x hxx (by omega)).trans rfl))
      have c5 : wr.cell? ⟨b, o + (k * 7 + 5), none⟩ = some (.int .i64 x.se) := (hb.cell (p := ⟨b, o + (k * 7 + 5), none⟩) hblb).trans (hcellb _ _ ((flat_get encSes 7 encSes_len xs k 5 x hxx (by omega)).trans rfl))
      have c6 : wr.cell? ⟨b, o + (k * 7 + 6), none⟩ = some (.slice x.A x.m x.c) := (hb.cell (p := ⟨b, o + (k * 7 + 6), none⟩) hblb).trans (hcellb _ _ ((flat_get encSes 7 encSes_len xs k 6 x hxx (by omega)).trans rfl))
      simp only [Nat.add_zero, ← Nat.add_assoc] at c0 c1 c2 c3 c4 c5 c6
      have HX := Lib.hid hxx
      clear hxx hlxx hcellb
      obtain ⟨b2, o2, rfl, hblb2, hcellb2⟩ := hr2.2 (by omega)
      have hblb2x : b2 < wr.heap.size := Nat.lt_of_lt_of_le hblb2 hb.size
      have hlxy : k < ys.length := by rw [HL2.out]; omega
      have hxy : ys[k]? = some ys[k] := List.getElem?_eq_getElem hlxy
      generalize ys[k] = y at hxy
      have hsx := hz x (List.mem_of_getElem? HX.out)
      have hsy := hz2 y (List.mem_of_getElem? hxy)
      obtain ⟨Ay, cy, rfl⟩ := same_is (same_at HSM.out HX.out hxy) (by rw [← hsx.2.2.len1, ← hsy.2.2.len1, same_at HSM.out HX.out hxy])
      have d0 : wr.cell? ⟨b2, o2 + (k * 7 + 0), none⟩ = some (.int .i64 x.f) := (hb.cell (p := ⟨b2, o2 + (k * 7 + 0), none⟩) hblb2).trans (hcellb2 _ _ ((flat_get encSes 7 encSes_len ys k 0 _ hxy (by omega)).trans rfl))
      have d1 : wr.cell? ⟨b2, o2 + (k * 7 + 1), none⟩ = some (.int .i64 x.l) := (hb.cell (p := ⟨b2, o2 + (k * 7 + 1), none⟩) hblb2).trans (hcellb2 _ _ ((flat_get encSes 7 encSes_len ys k 1 _ hxy (by omega)).trans rfl))
      have d2 : wr.cell? ⟨b2, o2 + (k * 7 + 2), none⟩ = some (.int .i64 x.s) := (hb.cell (p := ⟨b2, o2 + (k * 7 + 2), none⟩) hblb2).trans (hcellb2 _ _ ((flat_get encSes 7 encSes_len ys k 2 _ hxy (by omega)).trans rfl))
      have d3 : wr.cell? ⟨b2, o2 + (k * 7 + 3), none⟩ = some (.int .i64 x.st) := (hb.cell (p := ⟨b2, o2 + (k * 7 + 3), none⟩) hblb2).trans (hcellb2 _ _ ((flat_get encSes 7 encSes_len ys k 3 _ hxy (by omega)).trans rfl))
      have d4 : wr.cell? ⟨b2, o2 + (k * 7 + 4), none⟩ = some (.int .i64 x.ba) := (hb.cell (p := ⟨b2, o2 + (k * 7 + 4), none⟩) hblb2).trans (hcellb2 _ _ ((flat_get encSes 7 encSes_len ys k 4 _ hxy (by omega)).trans rfl))
      have d5 : wr.cell? ⟨b2, o2 + (k * 7 + 5), none⟩ = some (.int .i64 x.se) := (hb.cell (p := ⟨b2, o2 + (k * 7 + 5), none⟩) hblb2).trans (hcellb2 _ _ ((flat_get encSes 7 encSes_len ys k 5 _ hxy (by omega)).trans rfl))
      have d6 : wr.cell? ⟨b2, o2 + (k * 7 + 6), none⟩ = some (.slice Ay x.m cy) := (hb.cell (p := ⟨b2, o2 + (k * 7 + 6), none⟩) hblb2).trans (hcellb2 _ _ ((flat_get encSes 7 encSes_len ys k 6 _ hxy (by omega)).trans rfl))
      simp only [Nat.add_zero, ← Nat.add_assoc] at d0 d1 d2 d3 d4 d5 d6
      have HSX := Lib.hid hsx
      have HSY := Lib.hid hsy
      clear hxy hlxy hcellb2 hsx hsy
      go_wp2_with fail
      go_still_tail 8, (by kernel_rfl)
      change wpList _ _ _ _ _ wr.drew
      go_wp2_with fail
      refine (eqSession_same x Ay cy _ HSX.out.1 (HSX.out.2.2.below hb.drew) (HSY.out.2.2.below hb.drew)).mono ?_
      rintro e w1 ⟨rfl, hb1⟩
      go_wp2_with fail
      go_roundw
      case rel => exact ⟨k + 1, by omega, by go_num, ext_trans hb.drew hb1⟩
      case measure => simp [intOf]; omega
    · go_wp2_with fail
      go_ret
      exact ⟨rfl, hb⟩

/-- Blocks outside [s1, s2) stay as they were. -/
def Off (s1 s2 : Nat) (w w' : World) : Prop := Below s1 w w' ∧ ∀ k, s2 ≤ k → k < w.heap.size → w'.heap[k]? = w.heap[k]?
theorem Off.refl (s1 s2 : Nat) (w : World) : Off s1 s2 w w := ⟨Below.refl _ _, fun _ _ _ => rfl⟩
theorem Off.setCell {s1 s2 : Nat} {w w' : World} (h : Off s1 s2 w w') {p : Addr} (h1 : s1 ≤ p.block) (h2 : p.block < s2) (u : Value) : Off s1 s2 w (w'.setCell p u) :=
  ⟨h.1.setCell h1 u, fun k hk hlt => (Below.heap_setCell w' p u k (by omega)).trans (h.2 k hk hlt)⟩
theorem Off.grown {s1 s2 g : Nat} {w w1 w2 : World} (h : Off s1 s2 w w1) (hs : s1 ≤ w1.heap.size) (hg : w1.grownBy w2 (some g)) (h1 : s1 ≤ g) (h2 : g < s2) : Off s1 s2 w w2 :=
  ⟨h.1.grown hg hs (fun k hk => by injection hk with hk; omega), fun k hk hlt => (hg.block k (Nat.lt_of_lt_of_le hlt h.1.size) (by intro e; injection e with e; omega)).trans (h.2 k hk hlt)⟩
theorem Off.blk {s1 s2 g : Nat} {w w' : World} {t : TypeId} {cs : List Value} (h : Off s1 s2 w w') (hB : Blk w g t cs) (hg : g < s1 ∨ s2 ≤ g) : Blk w' g t cs := by
  rcases hg with hg | hg
  · exact hB.later h.1 hg
  · exact (h.2 g hg hB.lt).trans hB
theorem Off.own {s1 s2 base n size : Nat} {w w' : World} {e : TypeId} {v : Value} {xs : List Value} (h : Off s1 s2 w w') (ho : w.ownsRow base e size v n xs) (hg : ∀ k, v.ownBlock = some k → k < s1 ∨ s2 ≤ k) : w'.ownsRow base e size v n xs := by
  refine ⟨ho.1, ?_⟩
  rcases ho.2 with h0 | ⟨g, cap, cur, hv, hb, hgg, r⟩
  · exact .inl h0
  · refine .inr ⟨g, cap, cur, hv, hb, ?_, r⟩
    have hlt := (Array.getElem?_eq_some_iff.1 hgg).1
    rcases hg g (by rw [hv]; rfl) with h1 | h1
    · exact (h.1.block g h1).trans hgg
    · exact (h.2 g h1 hlt).trans hgg
def IntB (w : World) (s1 s2 g0 : Nat) (y : SesV) : Prop := y.m ≤ 1048576 ∧ y.c = y.m ∧ ∃ g cs, y.A = some ⟨g, 0, none⟩ ∧ s1 ≤ g ∧ g < s2 ∧ g ≠ g0 ∧ cs.length = y.m ∧ Blk w g 3 cs
theorem IntB.far {w : World} {s1 s2 g0 : Nat} {y : SesV} (h : IntB w s1 s2 g0 y) (i : Nat) (u : Value) : IntB (w.setCell ⟨g0, i, none⟩ u) s1 s2 g0 y := by
  obtain ⟨h1, h2, g, cs, hA, a, b, c, d, hB⟩ := h
  exact ⟨h1, h2, g, cs, hA, a, b, c, d, hB.far (p := ⟨g0, i, none⟩) c u⟩
theorem sesW_intB {w : World} {g0 : Nat} {y : SesV} (h : SesW w (g0 + 1) y) : IntB w g0 w.heap.size g0 y := by
  obtain ⟨h1, h2, h3, g, hA, hg, hB⟩ := h
  exact ⟨h2, h3, g, _, hA, by omega, hB.lt, by omega, by simp [h1], hB⟩
/-- After the marks of one session's sizes, each one's sizes still lie in a block of ints. -/
theorem intB_marked {w w' : World} {s1 s2 g0 g m base : Nat} {ms : List Value} {y : SesV} (h : IntB w s1 s2 g0 y) (hg : w.grownBy w' (some g)) (_hms : ms.length = m) (ho : w'.ownsRow base 3 1 (.slice (some ⟨g, 0, none⟩) m m) m ms) {cs0 : List Value} (hB0 : Blk w g 3 cs0) (hl0 : cs0.length = m) : IntB w' s1 s2 g0 y := by
  obtain ⟨h1, h2, g', cs, hA, a, b, c, d, hB⟩ := h
  by_cases he : g' = g
  · subst he
    rcases ho.2 with ⟨hv, _⟩ | ⟨g2, cap, cur, hv, _, hg2, _, _, hcs, htake⟩
    · cases hv
    · injection hv with hv1 _ hv2
      injection hv1 with hv1
      injection hv1 with hv1 _
      subst hv1; subst hv2
      unfold Blk at hB hB0
      rw [hB] at hB0
      injection hB0 with e
      injection e with e _
      have e2 : cs.length = cs0.length := by have := congrArg Array.size e; simpa using this
      exact ⟨h1, h2, g', cur.toList, hA, a, b, c, by simp [hcs]; omega, by unfold Blk; rw [hg2]⟩
  · exact ⟨h1, h2, g', cs, hA, a, b, c, d, hB.grown hg (by intro e; injection e with e; exact he e)⟩
def MkS (w : World) (g s2 n : Nat) (ys : List SesV) (k0 : Int) (kk i : Value) (wr : World) : Prop :=
  ∃ k : Nat, k ≤ n ∧ i = .int .i64 k ∧ kk = .int .i64 (k0 + 6 * k + sumM (ys.take k)) ∧ (∀ y ∈ ys, IntB wr g s2 g y) ∧
    (∃ cs, Blk wr g 39 cs ∧ cs.length = n * 7 ∧ ∀ j y, ys[j]? = some y → cs[j * 7 + 6]? = some (.slice y.A y.m y.c)) ∧ Off g s2 w wr
set_option maxRecDepth 100000 in
set_option maxHeartbeats 4000000 in
theorem markSessionS_any (g n c s2 : Nat) (ys : List SesV) (k0 : Int) (w : World) (hn : n + sumM ys ≤ 1048576) (hk0 : 0 ≤ k0) (hk1 : k0 ≤ 1000000) (hl : ys.length = n) (hs2 : g < s2) (hB : Blk w g 39 (ys.flatMap encSes)) (hI : ∀ y ∈ ys, IntB w g s2 g y) :
    Calls Try.prog 40 #[.slice (some ⟨g, 0, none⟩) n c, .int .i64 k0] w fun e w' => (∃ k, e = .returned (.int .i64 k) ∧ 0 ≤ k) ∧ Off g s2 w w' := by
  have HL := Lib.hid hl
  go_enter Try.func40, Try.ntmps40
  go_wp2_with fail
  go_loopw [1, 5] (MkS w g s2 n ys k0) (fun _ i _ => n - (intOf i).toNat)
  case atStart => exact ⟨0, Nat.zero_le _, rfl, by simp [sumM], hI, ⟨_, hB, by rw [flat_len encSes 7 encSes_len, HL.out], fun j y hy => by rw [flat_get encSes 7 encSes_len ys j 6 y hy (by omega)]; rfl⟩, Off.refl _ _ _⟩
  case round =>
    obtain ⟨k, hk, rfl, rfl, hIw, ⟨cs, hBw, hcl, hc6⟩, hoff⟩ := hrel
    by_cases hlt : k < n
    · have hlxy : k < ys.length := by rw [HL.out]; omega
      have hy : ys[k]? = some ys[k] := List.getElem?_eq_getElem hlxy
      generalize ys[k] = y at hy
      obtain ⟨hym, hyc, gy, csy, hyA, ha, hb2, hne, hcy, hBy⟩ := hIw y (List.mem_of_getElem? hy)
      obtain ⟨y0, Ay, my, cy⟩ := y
      simp only at hym hyc hyA hcy
      subst hyA; subst hyc
      have HST := Lib.hid (sumM_take hy)
      have hsl := sumM_le ys (k + 1)
      have hsl2 := sumM_take hy
      have HY := Lib.hid hy
      have HC6 := Lib.hid hc6
      have h6 : wr.cell? ⟨g, k * 7 + 6, none⟩ = some (.slice (some ⟨gy, 0, none⟩) cy cy) := by rw [hBw.cell]; exact hc6 k _ hy
      have HI := Lib.hid hIw
      simp only at hsl2
      clear hc6 hy hlxy hIw
      generalize sumM (ys.take k) = sk at *
      have q0 : wr.cell? ⟨g, k * 7, none⟩ = some (cs[k * 7]'(by omega)) := by rw [hBw.cell, List.getElem?_eq_getElem (by omega)]
      have f0 := hBw.frozen (k * 7)
      have q1 : wr.cell? ⟨g, k * 7 + 1, none⟩ = some (cs[k * 7 + 1]'(by omega)) := by rw [hBw.cell, List.getElem?_eq_getElem (by omega)]
      have f1 := hBw.frozen (k * 7 + 1)
      have q2 : wr.cell? ⟨g, k * 7 + 2, none⟩ = some (cs[k * 7 + 2]'(by omega)) := by rw [hBw.cell, List.getElem?_eq_getElem (by omega)]
      have f2 := hBw.frozen (k * 7 + 2)
      have q3 : wr.cell? ⟨g, k * 7 + 3, none⟩ = some (cs[k * 7 + 3]'(by omega)) := by rw [hBw.cell, List.getElem?_eq_getElem (by omega)]
      have f3 := hBw.frozen (k * 7 + 3)
      have q4 : wr.cell? ⟨g, k * 7 + 4, none⟩ = some (cs[k * 7 + 4]'(by omega)) := by rw [hBw.cell, List.getElem?_eq_getElem (by omega)]
      have f4 := hBw.frozen (k * 7 + 4)
      have q5 : wr.cell? ⟨g, k * 7 + 5, none⟩ = some (cs[k * 7 + 5]'(by omega)) := by rw [hBw.cell, List.getElem?_eq_getElem (by omega)]
      have f5 := hBw.frozen (k * 7 + 5)
      go_wp2_with fail
      have HNE := hne
      have z6 : Off g s2 w _ := ((((((hoff.setCell (p := ⟨g, k * 7, none⟩) (Nat.le_refl _) hs2 (.int .i64 (k0 + 6 * k + sk))).setCell (p := ⟨g, k * 7 + 1, none⟩) (Nat.le_refl _) hs2 (.int .i64 (k0 + 6 * k + sk + 1))).setCell (p := ⟨g, k * 7 + 2, none⟩) (Nat.le_refl _) hs2 (.int .i64 (k0 + 6 * k + sk + 1 + 1))).setCell (p := ⟨g, k * 7 + 3, none⟩) (Nat.le_refl _) hs2 (.int .i64 (k0 + 6 * k + sk + 1 + 1 + 1))).setCell (p := ⟨g, k * 7 + 4, none⟩) (Nat.le_refl _) hs2 (.int .i64 (k0 + 6 * k + sk + 1 + 1 + 1 + 1))).setCell (p := ⟨g, k * 7 + 5, none⟩) (Nat.le_refl _) hs2 (.int .i64 (k0 + 6 * k + sk + 1 + 1 + 1 + 1 + 1)))
      have By6 := ((((((hBy.far (p := ⟨g, k * 7, none⟩) hne (.int .i64 (k0 + 6 * k + sk))).far (p := ⟨g, k * 7 + 1, none⟩) hne (.int .i64 (k0 + 6 * k + sk + 1))).far (p := ⟨g, k * 7 + 2, none⟩) hne (.int .i64 (k0 + 6 * k + sk + 1 + 1))).far (p := ⟨g, k * 7 + 3, none⟩) hne (.int .i64 (k0 + 6 * k + sk + 1 + 1 + 1))).far (p := ⟨g, k * 7 + 4, none⟩) hne (.int .i64 (k0 + 6 * k + sk + 1 + 1 + 1 + 1))).far (p := ⟨g, k * 7 + 5, none⟩) hne (.int .i64 (k0 + 6 * k + sk + 1 + 1 + 1 + 1 + 1)))
      have Bg6 := ((((((hBw.set_ (k * 7) (.int .i64 (k0 + 6 * k + sk))).set_ (k * 7 + 1) (.int .i64 (k0 + 6 * k + sk + 1))).set_ (k * 7 + 2) (.int .i64 (k0 + 6 * k + sk + 1 + 1))).set_ (k * 7 + 3) (.int .i64 (k0 + 6 * k + sk + 1 + 1 + 1))).set_ (k * 7 + 4) (.int .i64 (k0 + 6 * k + sk + 1 + 1 + 1 + 1))).set_ (k * 7 + 5) (.int .i64 (k0 + 6 * k + sk + 1 + 1 + 1 + 1 + 1)))
      have hoo := own_of_blk (base := g) By6 (m := 1) (n := cy) (by omega) hym ha
      refine (markIntS_own (some ⟨gy, 0, none⟩) cy cy g csy (k0 + 6 * k + sk + 1 + 1 + 1 + 1 + 1 + 1) _ hym (by omega) (by omega) hoo).mono ?_; rintro e w3 ⟨rfl, ow3, hg3⟩
      have I3 := Lib.hid (fun (y : SesV) (hy : y ∈ ys) => intB_marked ((((((((HI.out y hy).far _ _).far _ _).far _ _).far _ _).far _ _).far _ _)) hg3 (by rw [marks_len]; omega) ow3 By6 hcy)
      have z7 := z6.grown (Nat.le_of_lt Bg6.lt) hg3 ha hb2
      have Bg7 := Bg6.grown hg3 (by intro e; injection e with e; exact hne e.symm)
      clear q0 q1 q2 q3 q4 q5 f0 f1 f2 f3 f4 f5 h6 z6 By6 Bg6 hoo ow3 hg3
      go_wp2_with fail
      go_roundw
      case rel =>
        refine ⟨k + 1, by omega, by go_num, ?_, I3.out, ⟨_, Bg7, by simp only [List.length_set]; exact hcl, fun j y hy => ?_⟩, z7⟩
        · rw [HST.out]; simp; omega
        · rw [List.getElem?_set_ne (by omega), List.getElem?_set_ne (by omega), List.getElem?_set_ne (by omega), List.getElem?_set_ne (by omega), List.getElem?_set_ne (by omega), List.getElem?_set_ne (by omega)]
          exact HC6.out j y hy
      case measure => simp [intOf]; omega
    · go_wp2_with fail
      go_ret
      exact ⟨⟨_, rfl, by omega⟩, hoff⟩

end Go.Proofs.Ytgljelhglgeojaa