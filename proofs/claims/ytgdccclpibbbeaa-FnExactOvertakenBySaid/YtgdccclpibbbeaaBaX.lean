/- OvertakenBy: contracts of the program's and the reference's; the law's walk. -/
import Derived.Test.YtgdccclpibbbeaaBaV
namespace Go.Proofs.Ytgdccclpibbbeaa
open Go.RowKit

def overPred (ss : List Int) (a : Int) (p j : Nat) : Bool := decide (p < j) && (decide (0 ≤ ss.getD j 0) && decide (ss.getD j 0 < a))
def overTo (ss : List Int) (a : Int) (p k : Nat) : List Int := ((List.range k).filter (overPred ss a p)).map fun j : Nat => (j : Int)
theorem overTo_succ (ss : List Int) (a : Int) (p k : Nat) : overTo ss a p (k + 1) = overTo ss a p k ++ (if overPred ss a p k then [(k : Int)] else []) := by
  unfold overTo
  rw [List.range_succ, List.filter_append, List.map_append]
  congr 1
  cases h : overPred ss a p k <;> simp [h]
theorem overTo_start (ss : List Int) (a : Int) (p : Nat) : overTo ss a p (p + 1) = [] := by
  unfold overTo
  rw [List.map_eq_nil_iff, List.filter_eq_nil_iff]
  intro j hj
  have : ¬ p < j := by have := List.mem_range.1 hj; omega
  simp [overPred, this]
theorem overTo_len (ss : List Int) (a : Int) (p k : Nat) : (overTo ss a p k).length ≤ k := by
  unfold overTo
  rw [List.length_map]
  exact Nat.le_trans (List.length_filter_le _ _) (by simp)
def overB (xs : List Int) (ar : List Marked) (lim i : Int) : Bool := runB xs ar lim && (inB i 0 ((ar.length : Nat) - 1) && decide (0 ≤ (bandsRun xs ar lim).getD i.toNat 0))
def overR (xs : List Int) (ar : List Marked) (lim i : Int) : List Int := if overB xs ar lim i then overTo (bandsRun xs ar lim) ((bandsRun xs ar lim).getD i.toNat 0) i.toNat ar.length else []
theorem overR_len (xs : List Int) (ar : List Marked) (lim i : Int) : (overR xs ar lim i).length ≤ 40 := by
  unfold overR
  split
  · rename_i h
    have h1 := overTo_len (bandsRun xs ar lim) ((bandsRun xs ar lim).getD i.toNat 0) i.toNat ar.length
    simp only [overB, Bool.and_eq_true] at h
    have := arr_len (runB_iff.1 h.1).1.2
    omega
  · simp
def OvRel (w2 : World) (t : TypeId) (m p : Nat) (ss : List Int) (a : Int) (v i : Value) (wr : World) : Prop := ∃ k : Nat, p + 1 ≤ k ∧ k ≤ m ∧ i = .int .i64 (k : Int) ∧ OwnL w2 t v (overTo ss a p k) wr
theorem ownL_drewN {w wr : World} {t : TypeId} {v : Value} {l : List Int} (h : OwnL w t v l wr) (q : Nat) : OwnL w t v l (wr.drewN q) := ⟨h.1, ext_drewN h.2 q⟩
theorem retInts_later {t : TypeId} {w w2 w' : World} {v : Value} {l : List Int} {ok : Bool} (hb : Below w.heap.size w w2) (h : OwnL w2 t v l w') : RetInts t w l ok (.returned (.tuple #[v, .bool ok])) w' := by
  obtain ⟨A, c, rfl⟩ := own_shape h.1
  exact ⟨A, c, rfl, own_base h.1 hb.size, ext_trans hb h.2⟩

set_option maxHeartbeats 4000000 in
theorem specOvertakenBy_any (A : Option Addr) (n c : Nat) (xs : List Int) (B : Option Addr) (m d : Nat) (ar : List Marked) (lim i : Int) (w : World) (hn : n ≤ 1048576) (hr' : Rd w 1 A n (xs.map (Value.int .i64))) (hm : m ≤ 1048576) (hr : Rd w 2 B m (ar.flatMap encMarked)) :
    Calls Try.prog 34 #[.slice A n c, .slice B m d, .int .i64 lim, .int .i64 i] w (RetInts 3 w (overR xs ar lim i) (overB xs ar lim i)) := by
  obtain ⟨i0, hi, hz0, hz1, hz2⟩ := info_parts infoIntB
  have hlm : ar.length = m := by have h1 := hr.1; rw [flat_len encMarked 2 encMarked_len] at h1; omega
  cases h : runB xs ar lim with
  | false =>
    have e1 : overB xs ar lim i = false := by simp [overB, h]
    have e2 : overR xs ar lim i = [] := by simp [overR, e1]
    rw [e1, e2]
    clear e1 e2
    go_enter Try.func34, Try.ntmps34
    go_wp2_with (first | (go_at_call 48; refine (bdAsked_any _ _ _ xs _ _ _ ar lim _ hn hr' hm hr).mono ?_; rintro e w1 ⟨rfl, hb1⟩) | (go_at_call 52; refine (l1In_any _ _ _ _).mono ?_; rintro e w' ⟨rfl, rfl⟩))
    go_ret2
    exact retInts_nil hb1
  | true =>
    by_cases hi0 : i < 0
    · have hin : inB i 0 ((m : Nat) - 1) = false := by rw [Bool.eq_false_iff]; intro h; have := inB_iff.1 h; omega
      have e1 : overB xs ar lim i = false := by simp [overB, hlm, hin]
      have e2 : overR xs ar lim i = [] := by simp [overR, e1]
      rw [e1, e2]
      clear e1 e2
      go_enter Try.func34, Try.ntmps34
      go_wp2_with (first | (go_at_call 48; refine (bdAsked_any _ _ _ xs _ _ _ ar lim _ hn hr' hm hr).mono ?_; rintro e w1 ⟨rfl, hb1⟩) | (go_at_call 52; refine (l1In_any _ _ _ _).mono ?_; rintro e w' ⟨rfl, rfl⟩))
      go_ret2
      exact retInts_nil hb1
    · by_cases hi1 : i < m
      · have hin : inB i 0 ((m : Nat) - 1) = true := inB_iff.2 ⟨by omega, by omega⟩
        obtain ⟨p, rfl⟩ := Int.eq_ofNat_of_zero_le (show 0 ≤ i by omega)
        have hp : p < m := by omega
        have hl := bandsRun_len h
        obtain ⟨⟨h1, h2⟩, h00⟩ := runB_iff.1 h
        have h5 := inB_iff.1 h00
        have h3 : 0 < lim := by omega
        have h4 : lim ≤ 1048576 := by omega
        have h40 : m ≤ 40 := by have := arr_len h2; omega
        have hn16 : n = 16 := by rw [← hr'.len1]; exact (bandMapB_iff.1 h1).2
        subst hn16
        have ha : (bandsRun xs ar lim)[p]? = some ((bandsRun xs ar lim).getD p 0) := by rw [List.getD_eq_getElem?_getD, List.getElem?_eq_getElem (by omega)]; rfl
        have hbo : overB xs ar lim (p : Int) = decide (0 ≤ (bandsRun xs ar lim).getD p 0) := by simp [overB, h, hlm, hin]
        have hro : overR xs ar lim (p : Int) = if decide (0 ≤ (bandsRun xs ar lim).getD p 0) then overTo (bandsRun xs ar lim) ((bandsRun xs ar lim).getD p 0) p m else [] := by unfold overR; rw [hbo, hlm]; rfl
        rw [hbo, hro]
        clear hbo hro h00 h5
        have HL := Lib.hid (hl.trans hlm)
        have HA := Lib.hid ha
        clear hl hlm ha
        generalize hss : (bandsRun xs ar lim).getD p 0 = a at HA ⊢
        clear hss
        by_cases hneg : a < 0
        · have e3 : decide (0 ≤ a) = false := by simp; omega
          rw [e3]
          go_enter Try.func34, Try.ntmps34
          go_wp2_with (first | (go_at_call 48; refine (bdAsked_any _ _ _ xs _ _ _ ar lim _ hn hr' hm hr).mono ?_; rintro e w1 ⟨rfl, hb1⟩) | (go_at_call 52; refine (l1In_any _ _ _ _).mono ?_; rintro e w' ⟨rfl, rfl⟩))
          refine (bdRun_any _ _ xs _ _ _ ar lim _ h1 h2 h3 h4 (hr'.below hb1) (hr.below hb1)).mono ?_; rintro e w2 ⟨rfl, hB2, hb2⟩
          have hca : w2.cell? ⟨w1.heap.size, p, none⟩ = some (.int .i64 a) := by rw [hB2.cell, List.getElem?_map, HA.out]; rfl
          have hlt1 := hB2.lt
          clear hB2
          go_wp2_with fail
          go_ret2
          exact retInts_nil (ext_trans hb1 hb2)
        · have e3 : decide (0 ≤ a) = true := by simp; omega
          rw [e3, if_pos rfl]
          go_enter Try.func34, Try.ntmps34
          go_wp2_with (first | (go_at_call 48; refine (bdAsked_any _ _ _ xs _ _ _ ar lim _ hn hr' hm hr).mono ?_; rintro e w1 ⟨rfl, hb1⟩) | (go_at_call 52; refine (l1In_any _ _ _ _).mono ?_; rintro e w' ⟨rfl, rfl⟩))
          refine (bdRun_any _ _ xs _ _ _ ar lim _ h1 h2 h3 h4 (hr'.below hb1) (hr.below hb1)).mono ?_; rintro e w2 ⟨rfl, hB2, hb2⟩
          have hca : w2.cell? ⟨w1.heap.size, p, none⟩ = some (.int .i64 a) := by rw [hB2.cell, List.getElem?_map, HA.out]; rfl
          have hlt1 := hB2.lt
          have HB := Lib.hid hB2
          have HZ := Lib.hid (ext_trans hb1 hb2)
          clear hB2 hb2 hb1
          generalize hss : bandsRun xs ar lim = ss at HA HB HL
          have HSS := Lib.hid hss
          clear hss
          go_wp2_with fail
          go_loopw [11, 12] (OvRel w2 3 m p ss a) (fun _ i _ => m - (intOf i).toNat)
          case atStart => exact ⟨p + 1, Nat.le_refl _, hp, by simp, by rw [overTo_start]; exact ownL_nil (ext_refl w2)⟩
          case round =>
            obtain ⟨k, hpk, hk, rfl, hO⟩ := hrel
            have hbs : w2.heap.size ≤ wr.heap.size := hO.2.size
            by_cases hlt : k < m
            · have ht : ss[k]? = some (ss[k]'(by rw [HL.out]; exact hlt)) := List.getElem?_eq_getElem _
              generalize ss[k]'(by rw [HL.out]; exact hlt) = t at ht
              have ht2 : ss.getD k 0 = t := by rw [List.getD_eq_getElem?_getD, ht]; rfl
              have hct : wr.cell? ⟨w1.heap.size, k, none⟩ = some (.int .i64 t) := (hO.2.cell (p := ⟨w1.heap.size, k, none⟩) hlt1).trans (by rw [HB.out.cell, List.getElem?_map, ht]; rfl)
              have hcp : wr.cell? ⟨w1.heap.size, p, none⟩ = some (.int .i64 a) := (hO.2.cell (p := ⟨w1.heap.size, p, none⟩) hlt1).trans hca
              have hgs : w1.heap.size < wr.heap.size := by omega
              have hsu := overTo_succ ss a p k
              have hpr : overPred ss a p k = (decide (0 ≤ t) && decide (t < a)) := by unfold overPred; rw [ht2, decide_eq_true (show p < k by omega), Bool.true_and]
              rw [hpr] at hsu
              have hlo := overTo_len ss a p k
              generalize overTo ss a p k = l at hO hsu hlo
              have HSU := Lib.hid hsu
              have HLO := Lib.hid hlo
              have k0 : (0 : Int) ≤ (k : Int) := by omega
              have k1 : (k : Int) < (m : Int) := by omega
              have p0 : (0 : Int) ≤ (p : Int) := by omega
              have p1 : (p : Int) < (m : Int) := by omega
              clear ht ht2 hpr hsu hlo
              cases g1 : decide (0 ≤ t) with
              | false =>
                have HO := Lib.hid hO
                clear hO
                go_wp2_with fail
                go_quiet (fail)
                go_wp2_with fail
                go_roundw
                case rel => exact ⟨k + 1, by omega, by omega, by go_num, by rw [HSU.out, g1]; simpa using ownL_drewN HO.out _⟩
                case measure => simp [intOf]; omega
              | true =>
                cases g2 : decide (t < a) with
                | false =>
                  have HO := Lib.hid hO
                  clear hO
                  go_wp2_with fail
                  go_quiet (fail)
                  go_wp2_with fail
                  go_roundw
                  case rel => exact ⟨k + 1, by omega, by omega, by go_num, by rw [HSU.out, g1, g2]; simpa using ownL_drewN HO.out _⟩
                  case measure => simp [intOf]; omega
                | true =>
                  go_wp2_with fail
                  go_quiet (fail)
                  have hO2 := ownL_drewN hO nq
                  clear hO hct hcp
                  generalize wr.drewN nq = wd at hO2 ⊢
                  have hbd := hO2.2.size
                  go_wp2_with (at_builtin; refine wpList_append_own _ rfl (.tmp 59) (.tmp 61) 22 rfl w2.heap.size 3 i0 (.int .i64 0) 1 8 Try.underlying22 hi hz0 hz1 hz2 rfl (by decide) _ _ _ rfl (hO2.1.alloc _) ⟨wd.heap.size, 0, none⟩ 1 1 [.int .i64 (k : Int)] rfl rfl ?c1 ?c2 ?c3 ?c4 ?c5 ?_)
                  case c1 => exact cell_one_new _ _ _
                  case c2 => simp [Value.oneCell']
                  case c3 => have := HLO.out; unfold maxLen; omega
                  case c4 => have := HLO.out; omega
                  case c5 => simp; omega
                  intro v' w4 hown1 hg1 _
                  have hO3 := ownL_push hO2 hown1 hg1
                  have HO3 := Lib.hid hO3
                  clear hO3 hown1 hg1 hO2
                  go_wp2_with fail
                  go_roundw
                  case rel => first | exact ⟨k + 1, by omega, by omega, by go_num, by rw [HSU.out, g1, g2]; simpa using HO3.out⟩ | ((repeat apply Exists.intro); exact ⟨⟨k + 1, by omega, by omega, by go_num, by rw [HSU.out, g1, g2]; simpa using HO3.out⟩, rfl⟩)
                  case measure => simp [intOf]; omega
            · obtain rfl : k = m := by omega
              go_wp2_with fail
              go_ret2
              rw [HSS.out]
              exact retInts_later HZ.out hO
      · have hin : inB i 0 ((m : Nat) - 1) = false := by rw [Bool.eq_false_iff]; intro h; have := inB_iff.1 h; omega
        have hi2 : (m : Int) ≤ i := by omega
        have e1 : overB xs ar lim i = false := by simp [overB, hlm, hin]
        have e2 : overR xs ar lim i = [] := by simp [overR, e1]
        rw [e1, e2]
        clear e1 e2
        go_enter Try.func34, Try.ntmps34
        go_wp2_with (first | (go_at_call 48; refine (bdAsked_any _ _ _ xs _ _ _ ar lim _ hn hr' hm hr).mono ?_; rintro e w1 ⟨rfl, hb1⟩) | (go_at_call 52; refine (l1In_any _ _ _ _).mono ?_; rintro e w' ⟨rfl, rfl⟩))
        go_ret2
        exact retInts_nil hb1

set_option maxHeartbeats 4000000 in
theorem implOvertakenBy_any (A : Option Addr) (n c : Nat) (xs : List Int) (B : Option Addr) (m d : Nat) (ar : List Marked) (lim i : Int) (w : World) (hn : n ≤ 1048576) (hr' : Rd w 1 A n (xs.map (Value.int .i64))) (hm : m ≤ 1048576) (hr : Rd w 2 B m (ar.flatMap encMarked)) :
    Calls Try.prog 35 #[.slice A n c, .slice B m d, .int .i64 lim, .int .i64 i] w (RetInts 3 w (overR xs ar lim i) (overB xs ar lim i)) := by
  obtain ⟨i0, hi, hz0, hz1, hz2⟩ := info_parts infoIntB
  have hlm : ar.length = m := by have h1 := hr.1; rw [flat_len encMarked 2 encMarked_len] at h1; omega
  cases h : runB xs ar lim with
  | false =>
    have e1 : overB xs ar lim i = false := by simp [overB, h]
    have e2 : overR xs ar lim i = [] := by simp [overR, e1]
    rw [e1, e2]
    clear e1 e2
    go_enter Try.func35, Try.ntmps35
    go_wp2_with (first | (go_at_call 50; refine (canRun_any _ _ _ xs _ _ _ ar lim _ hn hr' hm hr).mono ?_; rintro e w1 ⟨rfl, hb1⟩))
    go_ret2
    exact retInts_nil hb1
  | true =>
    by_cases hi0 : i < 0
    · have hin : inB i 0 ((m : Nat) - 1) = false := by rw [Bool.eq_false_iff]; intro h; have := inB_iff.1 h; omega
      have e1 : overB xs ar lim i = false := by simp [overB, hlm, hin]
      have e2 : overR xs ar lim i = [] := by simp [overR, e1]
      rw [e1, e2]
      clear e1 e2
      go_enter Try.func35, Try.ntmps35
      go_wp2_with (first | (go_at_call 50; refine (canRun_any _ _ _ xs _ _ _ ar lim _ hn hr' hm hr).mono ?_; rintro e w1 ⟨rfl, hb1⟩))
      go_ret2
      exact retInts_nil hb1
    · by_cases hi1 : i < m
      · have hin : inB i 0 ((m : Nat) - 1) = true := inB_iff.2 ⟨by omega, by omega⟩
        obtain ⟨p, rfl⟩ := Int.eq_ofNat_of_zero_le (show 0 ≤ i by omega)
        have hp : p < m := by omega
        have hl := bandsRun_len h
        obtain ⟨⟨h1, h2⟩, h00⟩ := runB_iff.1 h
        have h5 := inB_iff.1 h00
        have h3 : 0 < lim := by omega
        have h4 : lim ≤ 1048576 := by omega
        have h40 : m ≤ 40 := by have := arr_len h2; omega
        have hn16 : n = 16 := by rw [← hr'.len1]; exact (bandMapB_iff.1 h1).2
        subst hn16
        have ha : (bandsRun xs ar lim)[p]? = some ((bandsRun xs ar lim).getD p 0) := by rw [List.getD_eq_getElem?_getD, List.getElem?_eq_getElem (by omega)]; rfl
        have hbo : overB xs ar lim (p : Int) = decide (0 ≤ (bandsRun xs ar lim).getD p 0) := by simp [overB, h, hlm, hin]
        have hro : overR xs ar lim (p : Int) = if decide (0 ≤ (bandsRun xs ar lim).getD p 0) then overTo (bandsRun xs ar lim) ((bandsRun xs ar lim).getD p 0) p m else [] := by unfold overR; rw [hbo, hlm]; rfl
        rw [hbo, hro]
        clear hbo hro h00 h5
        have HL := Lib.hid (hl.trans hlm)
        have HA := Lib.hid ha
        clear hl hlm ha
        generalize hss : (bandsRun xs ar lim).getD p 0 = a at HA ⊢
        clear hss
        by_cases hneg : a < 0
        · have e3 : decide (0 ≤ a) = false := by simp; omega
          rw [e3]
          go_enter Try.func35, Try.ntmps35
          go_wp2_with (first | (go_at_call 50; refine (canRun_any _ _ _ xs _ _ _ ar lim _ hn hr' hm hr).mono ?_; rintro e w1 ⟨rfl, hb1⟩))
          refine (runBands_any _ _ xs _ _ _ ar lim _ h1 h2 h3 h4 (hr'.below hb1) (hr.below hb1)).mono ?_; rintro e w2 ⟨rfl, hB2, hb2⟩
          have hca : w2.cell? ⟨(w1.heap.size + 1), p, none⟩ = some (.int .i64 a) := by rw [hB2.cell, List.getElem?_map, HA.out]; rfl
          have hlt1 := hB2.lt
          clear hB2
          go_wp2_with fail
          go_ret2
          exact retInts_nil (ext_trans hb1 hb2)
        · have e3 : decide (0 ≤ a) = true := by simp; omega
          rw [e3, if_pos rfl]
          go_enter Try.func35, Try.ntmps35
          go_wp2_with (first | (go_at_call 50; refine (canRun_any _ _ _ xs _ _ _ ar lim _ hn hr' hm hr).mono ?_; rintro e w1 ⟨rfl, hb1⟩))
          refine (runBands_any _ _ xs _ _ _ ar lim _ h1 h2 h3 h4 (hr'.below hb1) (hr.below hb1)).mono ?_; rintro e w2 ⟨rfl, hB2, hb2⟩
          have hca : w2.cell? ⟨(w1.heap.size + 1), p, none⟩ = some (.int .i64 a) := by rw [hB2.cell, List.getElem?_map, HA.out]; rfl
          have hlt1 := hB2.lt
          have HB := Lib.hid hB2
          have HZ := Lib.hid (ext_trans hb1 hb2)
          clear hB2 hb2 hb1
          generalize hss : bandsRun xs ar lim = ss at HA HB HL
          have HSS := Lib.hid hss
          clear hss
          go_wp2_with fail
          go_loopw [11, 12] (OvRel w2 3 m p ss a) (fun _ i _ => m - (intOf i).toNat)
          case atStart => exact ⟨p + 1, Nat.le_refl _, hp, by simp, by rw [overTo_start]; exact ownL_empty (ext_refl w2)⟩
          case round =>
            obtain ⟨k, hpk, hk, rfl, hO⟩ := hrel
            have hbs : w2.heap.size ≤ wr.heap.size := hO.2.size
            by_cases hlt : k < m
            · have ht : ss[k]? = some (ss[k]'(by rw [HL.out]; exact hlt)) := List.getElem?_eq_getElem _
              generalize ss[k]'(by rw [HL.out]; exact hlt) = t at ht
              have ht2 : ss.getD k 0 = t := by rw [List.getD_eq_getElem?_getD, ht]; rfl
              have hct : wr.cell? ⟨(w1.heap.size + 1), k, none⟩ = some (.int .i64 t) := (hO.2.cell (p := ⟨(w1.heap.size + 1), k, none⟩) hlt1).trans (by rw [HB.out.cell, List.getElem?_map, ht]; rfl)
              have hcp : wr.cell? ⟨(w1.heap.size + 1), p, none⟩ = some (.int .i64 a) := (hO.2.cell (p := ⟨(w1.heap.size + 1), p, none⟩) hlt1).trans hca
              have hgs : (w1.heap.size + 1) < wr.heap.size := by omega
              have hsu := overTo_succ ss a p k
              have hpr : overPred ss a p k = (decide (0 ≤ t) && decide (t < a)) := by unfold overPred; rw [ht2, decide_eq_true (show p < k by omega), Bool.true_and]
              rw [hpr] at hsu
              have hlo := overTo_len ss a p k
              generalize overTo ss a p k = l at hO hsu hlo
              have HSU := Lib.hid hsu
              have HLO := Lib.hid hlo
              have k0 : (0 : Int) ≤ (k : Int) := by omega
              have k1 : (k : Int) < (m : Int) := by omega
              have p0 : (0 : Int) ≤ (p : Int) := by omega
              have p1 : (p : Int) < (m : Int) := by omega
              clear ht ht2 hpr hsu hlo
              cases g1 : decide (0 ≤ t) with
              | false =>
                have HO := Lib.hid hO
                clear hO
                go_wp2_with fail
                go_quiet (fail)
                go_wp2_with fail
                go_roundw
                case rel => exact ⟨k + 1, by omega, by omega, by go_num, by rw [HSU.out, g1]; simpa using ownL_drewN HO.out _⟩
                case measure => simp [intOf]; omega
              | true =>
                cases g2 : decide (t < a) with
                | false =>
                  have HO := Lib.hid hO
                  clear hO
                  go_wp2_with fail
                  go_quiet (fail)
                  go_wp2_with fail
                  go_roundw
                  case rel => exact ⟨k + 1, by omega, by omega, by go_num, by rw [HSU.out, g1, g2]; simpa using ownL_drewN HO.out _⟩
                  case measure => simp [intOf]; omega
                | true =>
                  go_wp2_with fail
                  go_quiet (fail)
                  have hO2 := ownL_drewN hO nq
                  clear hO hct hcp
                  generalize wr.drewN nq = wd at hO2 ⊢
                  have hbd := hO2.2.size
                  go_wp2_with (at_builtin; refine wpList_append_own _ rfl (.tmp 62) (.tmp 64) 22 rfl w2.heap.size 3 i0 (.int .i64 0) 1 8 Try.underlying22 hi hz0 hz1 hz2 rfl (by decide) _ _ _ rfl (hO2.1.alloc _) ⟨wd.heap.size, 0, none⟩ 1 1 [.int .i64 (k : Int)] rfl rfl ?c1 ?c2 ?c3 ?c4 ?c5 ?_)
                  case c1 => exact cell_one_new _ _ _
                  case c2 => simp [Value.oneCell']
                  case c3 => have := HLO.out; unfold maxLen; omega
                  case c4 => have := HLO.out; omega
                  case c5 => simp; omega
                  intro v' w4 hown1 hg1 _
                  have hO3 := ownL_push hO2 hown1 hg1
                  have HO3 := Lib.hid hO3
                  clear hO3 hown1 hg1 hO2
                  go_wp2_with fail
                  go_roundw
                  case rel => first | exact ⟨k + 1, by omega, by omega, by go_num, by rw [HSU.out, g1, g2]; simpa using HO3.out⟩ | ((repeat apply Exists.intro); exact ⟨⟨k + 1, by omega, by omega, by go_num, by rw [HSU.out, g1, g2]; simpa using HO3.out⟩, rfl⟩)
                  case measure => simp [intOf]; omega
            · obtain rfl : k = m := by omega
              go_wp2_with fail
              go_ret2
              rw [HSS.out]
              exact retInts_later HZ.out hO
      · have hin : inB i 0 ((m : Nat) - 1) = false := by rw [Bool.eq_false_iff]; intro h; have := inB_iff.1 h; omega
        have hi2 : (m : Int) ≤ i := by omega
        have e1 : overB xs ar lim i = false := by simp [overB, hlm, hin]
        have e2 : overR xs ar lim i = [] := by simp [overR, e1]
        rw [e1, e2]
        clear e1 e2
        go_enter Try.func35, Try.ntmps35
        go_wp2_with (first | (go_at_call 50; refine (canRun_any _ _ _ xs _ _ _ ar lim _ hn hr' hm hr).mono ?_; rintro e w1 ⟨rfl, hb1⟩))
        go_ret2
        exact retInts_nil hb1

set_option maxHeartbeats 4000000 in
theorem walkOvertakenBy (Axs : Option Addr) (nxs cxs : Nat) (xs : List Int) (hnxs : nxs ≤ 9223372036854775807) (Aar : Option Addr) (nar car : Nat) (ar : List Marked) (hnar : nar ≤ 9223372036854775807) (lim : Int) (i : Int) (w : World) (hrxs : Rd w 1 Axs nxs (xs.flatMap encInt)) (hrar : Rd w 2 Aar nar (ar.flatMap encMarked)) :
    Calls Try.prog 10 #[.slice Axs nxs cxs, .slice Aar nar car, .int .i64 lim, .int .i64 i] w fun e w' => e = .returned (.bool true) ∧ Below w.heap.size w w' := by
  rw [map_flat] at hrxs
  by_cases hbigxs : 1048576 < nxs
  · go_enter Try.func10, Try.ntmps10
    go_wp2_with (first | (go_at_call 24; refine (szMarkedS_any Aar nar car _ _ hnar (by omega) (by omega)).mono ?_; rintro e w1 ⟨rfl, rfl⟩; have hsar : (if (1048576 : Int) < (nar : Int) then (-1 : Int) else 1048576 - nar) = 1048576 - nar := by {{ split <;> omega }}; rw [hsar]; clear hsar) | fail)
    go_ret
    exact ⟨rfl, ext_refl w⟩
  have hmxs : nxs ≤ 1048576 := by omega
  by_cases hbigar : 1048576 < nar
  · go_enter Try.func10, Try.ntmps10
    go_wp2_with (first | (go_at_call 24; refine (szMarkedS_any Aar nar car _ _ hnar (by omega) (by omega)).mono ?_; rintro e w1 ⟨rfl, rfl⟩; have hsar : (if (1048576 : Int) < (nar : Int) then (-1 : Int) else 1048576 - nar) = -1 := by {{ split <;> omega }}; rw [hsar]; clear hsar) | fail)
    go_ret
    exact ⟨rfl, ext_refl w⟩
  have hmar : nar ≤ 1048576 := by omega
  have hR : (overR xs ar lim i).length ≤ 1048576 := by have := overR_len xs ar lim i; omega
  have z0 : Below w.heap.size w w := ext_refl w
  go_enter Try.func10, Try.ntmps10
  go_wp2_with fail
  refine (szMarkedS_any Aar nar car _ _ hnar (by omega) (by omega)).mono ?_; rintro e w' ⟨rfl, rfl⟩
  have hsar : (if (1048576 : Int) < (nar : Int) then (-1 : Int) else 1048576 - nar) = 1048576 - nar := by { split <;> omega }
  rw [hsar]
  clear hsar
  go_wp2_with fail
  refine (toIntS_any Axs nxs cxs xs _ hmxs (hrxs.below z0)).mono ?_; rintro e w1 ⟨gt1, rfl, owt1, hb1⟩
  have ot11 := own_base owt1 z0.size
  have z1 := ext_trans z0 hb1
  go_wp2_with fail
  refine (toMarkedS_any Aar nar car ar _ hmar (hrar.below z1)).mono ?_; rintro e w2 ⟨gt2, rfl, owt2, hb2⟩
  have apt2t1 := apart_before ot11.lt owt2.lt
  have ot12 := own_ext ot11 hb2
  have ot22 := own_base owt2 z1.size
  have z2 := ext_trans z1 hb2
  go_wp2_with fail
  refine (specOvertakenBy_any _ nxs _ xs _ nar _ ar lim i _ hmxs (Rd.of_own ot12) hmar (Rd.of_own ot22)).mono ?_; rintro e w3 ⟨Aw, Cw, rfl, oww, hb3⟩
  have apwt1 := apart_before ot12.lt oww.lt
  have ot13 := own_ext ot12 hb3
  have apwt2 := apart_before ot22.lt oww.lt
  have ot23 := own_ext ot22 hb3
  have ow3 := own_base oww z2.size
  have z3 := ext_trans z2 hb3
  go_wp2_with fail
  refine (toIntS_any Axs nxs cxs xs _ hmxs (hrxs.below z3)).mono ?_; rintro e w4 ⟨gxxs, rfl, owxxs, hb4⟩
  have apxxst1 := apart_before ot13.lt owxxs.lt
  have ot14 := own_ext ot13 hb4
  have apxxst2 := apart_before ot23.lt owxxs.lt
  have ot24 := own_ext ot23 hb4
  have apxxsw := apart_before ow3.lt owxxs.lt
  have ow4 := own_ext ow3 hb4
  have oxxs4 := own_base owxxs z3.size
  have z4 := ext_trans z3 hb4
  go_wp2_with fail
  refine (toMarkedS_any Aar nar car ar _ hmar (hrar.below z4)).mono ?_; rintro e w5 ⟨gxar, rfl, owxar, hb5⟩
  have apxart1 := apart_before ot14.lt owxar.lt
  have ot15 := own_ext ot14 hb5
  have apxart2 := apart_before ot24.lt owxar.lt
  have ot25 := own_ext ot24 hb5
  have apxarw := apart_before ow4.lt owxar.lt
  have ow5 := own_ext ow4 hb5
  have apxarxxs := apart_before oxxs4.lt owxar.lt
  have oxxs5 := own_ext oxxs4 hb5
  have oxar5 := own_base owxar z4.size
  have z5 := ext_trans z4 hb5
  go_wp2_with fail
  refine (implOvertakenBy_any _ nxs _ xs _ nar _ ar lim i _ hmxs (Rd.of_own oxxs5) hmar (Rd.of_own oxar5)).mono ?_; rintro e w6 ⟨Ag, Cg, rfl, owg, hb6⟩
  have apgt1 := apart_before ot15.lt owg.lt
  have ot16 := own_ext ot15 hb6
  have apgt2 := apart_before ot25.lt owg.lt
  have ot26 := own_ext ot25 hb6
  have apgw := apart_before ow5.lt owg.lt
  have ow6 := own_ext ow5 hb6
  have apgxxs := apart_before oxxs5.lt owg.lt
  have oxxs6 := own_ext oxxs5 hb6
  have apgxar := apart_before oxar5.lt owg.lt
  have oxar6 := own_ext oxar5 hb6
  have og6 := own_base owg z5.size
  have z6 := ext_trans z5 hb6
  go_wp2_with fail
  refine (eqIntS_same _ _ (overR xs ar lim i).length _ _ (overR xs ar lim i) _ hR (Rd.of_own og6) (Rd.of_own ow6)).mono ?_; rintro e w7 ⟨rfl, hb7⟩
  have ot17 := own_ext ot16 hb7
  have ot27 := own_ext ot26 hb7
  have ow7 := own_ext ow6 hb7
  have oxxs7 := own_ext oxxs6 hb7
  have oxar7 := own_ext oxar6 hb7
  have og7 := own_ext og6 hb7
  have z7 := ext_trans z6 hb7
  go_wp2_with fail
  refine (toIntS_any Axs nxs cxs xs _ hmxs (hrxs.below z7)).mono ?_; rintro e w8 ⟨gt5, rfl, owt5, hb8⟩
  have apt5t1 := apart_before ot17.lt owt5.lt
  have ot18 := own_ext ot17 hb8
  have apt5t2 := apart_before ot27.lt owt5.lt
  have ot28 := own_ext ot27 hb8
  have apt5w := apart_before ow7.lt owt5.lt
  have ow8 := own_ext ow7 hb8
  have apt5xxs := apart_before oxxs7.lt owt5.lt
  have oxxs8 := own_ext oxxs7 hb8
  have apt5xar := apart_before oxar7.lt owt5.lt
  have oxar8 := own_ext oxar7 hb8
  have apt5g := apart_before og7.lt owt5.lt
  have og8 := own_ext og7 hb8
  have ot58 := own_base owt5 z7.size
  have z8 := ext_trans z7 hb8
  go_wp2_with fail
  refine (eqIntS_same _ _ nxs _ _ xs _ hmxs (Rd.of_own oxxs8) (Rd.of_own ot58)).mono ?_; rintro e w9 ⟨rfl, hb9⟩
  have ot19 := own_ext ot18 hb9
  have ot29 := own_ext ot28 hb9
  have ow9 := own_ext ow8 hb9
  have oxxs9 := own_ext oxxs8 hb9
  have oxar9 := own_ext oxar8 hb9
  have og9 := own_ext og8 hb9
  have ot59 := own_ext ot58 hb9
  have z9 := ext_trans z8 hb9
  go_wp2_with fail
  refine (toMarkedS_any Aar nar car ar _ hmar (hrar.below z9)).mono ?_; rintro e w10 ⟨gt6, rfl, owt6, hb10⟩
  have apt6t1 := apart_before ot19.lt owt6.lt
  have ot110 := own_ext ot19 hb10
  have apt6t2 := apart_before ot29.lt owt6.lt
  have ot210 := own_ext ot29 hb10
  have apt6w := apart_before ow9.lt owt6.lt
  have ow10 := own_ext ow9 hb10
  have apt6xxs := apart_before oxxs9.lt owt6.lt
  have oxxs10 := own_ext oxxs9 hb10
  have apt6xar := apart_before oxar9.lt owt6.lt
  have oxar10 := own_ext oxar9 hb10
  have apt6g := apart_before og9.lt owt6.lt
  have og10 := own_ext og9 hb10
  have ot610 := own_base owt6 z9.size
  have z10 := ext_trans z9 hb10
  go_wp2_with fail
  refine (eqMarkedS_same _ _ nar _ _ ar _ hmar (Rd.of_own oxar10) (Rd.of_own ot610)).mono ?_; rintro e w11 ⟨rfl, hb11⟩
  have ot111 := own_ext ot110 hb11
  have ot211 := own_ext ot210 hb11
  have ow11 := own_ext ow10 hb11
  have oxxs11 := own_ext oxxs10 hb11
  have oxar11 := own_ext oxar10 hb11
  have og11 := own_ext og10 hb11
  have ot611 := own_ext ot610 hb11
  have z11 := ext_trans z10 hb11
  go_wp2_with fail
  refine (markIntS_own _ nxs _ _ _ _ _ hmxs (by omega) (by omega) oxxs11).mono ?_; rintro e w12 ⟨rfl, oxxs12, hg12⟩
  have z12 := below_marked z11 oxxs11 (Nat.le_refl _) hg12
  have ot112 := ot111.kept hg12 apxxst1.1
  have ot212 := ot211.kept hg12 apxxst2.1
  have ow12 := ow11.kept hg12 apxxsw.1
  have oxar12 := oxar11.kept hg12 apxarxxs.2
  have og12 := og11.kept hg12 apgxxs.2
  go_wp2_with fail
  refine (markMarkedS_own _ nar _ _ _ _ _ hmar (by omega) (by omega) oxar12).mono ?_; rintro e w13 ⟨rfl, oxar13, hg13⟩
  have z13 := below_marked z12 oxar12 (Nat.le_refl _) hg13
  have ot113 := ot112.kept hg13 apxart1.1
  have ot213 := ot212.kept hg13 apxart2.1
  have ow13 := ow12.kept hg13 apxarw.1
  have oxxs13 := oxxs12.kept hg13 apxarxxs.1
  have og13 := og12.kept hg13 apgxar.2
  go_wp2_with fail
  refine (eqIntS_same _ _ (overR xs ar lim i).length _ _ (overR xs ar lim i) _ hR (Rd.of_own og13) (Rd.of_own ow13)).mono ?_; rintro e w14 ⟨rfl, hb14⟩
  have ot114 := own_ext ot113 hb14
  have ot214 := own_ext ot213 hb14
  have ow14 := own_ext ow13 hb14
  have oxxs14 := own_ext oxxs13 hb14
  have oxar14 := own_ext oxar13 hb14
  have og14 := own_ext og13 hb14
  have z14 := ext_trans z13 hb14
  go_wp2_with fail
  refine (markIntS_own _ (overR xs ar lim i).length _ _ _ 1 _ hR (by omega) (by omega) og14).mono ?_; rintro e w15 ⟨rfl, og15, hg15⟩
  have z15 := below_marked z14 og14 (Nat.le_refl _) hg15
  have ot115 := ot114.kept hg15 apgt1.1
  have ot215 := ot214.kept hg15 apgt2.1
  have ow15 := ow14.kept hg15 apgw.1
  have oxxs15 := oxxs14.kept hg15 apgxxs.1
  have oxar15 := oxar14.kept hg15 apgxar.1
  go_wp2_with fail
  refine (heldIntS_any _ (overR xs ar lim i).length _ 1 _ hR (by omega) (by omega) (Rd.of_own og15)).mono ?_; rintro e w16 ⟨rfl, rfl⟩
  go_wp2_with fail
  refine (toIntS_any Axs nxs cxs xs _ hmxs (hrxs.below z15)).mono ?_; rintro e w17 ⟨gt7, rfl, owt7, hb17⟩
  have apt7t1 := apart_before ot115.lt owt7.lt
  have ot117 := own_ext ot115 hb17
  have apt7t2 := apart_before ot215.lt owt7.lt
  have ot217 := own_ext ot215 hb17
  have apt7w := apart_before ow15.lt owt7.lt
  have ow17 := own_ext ow15 hb17
  have apt7g := apart_before og15.lt owt7.lt
  have og17 := own_ext og15 hb17
  have ot717 := own_base owt7 z15.size
  have z17 := ext_trans z15 hb17
  go_wp2_with fail
  refine (toMarkedS_any Aar nar car ar _ hmar (hrar.below z17)).mono ?_; rintro e w18 ⟨gt8, rfl, owt8, hb18⟩
  have apt8t1 := apart_before ot117.lt owt8.lt
  have ot118 := own_ext ot117 hb18
  have apt8t2 := apart_before ot217.lt owt8.lt
  have ot218 := own_ext ot217 hb18
  have apt8w := apart_before ow17.lt owt8.lt
  have ow18 := own_ext ow17 hb18
  have apt8g := apart_before og17.lt owt8.lt
  have og18 := own_ext og17 hb18
  have apt8t7 := apart_before ot717.lt owt8.lt
  have ot718 := own_ext ot717 hb18
  have ot818 := own_base owt8 z17.size
  have z18 := ext_trans z17 hb18
  go_wp2_with fail
  refine (implOvertakenBy_any _ nxs _ xs _ nar _ ar lim i _ hmxs (Rd.of_own ot718) hmar (Rd.of_own ot818)).mono ?_; rintro e w19 ⟨Ah, Ch, rfl, owh, hb19⟩
  have apht1 := apart_before ot118.lt owh.lt
  have ot119 := own_ext ot118 hb19
  have apht2 := apart_before ot218.lt owh.lt
  have ot219 := own_ext ot218 hb19
  have aphw := apart_before ow18.lt owh.lt
  have ow19 := own_ext ow18 hb19
  have aphg := apart_before og18.lt owh.lt
  have og19 := own_ext og18 hb19
  have apht7 := apart_before ot718.lt owh.lt
  have ot719 := own_ext ot718 hb19
  have apht8 := apart_before ot818.lt owh.lt
  have ot819 := own_ext ot818 hb19
  have oh19 := own_base owh z18.size
  have z19 := ext_trans z18 hb19
  go_wp2_with fail
  refine (eqIntS_same _ _ (overR xs ar lim i).length _ _ (overR xs ar lim i) _ hR (Rd.of_own oh19) (Rd.of_own ow19)).mono ?_; rintro e w20 ⟨rfl, hb20⟩
  have ot120 := own_ext ot119 hb20
  have ot220 := own_ext ot219 hb20
  have ow20 := own_ext ow19 hb20
  have og20 := own_ext og19 hb20
  have ot720 := own_ext ot719 hb20
  have ot820 := own_ext ot819 hb20
  have oh20 := own_ext oh19 hb20
  have z20 := ext_trans z19 hb20
  go_wp2_with fail
  refine (heldIntS_any _ (overR xs ar lim i).length _ 1 _ hR (by omega) (by omega) (Rd.of_own og20)).mono ?_; rintro e w21 ⟨rfl, rfl⟩
  go_wp2_with fail
  go_ret
  exact ⟨rfl, z20⟩

end Go.Proofs.Ytgdccclpibbbeaa