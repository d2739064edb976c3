/- RunBands: contracts of the program's and the reference's; the law's walk. -/
import Derived.Test.YtgdccclpibbbeaaBaU
import Derived.Deep.RegionHeld3
namespace Go.Proofs.Ytgdccclpibbbeaa
open Go.RowKit

def runB (xs : List Int) (ar : List Marked) (lim : Int) : Bool := bandMapB xs && arrB ar && inB lim 1 40
def runR (xs : List Int) (ar : List Marked) (lim : Int) : List Int := if runB xs ar lim then bandsRun xs ar lim else []
theorem runB_iff {xs : List Int} {ar : List Marked} {lim : Int} : runB xs ar lim = true ↔ (bandMapB xs = true ∧ arrB ar = true) ∧ inB lim 1 40 = true := by simp [runB]
theorem bandsRun_len {xs : List Int} {ar : List Marked} {lim : Int} (h : runB xs ar lim = true) : (bandsRun xs ar lim).length = ar.length := by
  obtain ⟨⟨h1, h2⟩, h3⟩ := runB_iff.1 h
  have h4 := inB_iff.1 h3
  unfold bandsRun
  exact bRun_len h2 (fun x => bandN_lt h1 x) (by omega) _ _ (bInv_start h2)
theorem runR_len (xs : List Int) (ar : List Marked) (lim : Int) : (runR xs ar lim).length ≤ 40 := by
  unfold runR
  split
  · rename_i h
    rw [bandsRun_len h]
    exact arr_len (runB_iff.1 h).1.2
  · simp

set_option maxHeartbeats 2000000 in
theorem bdAsked_any (A : Option Addr) (n c : Nat) (xs : List Int) (B : Option Addr) (m d : Nat) (ar : List Marked) (lim : Int) (w : World) (hn : n ≤ 1048576) (hr' : Rd w 1 A n (xs.map (Value.int .i64))) (hm : m ≤ 1048576) (hr : Rd w 2 B m (ar.flatMap encMarked)) :
    Calls Try.prog 48 #[.slice A n c, .slice B m d, .int .i64 lim] w fun e w' => e = .returned (.bool (runB xs ar lim)) ∧ Below w.heap.size w w' := by
  cases h1 : bandMapB xs with
  | false =>
    go_enter Try.func48, Try.ntmps48
    go_wp2_with (first | (go_at_call 38; refine (bdMap_any _ _ _ xs _ hn hr').mono ?_; rintro e w' ⟨rfl, rfl⟩) | (go_at_call 56; refine (bdArrivals_any _ _ _ ar _ hm hr).mono ?_; rintro e w1 ⟨rfl, hb1⟩) | (go_at_call 52; refine (l1In_any _ _ _ _).mono ?_; rintro e w' ⟨rfl, rfl⟩))
    go_ret
    exact ⟨ret_bool (by simp [runB, h1]), ext_refl w⟩
  | true =>
    cases h2 : arrB ar with
    | false =>
      go_enter Try.func48, Try.ntmps48
      go_wp2_with (first | (go_at_call 38; refine (bdMap_any _ _ _ xs _ hn hr').mono ?_; rintro e w' ⟨rfl, rfl⟩) | (go_at_call 56; refine (bdArrivals_any _ _ _ ar _ hm hr).mono ?_; rintro e w1 ⟨rfl, hb1⟩) | (go_at_call 52; refine (l1In_any _ _ _ _).mono ?_; rintro e w' ⟨rfl, rfl⟩))
      go_ret
      exact ⟨ret_bool (by simp [runB, h2]), hb1⟩
    | true =>
      by_cases h3 : (1 : Int) ≤ lim
      · by_cases h4 : lim ≤ 40
        · have h5 : inB lim 1 40 = true := inB_iff.2 ⟨h3, h4⟩
          have h6 : runB xs ar lim = true := by simp [runB, h1, h2, h5]
          rw [h6]
          go_enter Try.func48, Try.ntmps48
          go_wp2_with (first | (go_at_call 38; refine (bdMap_any _ _ _ xs _ hn hr').mono ?_; rintro e w' ⟨rfl, rfl⟩) | (go_at_call 56; refine (bdArrivals_any _ _ _ ar _ hm hr).mono ?_; rintro e w1 ⟨rfl, hb1⟩) | (go_at_call 52; refine (l1In_any _ _ _ _).mono ?_; rintro e w' ⟨rfl, rfl⟩))
          go_ret
          exact ⟨by first | rfl | exact ret_bool (by simp; omega), hb1⟩
        · have h5 : inB lim 1 40 = false := by rw [Bool.eq_false_iff]; intro h; exact h4 (inB_iff.1 h).2
          have h6 : runB xs ar lim = false := by simp [runB, h5]
          have h7 : 40 < lim := by omega
          rw [h6]
          go_enter Try.func48, Try.ntmps48
          go_wp2_with (first | (go_at_call 38; refine (bdMap_any _ _ _ xs _ hn hr').mono ?_; rintro e w' ⟨rfl, rfl⟩) | (go_at_call 56; refine (bdArrivals_any _ _ _ ar _ hm hr).mono ?_; rintro e w1 ⟨rfl, hb1⟩) | (go_at_call 52; refine (l1In_any _ _ _ _).mono ?_; rintro e w' ⟨rfl, rfl⟩))
          go_ret
          exact ⟨by first | rfl | exact ret_bool (by simp; omega), hb1⟩
      · have h5 : inB lim 1 40 = false := by rw [Bool.eq_false_iff]; intro h; exact h3 (inB_iff.1 h).1
        have h6 : runB xs ar lim = false := by simp [runB, h5]
        have h7 : lim < 1 := by omega
        rw [h6]
        go_enter Try.func48, Try.ntmps48
        go_wp2_with (first | (go_at_call 38; refine (bdMap_any _ _ _ xs _ hn hr').mono ?_; rintro e w' ⟨rfl, rfl⟩) | (go_at_call 56; refine (bdArrivals_any _ _ _ ar _ hm hr).mono ?_; rintro e w1 ⟨rfl, hb1⟩) | (go_at_call 52; refine (l1In_any _ _ _ _).mono ?_; rintro e w' ⟨rfl, rfl⟩))
        go_ret
        exact ⟨by first | rfl | exact ret_bool (by simp; omega), hb1⟩

set_option maxHeartbeats 2000000 in
theorem canRun_any (A : Option Addr) (n c : Nat) (xs : List Int) (B : Option Addr) (m d : Nat) (ar : List Marked) (lim : Int) (w : World) (hn : n ≤ 1048576) (hr' : Rd w 1 A n (xs.map (Value.int .i64))) (hm : m ≤ 1048576) (hr : Rd w 2 B m (ar.flatMap encMarked)) :
    Calls Try.prog 50 #[.slice A n c, .slice B m d, .int .i64 lim] w fun e w' => e = .returned (.bool (runB xs ar lim)) ∧ Below w.heap.size w w' := by
  cases h1 : bandMapB xs with
  | false =>
    go_enter Try.func50, Try.ntmps50
    go_wp2_with (first | (go_at_call 14; refine (implIsBandMap_any _ _ _ xs _ hn hr').mono ?_; rintro e w' ⟨rfl, rfl⟩) | (go_at_call 45; refine (areMarked_any _ _ _ ar _ hm hr).mono ?_; rintro e w1 ⟨rfl, hb1⟩))
    go_ret
    exact ⟨ret_bool (by simp [runB, h1]), ext_refl w⟩
  | true =>
    cases h2 : arrB ar with
    | false =>
      go_enter Try.func50, Try.ntmps50
      go_wp2_with (first | (go_at_call 14; refine (implIsBandMap_any _ _ _ xs _ hn hr').mono ?_; rintro e w' ⟨rfl, rfl⟩) | (go_at_call 45; refine (areMarked_any _ _ _ ar _ hm hr).mono ?_; rintro e w1 ⟨rfl, hb1⟩))
      go_ret
      exact ⟨ret_bool (by simp [runB, h2]), hb1⟩
    | true =>
      by_cases h3 : (1 : Int) ≤ lim
      · by_cases h4 : lim ≤ 40
        · have h5 : inB lim 1 40 = true := inB_iff.2 ⟨h3, h4⟩
          have h6 : runB xs ar lim = true := by simp [runB, h1, h2, h5]
          rw [h6]
          go_enter Try.func50, Try.ntmps50
          go_wp2_with (first | (go_at_call 14; refine (implIsBandMap_any _ _ _ xs _ hn hr').mono ?_; rintro e w' ⟨rfl, rfl⟩) | (go_at_call 45; refine (areMarked_any _ _ _ ar _ hm hr).mono ?_; rintro e w1 ⟨rfl, hb1⟩))
          go_ret
          exact ⟨by first | rfl | exact ret_bool (by simp; omega), hb1⟩
        · have h5 : inB lim 1 40 = false := by rw [Bool.eq_false_iff]; intro h; exact h4 (inB_iff.1 h).2
          have h6 : runB xs ar lim = false := by simp [runB, h5]
          have h7 : 40 < lim := by omega
          rw [h6]
          go_enter Try.func50, Try.ntmps50
          go_wp2_with (first | (go_at_call 14; refine (implIsBandMap_any _ _ _ xs _ hn hr').mono ?_; rintro e w' ⟨rfl, rfl⟩) | (go_at_call 45; refine (areMarked_any _ _ _ ar _ hm hr).mono ?_; rintro e w1 ⟨rfl, hb1⟩))
          go_ret
          exact ⟨by first | rfl | exact ret_bool (by simp; omega), hb1⟩
      · have h5 : inB lim 1 40 = false := by rw [Bool.eq_false_iff]; intro h; exact h3 (inB_iff.1 h).1
        have h6 : runB xs ar lim = false := by simp [runB, h5]
        have h7 : lim < 1 := by omega
        rw [h6]
        go_enter Try.func50, Try.ntmps50
        go_wp2_with (first | (go_at_call 14; refine (implIsBandMap_any _ _ _ xs _ hn hr').mono ?_; rintro e w' ⟨rfl, rfl⟩) | (go_at_call 45; refine (areMarked_any _ _ _ ar _ hm hr).mono ?_; rintro e w1 ⟨rfl, hb1⟩))
        go_ret
        exact ⟨by first | rfl | exact ret_bool (by simp; omega), hb1⟩

set_option maxHeartbeats 2000000 in
theorem specRunBands_any (A : Option Addr) (n c : Nat) (xs : List Int) (B : Option Addr) (m d : Nat) (ar : List Marked) (lim : Int) (w : World) (hn : n ≤ 1048576) (hr' : Rd w 1 A n (xs.map (Value.int .i64))) (hm : m ≤ 1048576) (hr : Rd w 2 B m (ar.flatMap encMarked)) :
    Calls Try.prog 32 #[.slice A n c, .slice B m d, .int .i64 lim] w (RetInts 3 w (runR xs ar lim) (runB xs ar lim)) := by
  cases h : runB xs ar lim with
  | false =>
    have hR : runR xs ar lim = [] := by simp [runR, h]
    rw [hR]
    clear hR
    go_enter Try.func32, Try.ntmps32
    go_wp2_with (first | (go_at_call 48; refine (bdAsked_any _ _ _ xs _ _ _ ar lim _ hn hr' hm hr).mono ?_; rintro e w1 ⟨rfl, hb1⟩))
    go_ret2
    exact retInts_nil hb1
  | true =>
    have hR : runR xs ar lim = bandsRun xs ar lim := by simp [runR, h]
    rw [hR]
    clear hR
    have hl := bandsRun_len h
    obtain ⟨⟨h1, h2⟩, h0⟩ := runB_iff.1 h
    have h5 := inB_iff.1 h0
    have h3 : 0 < lim := by omega
    have h4 : lim ≤ 1048576 := by omega
    have hn16 : n = 16 := by rw [← hr'.len1]; exact (bandMapB_iff.1 h1).2
    subst hn16
    have hlm : ar.length = m := by have h1 := hr.1; rw [flat_len encMarked 2 encMarked_len] at h1; omega
    clear h0 h5
    have HL := Lib.hid hl
    have HLM := Lib.hid hlm
    clear hl hlm
    go_enter Try.func32, Try.ntmps32
    go_wp2_with (first | (go_at_call 48; refine (bdAsked_any _ _ _ xs _ _ _ ar lim _ hn hr' hm hr).mono ?_; rintro e w1 ⟨rfl, hb1⟩) | (go_at_call 49; refine (bdRun_any _ _ xs _ _ _ ar lim _ h1 h2 h3 h4 (hr'.below hb1) (hr.below hb1)).mono ?_; rintro e w2 ⟨rfl, hB2, hb2⟩))
    go_ret2
    have hlen : m = (bandsRun xs ar lim).length := by rw [HL.out, HLM.out]
    exact retInts_own hlen (own_of_blk hB2 (by simp [← hlen]) hm hb1.size) (ext_trans hb1 hb2)

set_option maxHeartbeats 2000000 in
theorem implRunBands_any (A : Option Addr) (n c : Nat) (xs : List Int) (B : Option Addr) (m d : Nat) (ar : List Marked) (lim : Int) (w : World) (hn : n ≤ 1048576) (hr' : Rd w 1 A n (xs.map (Value.int .i64))) (hm : m ≤ 1048576) (hr : Rd w 2 B m (ar.flatMap encMarked)) :
    Calls Try.prog 33 #[.slice A n c, .slice B m d, .int .i64 lim] w (RetInts 3 w (runR xs ar lim) (runB xs ar lim)) := by
  cases h : runB xs ar lim with
  | false =>
    have hR : runR xs ar lim = [] := by simp [runR, h]
    rw [hR]
    clear hR
    go_enter Try.func33, Try.ntmps33
    go_wp2_with (first | (go_at_call 50; refine (canRun_any _ _ _ xs _ _ _ ar lim _ hn hr' hm hr).mono ?_; rintro e w1 ⟨rfl, hb1⟩))
    go_ret2
    exact retInts_nil hb1
  | true =>
    have hR : runR xs ar lim = bandsRun xs ar lim := by simp [runR, h]
    rw [hR]
    clear hR
    have hl := bandsRun_len h
    obtain ⟨⟨h1, h2⟩, h0⟩ := runB_iff.1 h
    have h5 := inB_iff.1 h0
    have h3 : 0 < lim := by omega
    have h4 : lim ≤ 1048576 := by omega
    have hn16 : n = 16 := by rw [← hr'.len1]; exact (bandMapB_iff.1 h1).2
    subst hn16
    have hlm : ar.length = m := by have h1 := hr.1; rw [flat_len encMarked 2 encMarked_len] at h1; omega
    clear h0 h5
    have HL := Lib.hid hl
    have HLM := Lib.hid hlm
    clear hl hlm
    go_enter Try.func33, Try.ntmps33
    go_wp2_with (first | (go_at_call 50; refine (canRun_any _ _ _ xs _ _ _ ar lim _ hn hr' hm hr).mono ?_; rintro e w1 ⟨rfl, hb1⟩) | (go_at_call 51; refine (runBands_any _ _ xs _ _ _ ar lim _ h1 h2 h3 h4 (hr'.below hb1) (hr.below hb1)).mono ?_; rintro e w2 ⟨rfl, hB2, hb2⟩))
    go_ret2
    have hlen : m = (bandsRun xs ar lim).length := by rw [HL.out, HLM.out]
    exact retInts_own hlen (own_of_blk hB2 (by simp [← hlen]) hm (by have := hb1.size; omega)) (ext_trans hb1 hb2)

set_option maxHeartbeats 4000000 in
theorem walkRunBands (Axs : Option Addr) (nxs cxs : Nat) (xs : List Int) (hnxs : nxs ≤ 9223372036854775807) (Aar : Option Addr) (nar car : Nat) (ar : List Marked) (hnar : nar ≤ 9223372036854775807) (lim : Int) (w : World) (hrxs : Rd w 1 Axs nxs (xs.flatMap encInt)) (hrar : Rd w 2 Aar nar (ar.flatMap encMarked)) :
    Calls Try.prog 9 #[.slice Axs nxs cxs, .slice Aar nar car, .int .i64 lim] w fun e w' => e = .returned (.bool true) ∧ Below w.heap.size w w' := by
  rw [map_flat] at hrxs
  by_cases hbigxs : 1048576 < nxs
  · go_enter Try.func9, Try.ntmps9
    go_wp2_with (first | (go_at_call 24; refine (szMarkedS_any Aar nar car _ _ hnar (by omega) (by omega)).mono ?_; rintro e w1 ⟨rfl, rfl⟩; have hsar : (if (1048576 : Int) < (nar : Int) then (-1 : Int) else 1048576 - nar) = 1048576 - nar := by {{ split <;> omega }}; rw [hsar]; clear hsar) | fail)
    go_ret
    exact ⟨rfl, ext_refl w⟩
  have hmxs : nxs ≤ 1048576 := by omega
  by_cases hbigar : 1048576 < nar
  · go_enter Try.func9, Try.ntmps9
    go_wp2_with (first | (go_at_call 24; refine (szMarkedS_any Aar nar car _ _ hnar (by omega) (by omega)).mono ?_; rintro e w1 ⟨rfl, rfl⟩; have hsar : (if (1048576 : Int) < (nar : Int) then (-1 : Int) else 1048576 - nar) = -1 := by {{ split <;> omega }}; rw [hsar]; clear hsar) | fail)
    go_ret
    exact ⟨rfl, ext_refl w⟩
  have hmar : nar ≤ 1048576 := by omega
  have hR : (runR xs ar lim).length ≤ 1048576 := by have := runR_len xs ar lim; omega
  have z0 : Below w.heap.size w w := ext_refl w
  go_enter Try.func9, Try.ntmps9
  go_wp2_with fail
  refine (szMarkedS_any Aar nar car _ _ hnar (by omega) (by omega)).mono ?_; rintro e w' ⟨rfl, rfl⟩
  have hsar : (if (1048576 : Int) < (nar : Int) then (-1 : Int) else 1048576 - nar) = 1048576 - nar := by { split <;> omega }
  rw [hsar]
  clear hsar
  go_wp2_with fail
  refine (toIntS_any Axs nxs cxs xs _ hmxs (hrxs.below z0)).mono ?_; rintro e w1 ⟨gt1, rfl, owt1, hb1⟩
  have ot11 := own_base owt1 z0.size
  have z1 := ext_trans z0 hb1
  go_wp2_with fail
  refine (toMarkedS_any Aar nar car ar _ hmar (hrar.below z1)).mono ?_; rintro e w2 ⟨gt2, rfl, owt2, hb2⟩
  have apt2t1 := apart_before ot11.lt owt2.lt
  have ot12 := own_ext ot11 hb2
  have ot22 := own_base owt2 z1.size
  have z2 := ext_trans z1 hb2
  go_wp2_with fail
  refine (specRunBands_any _ nxs _ xs _ nar _ ar lim _ hmxs (Rd.of_own ot12) hmar (Rd.of_own ot22)).mono ?_; rintro e w3 ⟨Aw, Cw, rfl, oww, hb3⟩
  have apwt1 := apart_before ot12.lt oww.lt
  have ot13 := own_ext ot12 hb3
  have apwt2 := apart_before ot22.lt oww.lt
  have ot23 := own_ext ot22 hb3
  have ow3 := own_base oww z2.size
  have z3 := ext_trans z2 hb3
  go_wp2_with fail
  refine (toIntS_any Axs nxs cxs xs _ hmxs (hrxs.below z3)).mono ?_; rintro e w4 ⟨gxxs, rfl, owxxs, hb4⟩
  have apxxst1 := apart_before ot13.lt owxxs.lt
  have ot14 := own_ext ot13 hb4
  have apxxst2 := apart_before ot23.lt owxxs.lt
  have ot24 := own_ext ot23 hb4
  have apxxsw := apart_before ow3.lt owxxs.lt
  have ow4 := own_ext ow3 hb4
  have oxxs4 := own_base owxxs z3.size
  have z4 := ext_trans z3 hb4
  go_wp2_with fail
  refine (toMarkedS_any Aar nar car ar _ hmar (hrar.below z4)).mono ?_; rintro e w5 ⟨gxar, rfl, owxar, hb5⟩
  have apxart1 := apart_before ot14.lt owxar.lt
  have ot15 := own_ext ot14 hb5
  have apxart2 := apart_before ot24.lt owxar.lt
  have ot25 := own_ext ot24 hb5
  have apxarw := apart_before ow4.lt owxar.lt
  have ow5 := own_ext ow4 hb5
  have apxarxxs := apart_before oxxs4.lt owxar.lt
  have oxxs5 := own_ext oxxs4 hb5
  have oxar5 := own_base owxar z4.size
  have z5 := ext_trans z4 hb5
  go_wp2_with fail
  refine (implRunBands_any _ nxs _ xs _ nar _ ar lim _ hmxs (Rd.of_own oxxs5) hmar (Rd.of_own oxar5)).mono ?_; rintro e w6 ⟨Ag, Cg, rfl, owg, hb6⟩
  have apgt1 := apart_before ot15.lt owg.lt
  have ot16 := own_ext ot15 hb6
  have apgt2 := apart_before ot25.lt owg.lt
  have ot26 := own_ext ot25 hb6
  have apgw := apart_before ow5.lt owg.lt
  have ow6 := own_ext ow5 hb6
  have apgxxs := apart_before oxxs5.lt owg.lt
  have oxxs6 := own_ext oxxs5 hb6
  have apgxar := apart_before oxar5.lt owg.lt
  have oxar6 := own_ext oxar5 hb6
  have og6 := own_base owg z5.size
  have z6 := ext_trans z5 hb6
  go_wp2_with fail
  refine (eqIntS_same _ _ (runR xs ar lim).length _ _ (runR xs ar lim) _ hR (Rd.of_own og6) (Rd.of_own ow6)).mono ?_; rintro e w7 ⟨rfl, hb7⟩
  have ot17 := own_ext ot16 hb7
  have ot27 := own_ext ot26 hb7
  have ow7 := own_ext ow6 hb7
  have oxxs7 := own_ext oxxs6 hb7
  have oxar7 := own_ext oxar6 hb7
  have og7 := own_ext og6 hb7
  have z7 := ext_trans z6 hb7
  go_wp2_with fail
  refine (toIntS_any Axs nxs cxs xs _ hmxs (hrxs.below z7)).mono ?_; rintro e w8 ⟨gt5, rfl, owt5, hb8⟩
  have apt5t1 := apart_before ot17.lt owt5.lt
  have ot18 := own_ext ot17 hb8
  have apt5t2 := apart_before ot27.lt owt5.lt
  have ot28 := own_ext ot27 hb8
  have apt5w := apart_before ow7.lt owt5.lt
  have ow8 := own_ext ow7 hb8
  have apt5xxs := apart_before oxxs7.lt owt5.lt
  have oxxs8 := own_ext oxxs7 hb8
  have apt5xar := apart_before oxar7.lt owt5.lt
  have oxar8 := own_ext oxar7 hb8
  have apt5g := apart_before og7.lt owt5.lt
  have og8 := own_ext og7 hb8
  have ot58 := own_base owt5 z7.size
  have z8 := ext_trans z7 hb8
  go_wp2_with fail
  refine (eqIntS_same _ _ nxs _ _ xs _ hmxs (Rd.of_own oxxs8) (Rd.of_own ot58)).mono ?_; rintro e w9 ⟨rfl, hb9⟩
  have ot19 := own_ext ot18 hb9
  have ot29 := own_ext ot28 hb9
  have ow9 := own_ext ow8 hb9
  have oxxs9 := own_ext oxxs8 hb9
  have oxar9 := own_ext oxar8 hb9
  have og9 := own_ext og8 hb9
  have ot59 := own_ext ot58 hb9
  have z9 := ext_trans z8 hb9
  go_wp2_with fail
  refine (toMarkedS_any Aar nar car ar _ hmar (hrar.below z9)).mono ?_; rintro e w10 ⟨gt6, rfl, owt6, hb10⟩
  have apt6t1 := apart_before ot19.lt owt6.lt
  have ot110 := own_ext ot19 hb10
  have apt6t2 := apart_before ot29.lt owt6.lt
  have ot210 := own_ext ot29 hb10
  have apt6w := apart_before ow9.lt owt6.lt
  have ow10 := own_ext ow9 hb10
  have apt6xxs := apart_before oxxs9.lt owt6.lt
  have oxxs10 := own_ext oxxs9 hb10
  have apt6xar := apart_before oxar9.lt owt6.lt
  have oxar10 := own_ext oxar9 hb10
  have apt6g := apart_before og9.lt owt6.lt
  have og10 := own_ext og9 hb10
  have ot610 := own_base owt6 z9.size
  have z10 := ext_trans z9 hb10
  go_wp2_with fail
  refine (eqMarkedS_same _ _ nar _ _ ar _ hmar (Rd.of_own oxar10) (Rd.of_own ot610)).mono ?_; rintro e w11 ⟨rfl, hb11⟩
  have ot111 := own_ext ot110 hb11
  have ot211 := own_ext ot210 hb11
  have ow11 := own_ext ow10 hb11
  have oxxs11 := own_ext oxxs10 hb11
  have oxar11 := own_ext oxar10 hb11
  have og11 := own_ext og10 hb11
  have ot611 := own_ext ot610 hb11
  have z11 := ext_trans z10 hb11
  go_wp2_with fail
  refine (markIntS_own _ nxs _ _ _ _ _ hmxs (by omega) (by omega) oxxs11).mono ?_; rintro e w12 ⟨rfl, oxxs12, hg12⟩
  have z12 := below_marked z11 oxxs11 (Nat.le_refl _) hg12
  have ot112 := ot111.kept hg12 apxxst1.1
  have ot212 := ot211.kept hg12 apxxst2.1
  have ow12 := ow11.kept hg12 apxxsw.1
  have oxar12 := oxar11.kept hg12 apxarxxs.2
  have og12 := og11.kept hg12 apgxxs.2
  go_wp2_with fail
  refine (markMarkedS_own _ nar _ _ _ _ _ hmar (by omega) (by omega) oxar12).mono ?_; rintro e w13 ⟨rfl, oxar13, hg13⟩
  have z13 := below_marked z12 oxar12 (Nat.le_refl _) hg13
  have ot113 := ot112.kept hg13 apxart1.1
  have ot213 := ot212.kept hg13 apxart2.1
  have ow13 := ow12.kept hg13 apxarw.1
  have oxxs13 := oxxs12.kept hg13 apxarxxs.1
  have og13 := og12.kept hg13 apgxar.2
  go_wp2_with fail
  refine (eqIntS_same _ _ (runR xs ar lim).length _ _ (runR xs ar lim) _ hR (Rd.of_own og13) (Rd.of_own ow13)).mono ?_; rintro e w14 ⟨rfl, hb14⟩
  have ot114 := own_ext ot113 hb14
  have ot214 := own_ext ot213 hb14
  have ow14 := own_ext ow13 hb14
  have oxxs14 := own_ext oxxs13 hb14
  have oxar14 := own_ext oxar13 hb14
  have og14 := own_ext og13 hb14
  have z14 := ext_trans z13 hb14
  go_wp2_with fail
  refine (markIntS_own _ (runR xs ar lim).length _ _ _ 1 _ hR (by omega) (by omega) og14).mono ?_; rintro e w15 ⟨rfl, og15, hg15⟩
  have z15 := below_marked z14 og14 (Nat.le_refl _) hg15
  have ot115 := ot114.kept hg15 apgt1.1
  have ot215 := ot214.kept hg15 apgt2.1
  have ow15 := ow14.kept hg15 apgw.1
  have oxxs15 := oxxs14.kept hg15 apgxxs.1
  have oxar15 := oxar14.kept hg15 apgxar.1
  go_wp2_with fail
  refine (heldIntS_any _ (runR xs ar lim).length _ 1 _ hR (by omega) (by omega) (Rd.of_own og15)).mono ?_; rintro e w16 ⟨rfl, rfl⟩
  go_wp2_with fail
  refine (toIntS_any Axs nxs cxs xs _ hmxs (hrxs.below z15)).mono ?_; rintro e w17 ⟨gt7, rfl, owt7, hb17⟩
  have apt7t1 := apart_before ot115.lt owt7.lt
  have ot117 := own_ext ot115 hb17
  have apt7t2 := apart_before ot215.lt owt7.lt
  have ot217 := own_ext ot215 hb17
  have apt7w := apart_before ow15.lt owt7.lt
  have ow17 := own_ext ow15 hb17
  have apt7g := apart_before og15.lt owt7.lt
  have og17 := own_ext og15 hb17
  have ot717 := own_base owt7 z15.size
  have z17 := ext_trans z15 hb17
  go_wp2_with fail
  refine (toMarkedS_any Aar nar car ar _ hmar (hrar.below z17)).mono ?_; rintro e w18 ⟨gt8, rfl, owt8, hb18⟩
  have apt8t1 := apart_before ot117.lt owt8.lt
  have ot118 := own_ext ot117 hb18
  have apt8t2 := apart_before ot217.lt owt8.lt
  have ot218 := own_ext ot217 hb18
  have apt8w := apart_before ow17.lt owt8.lt
  have ow18 := own_ext ow17 hb18
  have apt8g := apart_before og17.lt owt8.lt
  have og18 := own_ext og17 hb18
  have apt8t7 := apart_before ot717.lt owt8.lt
  have ot718 := own_ext ot717 hb18
  have ot818 := own_base owt8 z17.size
  have z18 := ext_trans z17 hb18
  go_wp2_with fail
  refine (implRunBands_any _ nxs _ xs _ nar _ ar lim _ hmxs (Rd.of_own ot718) hmar (Rd.of_own ot818)).mono ?_; rintro e w19 ⟨Ah, Ch, rfl, owh, hb19⟩
  have apht1 := apart_before ot118.lt owh.lt
  have ot119 := own_ext ot118 hb19
  have apht2 := apart_before ot218.lt owh.lt
  have ot219 := own_ext ot218 hb19
  have aphw := apart_before ow18.lt owh.lt
  have ow19 := own_ext ow18 hb19
  have aphg := apart_before og18.lt owh.lt
  have og19 := own_ext og18 hb19
  have apht7 := apart_before ot718.lt owh.lt
  have ot719 := own_ext ot718 hb19
  have apht8 := apart_before ot818.lt owh.lt
  have ot819 := own_ext ot818 hb19
  have oh19 := own_base owh z18.size
  have z19 := ext_trans z18 hb19
  go_wp2_with fail
  refine (eqIntS_same _ _ (runR xs ar lim).length _ _ (runR xs ar lim) _ hR (Rd.of_own oh19) (Rd.of_own ow19)).mono ?_; rintro e w20 ⟨rfl, hb20⟩
  have ot120 := own_ext ot119 hb20
  have ot220 := own_ext ot219 hb20
  have ow20 := own_ext ow19 hb20
  have og20 := own_ext og19 hb20
  have ot720 := own_ext ot719 hb20
  have ot820 := own_ext ot819 hb20
  have oh20 := own_ext oh19 hb20
  have z20 := ext_trans z19 hb20
  go_wp2_with fail
  refine (heldIntS_any _ (runR xs ar lim).length _ 1 _ hR (by omega) (by omega) (Rd.of_own og20)).mono ?_; rintro e w21 ⟨rfl, rfl⟩
  go_wp2_with fail
  go_ret
  exact ⟨rfl, z20⟩

end Go.Proofs.Ytgdccclpibbbeaa