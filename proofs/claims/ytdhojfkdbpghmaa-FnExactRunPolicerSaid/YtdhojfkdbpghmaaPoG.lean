/- BytesOfColours: contracts of the program's and the reference's, and the law's walk. -/
import Derived.Test.YtdhojfkdbpghmaaPoF
import Derived.Deep.RegionHeld3
import Derived.StillTailTactics
namespace Go.Proofs.Ytdhojfkdbpghmaa
open Go.RowKit

def bytesB (xs : List Send) (cs : List Int) : Bool := sendsB xs && decide (cs.length = xs.length) && cs.all (fun x => inB x 0 2)
def bytePairs (xs : List Send) (cs : List Int) : List (Nat × Int) := List.zipWith (fun c x => (c.toNat, x.size)) cs xs
def bytesR (xs : List Send) (cs : List Int) : List Int := if bytesB xs cs then tally 3 (bytePairs xs cs) else []
theorem bytesR_len (xs : List Send) (cs : List Int) : (bytesR xs cs).length ≤ 3 := by unfold bytesR; split <;> simp [tally_len]
theorem bytePairs_get {xs : List Send} {cs : List Int} {k : Nat} {x : Send} {c : Int} (hx : xs[k]? = some x) (hc : cs[k]? = some c) : (bytePairs xs cs)[k]? = some (c.toNat, x.size) := by simp [bytePairs, List.getElem?_zipWith, hx, hc]
theorem cntRel_drew {w wr : World} {t : TypeId} {m n : Nat} {ps : List (Nat × Int)} {i : Value} (h : CntRel w t m n ps i wr) : CntRel w t m n ps i wr.drew := by
  obtain ⟨k, hk, hi, hB, hb⟩ := h
  exact ⟨k, hk, hi, hB.drew, hb.drew⟩
theorem send_size {xs : List Send} (h : sendsB xs = true) {k : Nat} {x : Send} (hx : xs[k]? = some x) : 1 ≤ x.size ∧ x.size ≤ 1500 := by
  simp only [sendsB, Bool.and_eq_true] at h
  have h1 := (chain_at h.1 hx).1
  simp only [sendOk, Bool.and_eq_true, inB_iff] at h1
  exact h1.1
theorem bytePairs_bd {xs : List Send} (h : sendsB xs = true) (cs : List Int) (k : Nat) : ∀ p ∈ (bytePairs xs cs).take k, 0 ≤ p.2 ∧ p.2 ≤ 1500 := by
  intro p hp
  have h1 := List.mem_of_mem_take hp
  obtain ⟨i, hi⟩ := List.getElem?_of_mem h1
  unfold bytePairs at hi
  rw [List.getElem?_zipWith] at hi
  cases hc : cs[i]? with
  | none => simp [hc] at hi
  | some c =>
    cases hx : xs[i]? with
    | none => simp [hc, hx] at hi
    | some x =>
      simp [hc, hx] at hi
      subst hi
      have := send_size h hx
      simp; omega

set_option maxHeartbeats 2000000 in
theorem specBytesOfColours_any (A : Option Addr) (n c : Nat) (xs : List Send) (B : Option Addr) (m d : Nat) (cs : List Int) (w : World) (hn : n ≤ 1048576) (hr : Rd w 2 A n (xs.flatMap encSend)) (hm : m ≤ 1048576) (hs : Rd w 1 B m (cs.map (Value.int .i64))) :
    Calls Try.prog 36 #[.slice A n c, .slice B m d] w (RetInts 3 w (bytesR xs cs) (bytesB xs cs)) := by
  have hl : xs.length = n := by have h1 := hr.1; rw [flat_len encSend 2 encSend_len] at h1; omega
  have hlc := hs.len1
  have hmk : ∀ W, (Instr.makeSlice 41 (.int .i64 3) (.int .i64 3)).run Try.prog W = .ok (.slice (some ⟨W.heap.size, 0, none⟩) 3 3) (W.alloc (.cells #[.int .i64 0, .int .i64 0, .int .i64 0] 3)) := fun _ => by kernel_rfl
  cases h : bytesB xs cs with
  | false =>
    have hR : bytesR xs cs = [] := by simp [bytesR, h]
    rw [hR]
    clear hR
    cases h1 : sendsB xs with
    | false =>
      go_enter Try.func36, Try.ntmps36
      go_wp2_with (first | (go_at_call 59; refine (buSends_any _ _ _ xs _ hn hr).mono ?_; rintro e w1 ⟨rfl, hb1⟩) | (go_at_call 55; refine (l1All_any _ _ _ cs _ _ _ hm (hs.below hb1)).mono ?_; rintro e w' ⟨rfl, rfl⟩))
      go_ret2
      exact retInts_nil hb1
    | true =>
      by_cases h2 : m = n
      · have hal : (cs.all fun x => inB x 0 2) = false := by simpa [bytesB, h1, hl, hlc, h2] using h
        have g2 : ((m : Int) != (n : Int)) = false := by simp; omega
        have H2 := Lib.hid h2
        clear h2
        go_enter Try.func36, Try.ntmps36
        go_wp2_with (first | (go_at_call 59; refine (buSends_any _ _ _ xs _ hn hr).mono ?_; rintro e w1 ⟨rfl, hb1⟩) | (go_at_call 55; refine (l1All_any _ _ _ cs _ _ _ hm (hs.below hb1)).mono ?_; rintro e w' ⟨rfl, rfl⟩))
        go_ret2
        exact retInts_nil hb1
      · have g2 : ((m : Int) != (n : Int)) = true := by simp; omega
        clear h2
        go_enter Try.func36, Try.ntmps36
        go_wp2_with (first | (go_at_call 59; refine (buSends_any _ _ _ xs _ hn hr).mono ?_; rintro e w1 ⟨rfl, hb1⟩) | (go_at_call 55; refine (l1All_any _ _ _ cs _ _ _ hm (hs.below hb1)).mono ?_; rintro e w' ⟨rfl, rfl⟩))
        go_ret2
        exact retInts_nil hb1
  | true =>
    have hR : bytesR xs cs = tally 3 (bytePairs xs cs) := by simp [bytesR, h]
    rw [hR]
    simp only [bytesB, Bool.and_eq_true, decide_eq_true_eq] at h
    have h1 : sendsB xs = true := h.1.1
    have h60 : n ≤ 60 := by have := h1; simp only [sendsB, Bool.and_eq_true, decide_eq_true_eq] at this; omega
    have hq : m = n ∧ (cs.all fun x => inB x 0 2) = true := ⟨by omega, h.2⟩
    have hal : (cs.all fun x => inB x 0 2) = true := hq.2
    have HALL := Lib.hid hq.2
    have hmn : m = n := hq.1
    clear h hq hR
    subst hmn
    have HL := Lib.hid hl
    have HLC := Lib.hid hlc
    clear hl hlc
    have H1 := Lib.hid h1
    go_enter Try.func36, Try.ntmps36
    go_wp2_with (first | (go_at_call 59; refine (buSends_any _ _ _ xs _ hn hr).mono ?_; rintro e w1 ⟨rfl, hb1⟩) | (go_at_call 55; refine (l1All_any _ _ _ cs _ _ _ hm (hs.below hb1)).mono ?_; rintro e w' ⟨rfl, rfl⟩))
    have hR2 := hr.below hb1
    have hS2 := hs.below hb1
    clear hmk hr hs h1
    go_loopw [27] (CntRel w1 3 3 m (bytePairs xs cs)) (fun i _ => m - (intOf i).toNat)
    case atStart => exact ⟨0, Nat.zero_le _, rfl, Blk.new w1 _ _, ext_alloc (ext_refl w1) _⟩
    case round =>
      obtain ⟨k, hk, rfl, hB, hb⟩ := hrel
      by_cases hlt : k < m
      · obtain ⟨b, o, rfl, hbl, hcell⟩ := hR2.2 (by omega)
        have hblr : b < wr.heap.size := Nat.lt_of_lt_of_le hbl hb.size
        have hlx : k < xs.length := by rw [HL.out]; exact hlt
        have hx : xs[k]? = some xs[k] := List.getElem?_eq_getElem hlx
        generalize xs[k] = x at hx
        have hc0 : wr.cell? ⟨b, o + (k * 2 + 0), none⟩ = some (.int .i64 x.tick) := (hb.cell (p := ⟨b, o + (k * 2 + 0), none⟩) hbl).trans (hcell _ _ ((flat_get encSend 2 encSend_len xs k 0 x hx (by omega)).trans rfl))
        have hc1 : wr.cell? ⟨b, o + (k * 2 + 1), none⟩ = some (.int .i64 x.size) := (hb.cell (p := ⟨b, o + (k * 2 + 1), none⟩) hbl).trans (hcell _ _ ((flat_get encSend 2 encSend_len xs k 1 x hx (by omega)).trans rfl))
        simp only [Nat.add_zero, ← Nat.add_assoc] at hc0 hc1
        obtain ⟨b2, o2, y, rfl, hbl2, hy, hcy⟩ := hS2.int k hlt
        have hblr2 : b2 < wr.heap.size := Nat.lt_of_lt_of_le hbl2 hb.size
        have hcy' := (hb.cell (p := ⟨b2, o2 + k, none⟩) hbl2).trans hcy
        have hp := bytePairs_get hx hy
        obtain ⟨x0, x1⟩ := inB_iff.1 (all_get HALL.out hy)
        obtain ⟨j, rfl⟩ := Int.eq_ofNat_of_zero_le x0
        rw [Int.toNat_natCast] at hp
        have hj : j < 3 := by omega
        have hsz := send_size H1.out hx
        have q := cell_tally hB (j := j) (by rw [tally_len]; exact hj)
        have f0 := hB.frozen j
        have hgl : w1.heap.size < wr.heap.size := hB.lt
        have hbd := tally_bd 3 1500 (by omega) ((bytePairs xs cs).take k) (bytePairs_bd H1.out cs k) j
        have hlen : ((bytePairs xs cs).take k).length ≤ k := List.length_take_le _ _
        have hst := cntRel_step (m := 3) hp hlt (hB.alloc (.cells #[.int .i64 x.tick, .int .i64 x.size] 72)) (ext_alloc hb _)
        generalize (tally 3 ((bytePairs xs cs).take k)).getD j 0 = v at q hbd hst
        have hv0 : 0 ≤ v := hbd.1
        have hv1 : v ≤ 1048576 * 1500 := by have := hbd.2; omega
        have hz0 := hsz.1
        have hz1 := hsz.2
        have HST := Lib.hid hst
        have j0 : (0 : Int) ≤ (j : Int) := by omega
        have j1 : (j : Int) < 3 := by omega
        have k1 : (k : Int) < (m : Int) := by omega
        clear hx hp hcy hbd hlen hst hcell hy hsz hbl hbl2 x0 x1
        have a1 : (wr.alloc (.cells #[.int .i64 x.tick, .int .i64 x.size] 72)).cell? ⟨b2, o2 + k, none⟩ = some (.int .i64 (j : Int)) := (World.cell?_alloc_lt _ _ _ hblr2).trans hcy'
        have a2 : (wr.alloc (.cells #[.int .i64 x.tick, .int .i64 x.size] 72)).cell? ⟨w1.heap.size, j, none⟩ = some (.int .i64 v) := (World.cell?_alloc_lt _ _ _ hgl).trans q
        have a3 : (wr.alloc (.cells #[.int .i64 x.tick, .int .i64 x.size] 72)).frozen? ⟨w1.heap.size, j, none⟩ = false := (World.frozen?_alloc_past _ _ _ hgl).trans f0
        have a4 : (wr.alloc (.cells #[.int .i64 x.tick, .int .i64 x.size] 72)).cell? ⟨wr.heap.size, 1, none⟩ = some (.int .i64 x.size) := World.cell?_alloc_new _ _ _ _
        go_wp2_with fail
        generalize (wr.alloc (.cells #[.int .i64 x.tick, .int .i64 x.size] 72)) = W2 at *
        have hwv := wrap_in (v + x.size) (by omega) (by omega)
        go_still_tail 11, (by kernel_rfl)
        clear hwv
        change wpList _ _ _ _ _ (World.drew W2)
        go_wp2_with fail
        go_roundw
        case rel => exact cntRel_drew HST.out
        case measure => simp [intOf]; omega
      · go_wp2_with fail
        go_ret2
        have hk2 : k = m := by omega
        subst hk2
        rw [List.take_of_length_le (by simp [bytePairs, HL.out, HLC.out])] at hB
        exact retInts_own (by rw [tally_len]) (own_of_blk hB (by simp [tally_len]) (by omega) hb1.size) (ext_trans hb1 hb)

set_option maxHeartbeats 2000000 in
theorem implBytesOfColours_any (A : Option Addr) (n c : Nat) (xs : List Send) (B : Option Addr) (m d : Nat) (cs : List Int) (w : World) (hn : n ≤ 1048576) (hr : Rd w 2 A n (xs.flatMap encSend)) (hm : m ≤ 1048576) (hs : Rd w 1 B m (cs.map (Value.int .i64))) :
    Calls Try.prog 38 #[.slice A n c, .slice B m d] w (RetInts 3 w (bytesR xs cs) (bytesB xs cs)) := by
  have hl : xs.length = n := by have h1 := hr.1; rw [flat_len encSend 2 encSend_len] at h1; omega
  have hlc := hs.len1
  have hmk : ∀ W, (Instr.makeSlice 41 (.int .i64 3) (.int .i64 3)).run Try.prog W = .ok (.slice (some ⟨W.heap.size, 0, none⟩) 3 3) (W.alloc (.cells #[.int .i64 0, .int .i64 0, .int .i64 0] 3)) := fun _ => by kernel_rfl
  cases h : bytesB xs cs with
  | false =>
    have hR : bytesR xs cs = [] := by simp [bytesR, h]
    rw [hR]
    clear hR
    cases h1 : sendsB xs with
    | false =>
      go_enter Try.func38, Try.ntmps38
      go_wp2_with (first | (go_at_call 61; refine (areSends_any _ _ _ xs _ hn hr).mono ?_; rintro e w1 ⟨rfl, hb1⟩) | (go_at_call 56; refine (areColours_any _ _ _ cs _ hm (hs.below hb1)).mono ?_; rintro e w' ⟨rfl, rfl⟩))
      go_ret2
      exact retInts_nil hb1
    | true =>
      cases h3 : coloursB cs with
      | false =>
        go_enter Try.func38, Try.ntmps38
        go_wp2_with (first | (go_at_call 61; refine (areSends_any _ _ _ xs _ hn hr).mono ?_; rintro e w1 ⟨rfl, hb1⟩) | (go_at_call 56; refine (areColours_any _ _ _ cs _ hm (hs.below hb1)).mono ?_; rintro e w' ⟨rfl, rfl⟩))
        go_ret2
        exact retInts_nil hb1
      | true =>
        have h2 : ¬ m = n := by
          intro h2
          simp only [coloursB, Bool.and_eq_true] at h3
          simp [bytesB, h1, hl, hlc, h2, h3.1] at h
        have g2 : ((m : Int) != (n : Int)) = true := by simp; omega
        clear h2
        go_enter Try.func38, Try.ntmps38
        go_wp2_with (first | (go_at_call 61; refine (areSends_any _ _ _ xs _ hn hr).mono ?_; rintro e w1 ⟨rfl, hb1⟩) | (go_at_call 56; refine (areColours_any _ _ _ cs _ hm (hs.below hb1)).mono ?_; rintro e w' ⟨rfl, rfl⟩))
        go_ret2
        exact retInts_nil hb1
  | true =>
    have hR : bytesR xs cs = tally 3 (bytePairs xs cs) := by simp [bytesR, h]
    rw [hR]
    simp only [bytesB, Bool.and_eq_true, decide_eq_true_eq] at h
    have h1 : sendsB xs = true := h.1.1
    have h60 : n ≤ 60 := by have := h1; simp only [sendsB, Bool.and_eq_true, decide_eq_true_eq] at this; omega
    have hq : m = n ∧ (cs.all fun x => inB x 0 2) = true := ⟨by omega, h.2⟩
    have hal : coloursB cs = true := by simp only [coloursB, hq.2, Bool.true_and, decide_eq_true_eq]; omega
    have HALL := Lib.hid hq.2
    have hmn : m = n := hq.1
    clear h hq hR
    subst hmn
    have HL := Lib.hid hl
    have HLC := Lib.hid hlc
    clear hl hlc
    have H1 := Lib.hid h1
    go_enter Try.func38, Try.ntmps38
    go_wp2_with (first | (go_at_call 61; refine (areSends_any _ _ _ xs _ hn hr).mono ?_; rintro e w1 ⟨rfl, hb1⟩) | (go_at_call 56; refine (areColours_any _ _ _ cs _ hm (hs.below hb1)).mono ?_; rintro e w' ⟨rfl, rfl⟩))
    have hR2 := hr.below hb1
    have hS2 := hs.below hb1
    clear hmk hr hs h1
    go_loopw [27] (CntRel w1 3 3 m (bytePairs xs cs)) (fun i _ => m - (intOf i).toNat)
    case atStart => exact ⟨0, Nat.zero_le _, rfl, Blk.new w1 _ _, ext_alloc (ext_refl w1) _⟩
    case round =>
      obtain ⟨k, hk, rfl, hB, hb⟩ := hrel
      by_cases hlt : k < m
      · obtain ⟨b, o, rfl, hbl, hcell⟩ := hR2.2 (by omega)
        have hblr : b < wr.heap.size := Nat.lt_of_lt_of_le hbl hb.size
        have hlx : k < xs.length := by rw [HL.out]; exact hlt
        have hx : xs[k]? = some xs[k] := List.getElem?_eq_getElem hlx
        generalize xs[k] = x at hx
        have hc1 : wr.cell? ⟨b, o + (k * 2 + 1), none⟩ = some (.int .i64 x.size) := (hb.cell (p := ⟨b, o + (k * 2 + 1), none⟩) hbl).trans (hcell _ _ ((flat_get encSend 2 encSend_len xs k 1 x hx (by omega)).trans rfl))
        simp only [← Nat.add_assoc] at hc1
        obtain ⟨b2, o2, y, rfl, hbl2, hy, hcy⟩ := hS2.int k hlt
        have hblr2 : b2 < wr.heap.size := Nat.lt_of_lt_of_le hbl2 hb.size
        have hcy' := (hb.cell (p := ⟨b2, o2 + k, none⟩) hbl2).trans hcy
        have hp := bytePairs_get hx hy
        obtain ⟨x0, x1⟩ := inB_iff.1 (all_get HALL.out hy)
        obtain ⟨j, rfl⟩ := Int.eq_ofNat_of_zero_le x0
        rw [Int.toNat_natCast] at hp
        have hj : j < 3 := by omega
        have hsz := send_size H1.out hx
        have q := cell_tally hB (j := j) (by rw [tally_len]; exact hj)
        have f0 := hB.frozen j
        have hgl : w1.heap.size < wr.heap.size := hB.lt
        have hbd := tally_bd 3 1500 (by omega) ((bytePairs xs cs).take k) (bytePairs_bd H1.out cs k) j
        have hlen : ((bytePairs xs cs).take k).length ≤ k := List.length_take_le _ _
        have hst := cntRel_step (m := 3) hp hlt hB hb
        generalize (tally 3 ((bytePairs xs cs).take k)).getD j 0 = v at q hbd hst
        have hv0 : 0 ≤ v := hbd.1
        have hv1 : v ≤ 1048576 * 1500 := by have := hbd.2; omega
        have hz0 := hsz.1
        have hz1 := hsz.2
        have HST := Lib.hid hst
        have j0 : (0 : Int) ≤ (j : Int) := by omega
        have j1 : (j : Int) < 3 := by omega
        have k1 : (k : Int) < (m : Int) := by omega
        clear hx hp hcy hbd hlen hst hcell hy hsz hbl hbl2 x0 x1
        go_wp2_with fail
        have hwv := wrap_in (v + x.size) (by omega) (by omega)
        go_still_tail 11, (by kernel_rfl)
        clear hwv
        change wpList _ _ _ _ _ (World.drew wr)
        go_wp2_with fail
        go_roundw
        case rel => exact cntRel_drew HST.out
        case measure => simp [intOf]; omega
      · go_wp2_with fail
        go_ret2
        have hk2 : k = m := by omega
        subst hk2
        rw [List.take_of_length_le (by simp [bytePairs, HL.out, HLC.out])] at hB
        exact retInts_own (by rw [tally_len]) (own_of_blk hB (by simp [tally_len]) (by omega) hb1.size) (ext_trans hb1 hb)

set_option maxHeartbeats 4000000 in
theorem walkBytesOfColours (Axs : Option Addr) (nxs cxs : Nat) (xs : List Send) (hnxs : nxs ≤ 9223372036854775807) (Acs : Option Addr) (ncs ccs : Nat) (cs : List Int) (hncs : ncs ≤ 9223372036854775807) (w : World) (hrxs : Rd w 2 Axs nxs (xs.flatMap encSend)) (hrcs : Rd w 1 Acs ncs (cs.flatMap encInt)) :
    Calls Try.prog 11 #[.slice Axs nxs cxs, .slice Acs ncs ccs] w fun e w' => e = .returned (.bool true) ∧ Below w.heap.size w w' := by
  rw [map_flat] at hrcs
  by_cases hbigcs : 1048576 < ncs
  · go_enter Try.func11, Try.ntmps11
    go_wp2_with (first | (go_at_call 35; refine (szSendS_any Axs nxs cxs _ _ hnxs (by omega) (by omega)).mono ?_; rintro e w1 ⟨rfl, rfl⟩; have hsxs : (if (1048576 : Int) < (nxs : Int) then (-1 : Int) else 1048576 - nxs) = 1048576 - nxs := by {{ split <;> omega }}; rw [hsxs]; clear hsxs) | fail)
    go_ret
    exact ⟨rfl, ext_refl w⟩
  have hmcs : ncs ≤ 1048576 := by omega
  by_cases hbigxs : 1048576 < nxs
  · go_enter Try.func11, Try.ntmps11
    go_wp2_with (first | (go_at_call 35; refine (szSendS_any Axs nxs cxs _ _ hnxs (by omega) (by omega)).mono ?_; rintro e w1 ⟨rfl, rfl⟩; have hsxs : (if (1048576 : Int) < (nxs : Int) then (-1 : Int) else 1048576 - nxs) = -1 := by {{ split <;> omega }}; rw [hsxs]; clear hsxs) | fail)
    go_ret
    exact ⟨rfl, ext_refl w⟩
  have hmxs : nxs ≤ 1048576 := by omega
  have hR : (bytesR xs cs).length ≤ 1048576 := by have := bytesR_len xs cs; omega
  have z0 : Below w.heap.size w w := ext_refl w
  go_enter Try.func11, Try.ntmps11
  go_wp2_with fail
  refine (szSendS_any Axs nxs cxs _ _ hnxs (by omega) (by omega)).mono ?_; rintro e w' ⟨rfl, rfl⟩
  have hsxs : (if (1048576 : Int) < (nxs : Int) then (-1 : Int) else 1048576 - nxs) = 1048576 - nxs := by { split <;> omega }
  rw [hsxs]
  clear hsxs
  go_wp2_with fail
  refine (toSendS_any Axs nxs cxs xs _ hmxs (hrxs.below z0)).mono ?_; rintro e w1 ⟨gt1, rfl, owt1, hb1⟩
  have ot11 := own_base owt1 z0.size
  have z1 := ext_trans z0 hb1
  go_wp2_with fail
  refine (toIntS_any Acs ncs ccs cs _ hmcs (hrcs.below z1)).mono ?_; rintro e w2 ⟨gt2, rfl, owt2, hb2⟩
  have apt2t1 := apart_before ot11.lt owt2.lt
  have ot12 := own_ext ot11 hb2
  have ot22 := own_base owt2 z1.size
  have z2 := ext_trans z1 hb2
  go_wp2_with fail
  refine (specBytesOfColours_any _ nxs _ xs _ ncs _ cs _ hmxs (Rd.of_own ot12) hmcs (Rd.of_own ot22)).mono ?_; rintro e w3 ⟨Aw, Cw, rfl, oww, hb3⟩
  have apwt1 := apart_before ot12.lt oww.lt
  have ot13 := own_ext ot12 hb3
  have apwt2 := apart_before ot22.lt oww.lt
  have ot23 := own_ext ot22 hb3
  have ow3 := own_base oww z2.size
  have z3 := ext_trans z2 hb3
  go_wp2_with fail
  refine (toSendS_any Axs nxs cxs xs _ hmxs (hrxs.below z3)).mono ?_; rintro e w4 ⟨gxxs, rfl, owxxs, hb4⟩
  have apxxst1 := apart_before ot13.lt owxxs.lt
  have ot14 := own_ext ot13 hb4
  have apxxst2 := apart_before ot23.lt owxxs.lt
  have ot24 := own_ext ot23 hb4
  have apxxsw := apart_before ow3.lt owxxs.lt
  have ow4 := own_ext ow3 hb4
  have oxxs4 := own_base owxxs z3.size
  have z4 := ext_trans z3 hb4
  go_wp2_with fail
  refine (toIntS_any Acs ncs ccs cs _ hmcs (hrcs.below z4)).mono ?_; rintro e w5 ⟨gxcs, rfl, owxcs, hb5⟩
  have apxcst1 := apart_before ot14.lt owxcs.lt
  have ot15 := own_ext ot14 hb5
  have apxcst2 := apart_before ot24.lt owxcs.lt
  have ot25 := own_ext ot24 hb5
  have apxcsw := apart_before ow4.lt owxcs.lt
  have ow5 := own_ext ow4 hb5
  have apxcsxxs := apart_before oxxs4.lt owxcs.lt
  have oxxs5 := own_ext oxxs4 hb5
  have oxcs5 := own_base owxcs z4.size
  have z5 := ext_trans z4 hb5
  go_wp2_with fail
  refine (implBytesOfColours_any _ nxs _ xs _ ncs _ cs _ hmxs (Rd.of_own oxxs5) hmcs (Rd.of_own oxcs5)).mono ?_; rintro e w6 ⟨Ag, Cg, rfl, owg, hb6⟩
  have apgt1 := apart_before ot15.lt owg.lt
  have ot16 := own_ext ot15 hb6
  have apgt2 := apart_before ot25.lt owg.lt
  have ot26 := own_ext ot25 hb6
  have apgw := apart_before ow5.lt owg.lt
  have ow6 := own_ext ow5 hb6
  have apgxxs := apart_before oxxs5.lt owg.lt
  have oxxs6 := own_ext oxxs5 hb6
  have apgxcs := apart_before oxcs5.lt owg.lt
  have oxcs6 := own_ext oxcs5 hb6
  have og6 := own_base owg z5.size
  have z6 := ext_trans z5 hb6
  go_wp2_with fail
  refine (eqIntS_same _ _ (bytesR xs cs).length _ _ (bytesR xs cs) _ hR (Rd.of_own og6) (Rd.of_own ow6)).mono ?_; rintro e w7 ⟨rfl, hb7⟩
  have ot17 := own_ext ot16 hb7
  have ot27 := own_ext ot26 hb7
  have ow7 := own_ext ow6 hb7
  have oxxs7 := own_ext oxxs6 hb7
  have oxcs7 := own_ext oxcs6 hb7
  have og7 := own_ext og6 hb7
  have z7 := ext_trans z6 hb7
  go_wp2_with fail
  refine (toSendS_any Axs nxs cxs xs _ hmxs (hrxs.below z7)).mono ?_; rintro e w8 ⟨gt5, rfl, owt5, hb8⟩
  have apt5t1 := apart_before ot17.lt owt5.lt
  have ot18 := own_ext ot17 hb8
  have apt5t2 := apart_before ot27.lt owt5.lt
  have ot28 := own_ext ot27 hb8
  have apt5w := apart_before ow7.lt owt5.lt
  have ow8 := own_ext ow7 hb8
  have apt5xxs := apart_before oxxs7.lt owt5.lt
  have oxxs8 := own_ext oxxs7 hb8
  have apt5xcs := apart_before oxcs7.lt owt5.lt
  have oxcs8 := own_ext oxcs7 hb8
  have apt5g := apart_before og7.lt owt5.lt
  have og8 := own_ext og7 hb8
  have ot58 := own_base owt5 z7.size
  have z8 := ext_trans z7 hb8
  go_wp2_with fail
  refine (eqSendS_same _ _ nxs _ _ xs _ hmxs (Rd.of_own oxxs8) (Rd.of_own ot58)).mono ?_; rintro e w9 ⟨rfl, hb9⟩
  have ot19 := own_ext ot18 hb9
  have ot29 := own_ext ot28 hb9
  have ow9 := own_ext ow8 hb9
  have oxxs9 := own_ext oxxs8 hb9
  have oxcs9 := own_ext oxcs8 hb9
  have og9 := own_ext og8 hb9
  have ot59 := own_ext ot58 hb9
  have z9 := ext_trans z8 hb9
  go_wp2_with fail
  refine (toIntS_any Acs ncs ccs cs _ hmcs (hrcs.below z9)).mono ?_; rintro e w10 ⟨gt6, rfl, owt6, hb10⟩
  have apt6t1 := apart_before ot19.lt owt6.lt
  have ot110 := own_ext ot19 hb10
  have apt6t2 := apart_before ot29.lt owt6.lt
  have ot210 := own_ext ot29 hb10
  have apt6w := apart_before ow9.lt owt6.lt
  have ow10 := own_ext ow9 hb10
  have apt6xxs := apart_before oxxs9.lt owt6.lt
  have oxxs10 := own_ext oxxs9 hb10
  have apt6xcs := apart_before oxcs9.lt owt6.lt
  have oxcs10 := own_ext oxcs9 hb10
  have apt6g := apart_before og9.lt owt6.lt
  have og10 := own_ext og9 hb10
  have ot610 := own_base owt6 z9.size
  have z10 := ext_trans z9 hb10
  go_wp2_with fail
  refine (eqIntS_same _ _ ncs _ _ cs _ hmcs (Rd.of_own oxcs10) (Rd.of_own ot610)).mono ?_; rintro e w11 ⟨rfl, hb11⟩
  have ot111 := own_ext ot110 hb11
  have ot211 := own_ext ot210 hb11
  have ow11 := own_ext ow10 hb11
  have oxxs11 := own_ext oxxs10 hb11
  have oxcs11 := own_ext oxcs10 hb11
  have og11 := own_ext og10 hb11
  have ot611 := own_ext ot610 hb11
  have z11 := ext_trans z10 hb11
  go_wp2_with fail
  refine (markSendS_own _ nxs _ _ _ _ _ hmxs (by omega) (by omega) oxxs11).mono ?_; rintro e w12 ⟨rfl, oxxs12, hg12⟩
  have z12 := below_marked z11 oxxs11 (Nat.le_refl _) hg12
  have ot112 := ot111.kept hg12 apxxst1.1
  have ot212 := ot211.kept hg12 apxxst2.1
  have ow12 := ow11.kept hg12 apxxsw.1
  have oxcs12 := oxcs11.kept hg12 apxcsxxs.2
  have og12 := og11.kept hg12 apgxxs.2
  go_wp2_with fail
  refine (markIntS_own _ ncs _ _ _ _ _ hmcs (by omega) (by omega) oxcs12).mono ?_; rintro e w13 ⟨rfl, oxcs13, hg13⟩
  have z13 := below_marked z12 oxcs12 (Nat.le_refl _) hg13
  have ot113 := ot112.kept hg13 apxcst1.1
  have ot213 := ot212.kept hg13 apxcst2.1
  have ow13 := ow12.kept hg13 apxcsw.1
  have oxxs13 := oxxs12.kept hg13 apxcsxxs.1
  have og13 := og12.kept hg13 apgxcs.2
  go_wp2_with fail
  refine (eqIntS_same _ _ (bytesR xs cs).length _ _ (bytesR xs cs) _ hR (Rd.of_own og13) (Rd.of_own ow13)).mono ?_; rintro e w14 ⟨rfl, hb14⟩
  have ot114 := own_ext ot113 hb14
  have ot214 := own_ext ot213 hb14
  have ow14 := own_ext ow13 hb14
  have oxxs14 := own_ext oxxs13 hb14
  have oxcs14 := own_ext oxcs13 hb14
  have og14 := own_ext og13 hb14
  have z14 := ext_trans z13 hb14
  go_wp2_with fail
  refine (markIntS_own _ (bytesR xs cs).length _ _ _ 1 _ hR (by omega) (by omega) og14).mono ?_; rintro e w15 ⟨rfl, og15, hg15⟩
  have z15 := below_marked z14 og14 (Nat.le_refl _) hg15
  have ot115 := ot114.kept hg15 apgt1.1
  have ot215 := ot214.kept hg15 apgt2.1
  have ow15 := ow14.kept hg15 apgw.1
  have oxxs15 := oxxs14.kept hg15 apgxxs.1
  have oxcs15 := oxcs14.kept hg15 apgxcs.1
  go_wp2_with fail
  refine (heldIntS_any _ (bytesR xs cs).length _ 1 _ hR (by omega) (by omega) (Rd.of_own og15)).mono ?_; rintro e w16 ⟨rfl, rfl⟩
  go_wp2_with fail
  refine (toSendS_any Axs nxs cxs xs _ hmxs (hrxs.below z15)).mono ?_; rintro e w17 ⟨gt7, rfl, owt7, hb17⟩
  have apt7t1 := apart_before ot115.lt owt7.lt
  have ot117 := own_ext ot115 hb17
  have apt7t2 := apart_before ot215.lt owt7.lt
  have ot217 := own_ext ot215 hb17
  have apt7w := apart_before ow15.lt owt7.lt
  have ow17 := own_ext ow15 hb17
  have apt7g := apart_before og15.lt owt7.lt
  have og17 := own_ext og15 hb17
  have ot717 := own_base owt7 z15.size
  have z17 := ext_trans z15 hb17
  go_wp2_with fail
  refine (toIntS_any Acs ncs ccs cs _ hmcs (hrcs.below z17)).mono ?_; rintro e w18 ⟨gt8, rfl, owt8, hb18⟩
  have apt8t1 := apart_before ot117.lt owt8.lt
  have ot118 := own_ext ot117 hb18
  have apt8t2 := apart_before ot217.lt owt8.lt
  have ot218 := own_ext ot217 hb18
  have apt8w := apart_before ow17.lt owt8.lt
  have ow18 := own_ext ow17 hb18
  have apt8g := apart_before og17.lt owt8.lt
  have og18 := own_ext og17 hb18
  have apt8t7 := apart_before ot717.lt owt8.lt
  have ot718 := own_ext ot717 hb18
  have ot818 := own_base owt8 z17.size
  have z18 := ext_trans z17 hb18
  go_wp2_with fail
  refine (implBytesOfColours_any _ nxs _ xs _ ncs _ cs _ hmxs (Rd.of_own ot718) hmcs (Rd.of_own ot818)).mono ?_; rintro e w19 ⟨Ah, Ch, rfl, owh, hb19⟩
  have apht1 := apart_before ot118.lt owh.lt
  have ot119 := own_ext ot118 hb19
  have apht2 := apart_before ot218.lt owh.lt
  have ot219 := own_ext ot218 hb19
  have aphw := apart_before ow18.lt owh.lt
  have ow19 := own_ext ow18 hb19
  have aphg := apart_before og18.lt owh.lt
  have og19 := own_ext og18 hb19
  have apht7 := apart_before ot718.lt owh.lt
  have ot719 := own_ext ot718 hb19
  have apht8 := apart_before ot818.lt owh.lt
  have ot819 := own_ext ot818 hb19
  have oh19 := own_base owh z18.size
  have z19 := ext_trans z18 hb19
  go_wp2_with fail
  refine (eqIntS_same _ _ (bytesR xs cs).length _ _ (bytesR xs cs) _ hR (Rd.of_own oh19) (Rd.of_own ow19)).mono ?_; rintro e w20 ⟨rfl, hb20⟩
  have ot120 := own_ext ot119 hb20
  have ot220 := own_ext ot219 hb20
  have ow20 := own_ext ow19 hb20
  have og20 := own_ext og19 hb20
  have ot720 := own_ext ot719 hb20
  have ot820 := own_ext ot819 hb20
  have oh20 := own_ext oh19 hb20
  have z20 := ext_trans z19 hb20
  go_wp2_with fail
  refine (heldIntS_any _ (bytesR xs cs).length _ 1 _ hR (by omega) (by omega) (Rd.of_own og20)).mono ?_; rintro e w21 ⟨rfl, rfl⟩
  go_wp2_with fail
  go_ret
  exact ⟨rfl, z20⟩

end Go.Proofs.Ytdhojfkdbpghmaa