/- Marks: contracts of BandCounts and SendOrder, the program's and the reference's; the laws' walks. -/
import Derived.Test.YtgdccclpibbbeaaBaA
import Derived.Deep.RegionHeld3
namespace Go.Proofs.Ytgdccclpibbbeaa
open Go.RowKit

def marksOk (ms : List Int) : Bool := ms.all (fun x => inB x 0 65535) && decide (ms.length ≤ 40)
def bandsB (xs ms : List Int) : Bool := bandMapB xs && marksOk ms
def bandAt (xs : List Int) (m : Int) : Int := xs.getD (m.toNat % 16) 0
def bandPairs (xs ms : List Int) : List (Nat × Int) := ms.map fun m => ((bandAt xs m).toNat, 1)
def bandCntR (xs ms : List Int) : List Int := if bandsB xs ms then tally 8 (bandPairs xs ms) else []
theorem bandCntR_len (xs ms : List Int) : (bandCntR xs ms).length ≤ 8 := by unfold bandCntR; split <;> simp [tally_len]
def CntRel (w : World) (t : TypeId) (m n : Nat) (ps : List (Nat × Int)) (i : Value) (wr : World) : Prop :=
  ∃ k : Nat, k ≤ n ∧ i = .int .i64 k ∧ Blk wr w.heap.size t ((tally m (ps.take k)).map (Value.int .i64)) ∧ Below w.heap.size w wr
theorem cntRel_step {w wr : World} {t : TypeId} {m n k : Nat} {ps : List (Nat × Int)} {p : Nat × Int} (hp : ps[k]? = some p) (hk : k < n) (hB : Blk wr w.heap.size t ((tally m (ps.take k)).map (Value.int .i64))) (hb : Below w.heap.size w wr) :
    CntRel w t m n ps (.int .i64 ((k : Int) + 1)) (wr.setCell ⟨w.heap.size, p.1, none⟩ (.int .i64 ((tally m (ps.take k)).getD p.1 0 + p.2))) :=
  ⟨k + 1, by omega, by simp, by rw [take_snoc hp, tally_snoc, map_bump]; exact hB.set_ _ _, hb.setCell (Nat.le_refl _) _⟩
/-- What a band map says of a mark. -/
theorem band_at {w : World} {A : Option Addr} {xs : List Int} (h : bandMapB xs = true) (hr : Rd w 1 A 16 (xs.map (Value.int .i64))) (j : Nat) :
    ∃ (b o z : Nat), A = some ⟨b, o, none⟩ ∧ b < w.heap.size ∧ z < 8 ∧ bandAt xs (j : Int) = (z : Int) ∧ w.cell? ⟨b, o + j % 16, none⟩ = some (.int .i64 (z : Int)) := by
  obtain ⟨b, o, x, hA, hbl, hx, hc⟩ := hr.int (j % 16) (Nat.mod_lt _ (by omega))
  obtain ⟨x0, x1⟩ := inB_iff.1 (all_get (bandMapB_iff.1 h).1 hx)
  obtain ⟨z, rfl⟩ := Int.eq_ofNat_of_zero_le x0
  exact ⟨b, o, z, hA, hbl, by omega, by simp [bandAt, List.getD_eq_getElem?_getD, hx], hc⟩

set_option maxHeartbeats 400000 in
theorem areMarks_any (A : Option Addr) (n c : Nat) (xs : List Int) (w : World) (hn : n ≤ 1048576) (hr : Rd w 1 A n (xs.map (Value.int .i64))) :
    Calls Try.prog 42 #[.slice A n c] w fun e w' => e = .returned (.bool (marksOk xs)) ∧ w = w' := by
  have hl := hr.len1
  have HL := Lib.hid hl
  clear hl
  go_enter Try.func42, Try.ntmps42
  go_wp2_with fail
  go_loop [7] (AllRel n xs 0 65535) (fun i => n - (intOf i).toNat)
  case atStart => exact ⟨0, Nat.zero_le _, rfl, by simp⟩
  case round =>
    obtain ⟨k, hk, rfl, ha⟩ := hrel
    by_cases hlt : k < n
    · obtain ⟨b, o, x, rfl, hbl, hx, hc⟩ := hr.int k hlt
      have HX := Lib.hid hx
      have HA := Lib.hid ha
      clear hx ha
      cases hin : inB x 0 65535 with
      | false =>
        go_wp2_with (go_at_call 40; refine (isMark_any _ _).mono ?_; rintro e w' ⟨rfl, rfl⟩)
        go_ret
        exact ⟨by rw [marksOk, all_false HX.out hin]; rfl, rfl⟩
      | true =>
        go_wp2_with (go_at_call 40; refine (isMark_any _ _).mono ?_; rintro e w' ⟨rfl, rfl⟩)
        go_round
        case rel => exact ⟨k + 1, by omega, by go_num, by rw [take_snoc HX.out, List.all_append, HA.out]; simp [hin]⟩
        case measure => simp [intOf]; omega
    · have HA := Lib.hid ha
      clear ha
      go_wp2_with fail
      go_ret
      have h2 := HA.out
      rw [List.take_of_length_le (by rw [HL.out]; omega)] at h2
      exact ⟨ret_bool (by rw [Bool.eq_iff_iff]; simp [marksOk, h2, HL.out]; omega), rfl⟩

set_option maxHeartbeats 400000 in
theorem bdMarks_any (A : Option Addr) (n c : Nat) (xs : List Int) (B : Option Addr) (m d : Nat) (ms : List Int) (w : World) (hn : n ≤ 1048576) (hr : Rd w 1 A n (xs.map (Value.int .i64))) (hm : m ≤ 1048576) (hs : Rd w 1 B m (ms.map (Value.int .i64))) :
    Calls Try.prog 41 #[.slice A n c, .slice B m d] w fun e w' => e = .returned (.bool (bandsB xs ms)) ∧ w = w' := by
  have hl := hs.len1
  have HL := Lib.hid hl
  clear hl
  cases h1 : bandMapB xs with
  | false =>
    go_enter Try.func41, Try.ntmps41
    go_wp2_with (go_at_call 38; refine (bdMap_any _ _ _ xs _ hn hr).mono ?_; rintro e w' ⟨rfl, rfl⟩)
    go_ret
    exact ⟨ret_bool (by simp [bandsB, h1]), rfl⟩
  | true =>
    by_cases h40 : m ≤ 40
    · go_enter Try.func41, Try.ntmps41
      go_wp2_with (first | (go_at_call 38; refine (bdMap_any _ _ _ xs _ hn hr).mono ?_; rintro e w' ⟨rfl, rfl⟩) | (go_at_call 55; refine (l1All_any _ _ _ ms _ _ _ hm hs).mono ?_; rintro e w' ⟨rfl, rfl⟩))
      all_goals first
        | exact (show False by omega).elim
        | (go_ret; exact ⟨ret_bool (by simp [bandsB, marksOk, h1, HL.out, h40]), rfl⟩)
    · have h41 : 40 < m := by omega
      go_enter Try.func41, Try.ntmps41
      go_wp2_with (first | (go_at_call 38; refine (bdMap_any _ _ _ xs _ hn hr).mono ?_; rintro e w' ⟨rfl, rfl⟩) | (go_at_call 55; refine (l1All_any _ _ _ ms _ _ _ hm hs).mono ?_; rintro e w' ⟨rfl, rfl⟩))
      all_goals first
        | exact (show False by omega).elim
        | (go_ret; exact ⟨ret_bool (by simp [bandsB, marksOk, HL.out, h40]), rfl⟩)

set_option maxHeartbeats 2000000 in
theorem specBandCounts_any (A : Option Addr) (n c : Nat) (xs : List Int) (B : Option Addr) (m d : Nat) (ms : List Int) (w : World) (hn : n ≤ 1048576) (hr : Rd w 1 A n (xs.map (Value.int .i64))) (hm : m ≤ 1048576) (hs : Rd w 1 B m (ms.map (Value.int .i64))) :
    Calls Try.prog 22 #[.slice A n c, .slice B m d] w (RetInts 3 w (bandCntR xs ms) (bandsB xs ms)) := by
  have hmk : ∀ W, (Instr.makeSlice 22 (.int .i64 8) (.int .i64 8)).run Try.prog W = .ok (.slice (some ⟨W.heap.size, 0, none⟩) 8 8) (W.alloc (.cells (List.toArray [.int .i64 0, .int .i64 0, .int .i64 0, .int .i64 0, .int .i64 0, .int .i64 0, .int .i64 0, .int .i64 0]) 3)) := fun _ => by kernel_rfl
  cases h : bandsB xs ms with
  | false =>
    have hR : bandCntR xs ms = [] := by simp [bandCntR, h]
    rw [hR]
    clear hR
    go_enter Try.func22, Try.ntmps22
    go_wp2_with (go_at_call 41; refine (bdMarks_any _ _ _ xs _ _ _ ms _ hn hr hm hs).mono ?_; rintro e w' ⟨rfl, rfl⟩)
    go_ret2
    exact retInts_nil (ext_refl w)
  | true =>
    have hR : bandCntR xs ms = tally 8 (bandPairs xs ms) := by simp [bandCntR, h]
    rw [hR]
    clear hR
    have hq := h
    simp only [bandsB, Bool.and_eq_true] at hq
    have h1 := hq.1
    have h2 := hq.2
    have h40 : m ≤ 40 := by have h3 := h2; simp only [marksOk, Bool.and_eq_true, decide_eq_true_eq] at h3; have := hs.len1; omega
    have hal : (ms.all fun x => inB x 0 65535) = true := by have h3 := h2; simp only [marksOk, Bool.and_eq_true] at h3; exact h3.1
    have hn16 : n = 16 := by rw [← hr.len1]; exact (bandMapB_iff.1 h1).2
    subst hn16
    have HALL := Lib.hid hal
    have HL := Lib.hid hs.len1
    clear hal hq
    go_enter Try.func22, Try.ntmps22
    go_wp2_with (go_at_call 41; refine (bdMarks_any _ _ _ xs _ _ _ ms _ hn hr hm hs).mono ?_; rintro e w' ⟨rfl, rfl⟩)
    clear hmk
    go_loopw [16] (CntRel w 3 8 m (bandPairs xs ms)) (fun i _ => m - (intOf i).toNat)
    case atStart => exact ⟨0, Nat.zero_le _, rfl, Blk.new w _ _, ext_alloc (ext_refl w) _⟩
    case round =>
      obtain ⟨k, hk, rfl, hB, hb⟩ := hrel
      by_cases hlt : k < m
      · obtain ⟨b, o, x, rfl, hbl, hx, hc⟩ := hs.int k hlt
        obtain ⟨x0, x1⟩ := inB_iff.1 (all_get HALL.out hx)
        obtain ⟨j, rfl⟩ := Int.eq_ofNat_of_zero_le x0
        obtain ⟨b2, o2, z, rfl, hbl2, hz, hba, hcz⟩ := band_at h1 hr j
        have hp : (bandPairs xs ms)[k]? = some (z, 1) := by simp [bandPairs, hx, hba]
        have hc' := (hb.cell (p := ⟨b, o + k, none⟩) hbl).trans hc
        have hcz' := (hb.cell (p := ⟨b2, o2 + j % 16, none⟩) hbl2).trans hcz
        have q := cell_tally hB (j := z) (by rw [tally_len]; exact hz)
        have f0 := hB.frozen z
        have hbd := tally_bd 8 1 (by omega) ((bandPairs xs ms).take k) (fun p hp => by
          have := List.mem_of_mem_take hp
          simp only [bandPairs, List.mem_map] at this
          obtain ⟨y, _, rfl⟩ := this
          simp) z
        have hlen : ((bandPairs xs ms).take k).length ≤ k := List.length_take_le _ _
        have hst := cntRel_step (m := 8) hp hlt hB hb
        generalize (tally 8 ((bandPairs xs ms).take k)).getD z 0 = v at q hbd hst
        have hv0 : 0 ≤ v := hbd.1
        have hv1 : v ≤ 1048576 := by have := hbd.2; simp at this; omega
        have HST := Lib.hid hst
        clear hx hp hc hcz hba hbd hlen hst
        go_wp2_with fail
        go_roundw
        case rel => exact HST.out
        case measure => simp [intOf]; omega
      · go_wp2_with fail
        go_ret2
        have hk2 : k = m := by omega
        subst hk2
        rw [List.take_of_length_le (by simp [bandPairs, HL.out])] at hB
        exact retInts_own (by rw [tally_len]) (own_of_blk hB (by simp [tally_len]) (by omega) (Nat.le_refl _)) hb

set_option maxHeartbeats 2000000 in
theorem implBandCounts_any (A : Option Addr) (n c : Nat) (xs : List Int) (B : Option Addr) (m d : Nat) (ms : List Int) (w : World) (hn : n ≤ 1048576) (hr : Rd w 1 A n (xs.map (Value.int .i64))) (hm : m ≤ 1048576) (hs : Rd w 1 B m (ms.map (Value.int .i64))) :
    Calls Try.prog 23 #[.slice A n c, .slice B m d] w (RetInts 3 w (bandCntR xs ms) (bandsB xs ms)) := by
  have hmk : ∀ W, (Instr.makeSlice 22 (.int .i64 8) (.int .i64 8)).run Try.prog W = .ok (.slice (some ⟨W.heap.size, 0, none⟩) 8 8) (W.alloc (.cells (List.toArray [.int .i64 0, .int .i64 0, .int .i64 0, .int .i64 0, .int .i64 0, .int .i64 0, .int .i64 0, .int .i64 0]) 3)) := fun _ => by kernel_rfl
  cases h : bandsB xs ms with
  | false =>
    have hR : bandCntR xs ms = [] := by simp [bandCntR, h]
    rw [hR]
    clear hR
    cases h1 : bandMapB xs with
    | false =>
      go_enter Try.func23, Try.ntmps23
      go_wp2_with (first | (go_at_call 14; refine (implIsBandMap_any _ _ _ xs _ hn hr).mono ?_; rintro e w' ⟨rfl, rfl⟩) | (go_at_call 42; refine (areMarks_any _ _ _ ms _ hm hs).mono ?_; rintro e w' ⟨rfl, rfl⟩))
      go_ret2
      exact retInts_nil (ext_refl w)
    | true =>
      have h2 : marksOk ms = false := by simpa [bandsB, h1] using h
      go_enter Try.func23, Try.ntmps23
      go_wp2_with (first | (go_at_call 14; refine (implIsBandMap_any _ _ _ xs _ hn hr).mono ?_; rintro e w' ⟨rfl, rfl⟩) | (go_at_call 42; refine (areMarks_any _ _ _ ms _ hm hs).mono ?_; rintro e w' ⟨rfl, rfl⟩))
      go_ret2
      exact retInts_nil (ext_refl w)
  | true =>
    have hR : bandCntR xs ms = tally 8 (bandPairs xs ms) := by simp [bandCntR, h]
    rw [hR]
    clear hR
    have hq := h
    simp only [bandsB, Bool.and_eq_true] at hq
    have h1 := hq.1
    have h2 := hq.2
    have h40 : m ≤ 40 := by have h3 := h2; simp only [marksOk, Bool.and_eq_true, decide_eq_true_eq] at h3; have := hs.len1; omega
    have hal : (ms.all fun x => inB x 0 65535) = true := by have h3 := h2; simp only [marksOk, Bool.and_eq_true] at h3; exact h3.1
    have hn16 : n = 16 := by rw [← hr.len1]; exact (bandMapB_iff.1 h1).2
    subst hn16
    have HALL := Lib.hid hal
    have HL := Lib.hid hs.len1
    clear hal hq
    go_enter Try.func23, Try.ntmps23
    go_wp2_with (first | (go_at_call 14; refine (implIsBandMap_any _ _ _ xs _ hn hr).mono ?_; rintro e w' ⟨rfl, rfl⟩) | (go_at_call 42; refine (areMarks_any _ _ _ ms _ hm hs).mono ?_; rintro e w' ⟨rfl, rfl⟩))
    clear hmk
    go_loopw [20] (CntRel w 3 8 m (bandPairs xs ms)) (fun i _ => m - (intOf i).toNat)
    case atStart => exact ⟨0, Nat.zero_le _, rfl, Blk.new w _ _, ext_alloc (ext_refl w) _⟩
    case round =>
      obtain ⟨k, hk, rfl, hB, hb⟩ := hrel
      by_cases hlt : k < m
      · obtain ⟨b, o, x, rfl, hbl, hx, hc⟩ := hs.int k hlt
        obtain ⟨x0, x1⟩ := inB_iff.1 (all_get HALL.out hx)
        obtain ⟨j, rfl⟩ := Int.eq_ofNat_of_zero_le x0
        obtain ⟨b2, o2, z, rfl, hbl2, hz, hba, hcz⟩ := band_at h1 hr j
        have hp : (bandPairs xs ms)[k]? = some (z, 1) := by simp [bandPairs, hx, hba]
        have hc' := (hb.cell (p := ⟨b, o + k, none⟩) hbl).trans hc
        have hcz' := (hb.cell (p := ⟨b2, o2 + j % 16, none⟩) hbl2).trans hcz
        have q := cell_tally hB (j := z) (by rw [tally_len]; exact hz)
        have f0 := hB.frozen z
        have hbd := tally_bd 8 1 (by omega) ((bandPairs xs ms).take k) (fun p hp => by
          have := List.mem_of_mem_take hp
          simp only [bandPairs, List.mem_map] at this
          obtain ⟨y, _, rfl⟩ := this
          simp) z
        have hlen : ((bandPairs xs ms).take k).length ≤ k := List.length_take_le _ _
        have hst := cntRel_step (m := 8) hp hlt hB hb
        generalize (tally 8 ((bandPairs xs ms).take k)).getD z 0 = v at q hbd hst
        have hv0 : 0 ≤ v := hbd.1
        have hv1 : v ≤ 1048576 := by have := hbd.2; simp at this; omega
        have HST := Lib.hid hst
        clear hx hp hc hcz hba hbd hlen hst
        go_wp2_with fail
        go_roundw
        case rel => exact HST.out
        case measure => simp [intOf]; omega
      · go_wp2_with fail
        go_ret2
        have hk2 : k = m := by omega
        subst hk2
        rw [List.take_of_length_le (by simp [bandPairs, HL.out])] at hB
        exact retInts_own (by rw [tally_len]) (own_of_blk hB (by simp [tally_len]) (by omega) (Nat.le_refl _)) hb

set_option maxHeartbeats 4000000 in
theorem walkBandCounts (Axs : Option Addr) (nxs cxs : Nat) (xs : List Int) (hnxs : nxs ≤ 9223372036854775807) (Ams : Option Addr) (nms cms : Nat) (ms : List Int) (hnms : nms ≤ 9223372036854775807) (w : World) (hrxs : Rd w 1 Axs nxs (xs.flatMap encInt)) (hrms : Rd w 1 Ams nms (ms.flatMap encInt)) :
    Calls Try.prog 6 #[.slice Axs nxs cxs, .slice Ams nms cms] w fun e w' => e = .returned (.bool true) ∧ Below w.heap.size w w' := by
  rw [map_flat] at hrxs
  rw [map_flat] at hrms
  by_cases hbigxs : 1048576 < nxs
  · go_enter Try.func6, Try.ntmps6
    go_wp2_with (first | fail)
    go_ret
    exact ⟨rfl, ext_refl w⟩
  have hmxs : nxs ≤ 1048576 := by omega
  by_cases hbigms : 1048576 < nms
  · go_enter Try.func6, Try.ntmps6
    go_wp2_with (first | fail)
    go_ret
    exact ⟨rfl, ext_refl w⟩
  have hmms : nms ≤ 1048576 := by omega
  have hR : (bandCntR xs ms).length ≤ 1048576 := by have := bandCntR_len xs ms; omega
  have z0 : Below w.heap.size w w := ext_refl w
  go_enter Try.func6, Try.ntmps6
  go_wp2_with fail
  refine (toIntS_any Axs nxs cxs xs _ hmxs (hrxs.below z0)).mono ?_; rintro e w1 ⟨gt1, rfl, owt1, hb1⟩
  have ot11 := own_base owt1 z0.size
  have z1 := ext_trans z0 hb1
  go_wp2_with fail
  refine (toIntS_any Ams nms cms ms _ hmms (hrms.below z1)).mono ?_; rintro e w2 ⟨gt2, rfl, owt2, hb2⟩
  have apt2t1 := apart_before ot11.lt owt2.lt
  have ot12 := own_ext ot11 hb2
  have ot22 := own_base owt2 z1.size
  have z2 := ext_trans z1 hb2
  go_wp2_with fail
  refine (specBandCounts_any _ nxs _ xs _ nms _ ms _ hmxs (Rd.of_own ot12) hmms (Rd.of_own ot22)).mono ?_; rintro e w3 ⟨Aw, Cw, rfl, oww, hb3⟩
  have apwt1 := apart_before ot12.lt oww.lt
  have ot13 := own_ext ot12 hb3
  have apwt2 := apart_before ot22.lt oww.lt
  have ot23 := own_ext ot22 hb3
  have ow3 := own_base oww z2.size
  have z3 := ext_trans z2 hb3
  go_wp2_with fail
  refine (toIntS_any Axs nxs cxs xs _ hmxs (hrxs.below z3)).mono ?_; rintro e w4 ⟨gxxs, rfl, owxxs, hb4⟩
  have apxxst1 := apart_before ot13.lt owxxs.lt
  have ot14 := own_ext ot13 hb4
  have apxxst2 := apart_before ot23.lt owxxs.lt
  have ot24 := own_ext ot23 hb4
  have apxxsw := apart_before ow3.lt owxxs.lt
  have ow4 := own_ext ow3 hb4
  have oxxs4 := own_base owxxs z3.size
  have z4 := ext_trans z3 hb4
  go_wp2_with fail
  refine (toIntS_any Ams nms cms ms _ hmms (hrms.below z4)).mono ?_; rintro e w5 ⟨gxms, rfl, owxms, hb5⟩
  have apxmst1 := apart_before ot14.lt owxms.lt
  have ot15 := own_ext ot14 hb5
  have apxmst2 := apart_before ot24.lt owxms.lt
  have ot25 := own_ext ot24 hb5
  have apxmsw := apart_before ow4.lt owxms.lt
  have ow5 := own_ext ow4 hb5
  have apxmsxxs := apart_before oxxs4.lt owxms.lt
  have oxxs5 := own_ext oxxs4 hb5
  have oxms5 := own_base owxms z4.size
  have z5 := ext_trans z4 hb5
  go_wp2_with fail
  refine (implBandCounts_any _ nxs _ xs _ nms _ ms _ hmxs (Rd.of_own oxxs5) hmms (Rd.of_own oxms5)).mono ?_; rintro e w6 ⟨Ag, Cg, rfl, owg, hb6⟩
  have apgt1 := apart_before ot15.lt owg.lt
  have ot16 := own_ext ot15 hb6
  have apgt2 := apart_before ot25.lt owg.lt
  have ot26 := own_ext ot25 hb6
  have apgw := apart_before ow5.lt owg.lt
  have ow6 := own_ext ow5 hb6
  have apgxxs := apart_before oxxs5.lt owg.lt
  have oxxs6 := own_ext oxxs5 hb6
  have apgxms := apart_before oxms5.lt owg.lt
  have oxms6 := own_ext oxms5 hb6
  have og6 := own_base owg z5.size
  have z6 := ext_trans z5 hb6
  go_wp2_with fail
  refine (eqIntS_same _ _ (bandCntR xs ms).length _ _ (bandCntR xs ms) _ hR (Rd.of_own og6) (Rd.of_own ow6)).mono ?_; rintro e w7 ⟨rfl, hb7⟩
  have ot17 := own_ext ot16 hb7
  have ot27 := own_ext ot26 hb7
  have ow7 := own_ext ow6 hb7
  have oxxs7 := own_ext oxxs6 hb7
  have oxms7 := own_ext oxms6 hb7
  have og7 := own_ext og6 hb7
  have z7 := ext_trans z6 hb7
  go_wp2_with fail
  refine (toIntS_any Axs nxs cxs xs _ hmxs (hrxs.below z7)).mono ?_; rintro e w8 ⟨gt5, rfl, owt5, hb8⟩
  have apt5t1 := apart_before ot17.lt owt5.lt
  have ot18 := own_ext ot17 hb8
  have apt5t2 := apart_before ot27.lt owt5.lt
  have ot28 := own_ext ot27 hb8
  have apt5w := apart_before ow7.lt owt5.lt
  have ow8 := own_ext ow7 hb8
  have apt5xxs := apart_before oxxs7.lt owt5.lt
  have oxxs8 := own_ext oxxs7 hb8
  have apt5xms := apart_before oxms7.lt owt5.lt
  have oxms8 := own_ext oxms7 hb8
  have apt5g := apart_before og7.lt owt5.lt
  have og8 := own_ext og7 hb8
  have ot58 := own_base owt5 z7.size
  have z8 := ext_trans z7 hb8
  go_wp2_with fail
  refine (eqIntS_same _ _ nxs _ _ xs _ hmxs (Rd.of_own oxxs8) (Rd.of_own ot58)).mono ?_; rintro e w9 ⟨rfl, hb9⟩
  have ot19 := own_ext ot18 hb9
  have ot29 := own_ext ot28 hb9
  have ow9 := own_ext ow8 hb9
  have oxxs9 := own_ext oxxs8 hb9
  have oxms9 := own_ext oxms8 hb9
  have og9 := own_ext og8 hb9
  have ot59 := own_ext ot58 hb9
  have z9 := ext_trans z8 hb9
  go_wp2_with fail
  refine (toIntS_any Ams nms cms ms _ hmms (hrms.below z9)).mono ?_; rintro e w10 ⟨gt6, rfl, owt6, hb10⟩
  have apt6t1 := apart_before ot19.lt owt6.lt
  have ot110 := own_ext ot19 hb10
  have apt6t2 := apart_before ot29.lt owt6.lt
  have ot210 := own_ext ot29 hb10
  have apt6w := apart_before ow9.lt owt6.lt
  have ow10 := own_ext ow9 hb10
  have apt6xxs := apart_before oxxs9.lt owt6.lt
  have oxxs10 := own_ext oxxs9 hb10
  have apt6xms := apart_before oxms9.lt owt6.lt
  have oxms10 := own_ext oxms9 hb10
  have apt6g := apart_before og9.lt owt6.lt
  have og10 := own_ext og9 hb10
  have ot610 := own_base owt6 z9.size
  have z10 := ext_trans z9 hb10
  go_wp2_with fail
  refine (eqIntS_same _ _ nms _ _ ms _ hmms (Rd.of_own oxms10) (Rd.of_own ot610)).mono ?_; rintro e w11 ⟨rfl, hb11⟩
  have ot111 := own_ext ot110 hb11
  have ot211 := own_ext ot210 hb11
  have ow11 := own_ext ow10 hb11
  have oxxs11 := own_ext oxxs10 hb11
  have oxms11 := own_ext oxms10 hb11
  have og11 := own_ext og10 hb11
  have ot611 := own_ext ot610 hb11
  have z11 := ext_trans z10 hb11
  go_wp2_with fail
  refine (markIntS_own _ nxs _ _ _ _ _ hmxs (by omega) (by omega) oxxs11).mono ?_; rintro e w12 ⟨rfl, oxxs12, hg12⟩
  have z12 := below_marked z11 oxxs11 (Nat.le_refl _) hg12
  have ot112 := ot111.kept hg12 apxxst1.1
  have ot212 := ot211.kept hg12 apxxst2.1
  have ow12 := ow11.kept hg12 apxxsw.1
  have oxms12 := oxms11.kept hg12 apxmsxxs.2
  have og12 := og11.kept hg12 apgxxs.2
  go_wp2_with fail
  refine (markIntS_own _ nms _ _ _ _ _ hmms (by omega) (by omega) oxms12).mono ?_; rintro e w13 ⟨rfl, oxms13, hg13⟩
  have z13 := below_marked z12 oxms12 (Nat.le_refl _) hg13
  have ot113 := ot112.kept hg13 apxmst1.1
  have ot213 := ot212.kept hg13 apxmst2.1
  have ow13 := ow12.kept hg13 apxmsw.1
  have oxxs13 := oxxs12.kept hg13 apxmsxxs.1
  have og13 := og12.kept hg13 apgxms.2
  go_wp2_with fail
  refine (eqIntS_same _ _ (bandCntR xs ms).length _ _ (bandCntR xs ms) _ hR (Rd.of_own og13) (Rd.of_own ow13)).mono ?_; rintro e w14 ⟨rfl, hb14⟩
  have ot114 := own_ext ot113 hb14
  have ot214 := own_ext ot213 hb14
  have ow14 := own_ext ow13 hb14
  have oxxs14 := own_ext oxxs13 hb14
  have oxms14 := own_ext oxms13 hb14
  have og14 := own_ext og13 hb14
  have z14 := ext_trans z13 hb14
  go_wp2_with fail
  refine (markIntS_own _ (bandCntR xs ms).length _ _ _ 1 _ hR (by omega) (by omega) og14).mono ?_; rintro e w15 ⟨rfl, og15, hg15⟩
  have z15 := below_marked z14 og14 (Nat.le_refl _) hg15
  have ot115 := ot114.kept hg15 apgt1.1
  have ot215 := ot214.kept hg15 apgt2.1
  have ow15 := ow14.kept hg15 apgw.1
  have oxxs15 := oxxs14.kept hg15 apgxxs.1
  have oxms15 := oxms14.kept hg15 apgxms.1
  go_wp2_with fail
  refine (heldIntS_any _ (bandCntR xs ms).length _ 1 _ hR (by omega) (by omega) (Rd.of_own og15)).mono ?_; rintro e w16 ⟨rfl, rfl⟩
  go_wp2_with fail
  refine (toIntS_any Axs nxs cxs xs _ hmxs (hrxs.below z15)).mono ?_; rintro e w17 ⟨gt7, rfl, owt7, hb17⟩
  have apt7t1 := apart_before ot115.lt owt7.lt
  have ot117 := own_ext ot115 hb17
  have apt7t2 := apart_before ot215.lt owt7.lt
  have ot217 := own_ext ot215 hb17
  have apt7w := apart_before ow15.lt owt7.lt
  have ow17 := own_ext ow15 hb17
  have apt7g := apart_before og15.lt owt7.lt
  have og17 := own_ext og15 hb17
  have ot717 := own_base owt7 z15.size
  have z17 := ext_trans z15 hb17
  go_wp2_with fail
  refine (toIntS_any Ams nms cms ms _ hmms (hrms.below z17)).mono ?_; rintro e w18 ⟨gt8, rfl, owt8, hb18⟩
  have apt8t1 := apart_before ot117.lt owt8.lt
  have ot118 := own_ext ot117 hb18
  have apt8t2 := apart_before ot217.lt owt8.lt
  have ot218 := own_ext ot217 hb18
  have apt8w := apart_before ow17.lt owt8.lt
  have ow18 := own_ext ow17 hb18
  have apt8g := apart_before og17.lt owt8.lt
  have og18 := own_ext og17 hb18
  have apt8t7 := apart_before ot717.lt owt8.lt
  have ot718 := own_ext ot717 hb18
  have ot818 := own_base owt8 z17.size
  have z18 := ext_trans z17 hb18
  go_wp2_with fail
  refine (implBandCounts_any _ nxs _ xs _ nms _ ms _ hmxs (Rd.of_own ot718) hmms (Rd.of_own ot818)).mono ?_; rintro e w19 ⟨Ah, Ch, rfl, owh, hb19⟩
  have apht1 := apart_before ot118.lt owh.lt
  have ot119 := own_ext ot118 hb19
  have apht2 := apart_before ot218.lt owh.lt
  have ot219 := own_ext ot218 hb19
  have aphw := apart_before ow18.lt owh.lt
  have ow19 := own_ext ow18 hb19
  have aphg := apart_before og18.lt owh.lt
  have og19 := own_ext og18 hb19
  have apht7 := apart_before ot718.lt owh.lt
  have ot719 := own_ext ot718 hb19
  have apht8 := apart_before ot818.lt owh.lt
  have ot819 := own_ext ot818 hb19
  have oh19 := own_base owh z18.size
  have z19 := ext_trans z18 hb19
  go_wp2_with fail
  refine (eqIntS_same _ _ (bandCntR xs ms).length _ _ (bandCntR xs ms) _ hR (Rd.of_own oh19) (Rd.of_own ow19)).mono ?_; rintro e w20 ⟨rfl, hb20⟩
  have ot120 := own_ext ot119 hb20
  have ot220 := own_ext ot219 hb20
  have ow20 := own_ext ow19 hb20
  have og20 := own_ext og19 hb20
  have ot720 := own_ext ot719 hb20
  have ot820 := own_ext ot819 hb20
  have oh20 := own_ext oh19 hb20
  have z20 := ext_trans z19 hb20
  go_wp2_with fail
  refine (heldIntS_any _ (bandCntR xs ms).length _ 1 _ hR (by omega) (by omega) (Rd.of_own og20)).mono ?_; rintro e w21 ⟨rfl, rfl⟩
  go_wp2_with fail
  go_ret
  exact ⟨rfl, z20⟩

end Go.Proofs.Ytgdccclpibbbeaa