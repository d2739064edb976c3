/- CountColours: contracts of the program's and the reference's, and the law's walk. -/
import Derived.Test.YtdhojfkdbpghmaaPoD
import Derived.Deep.RegionHeld3
namespace Go.Proofs.Ytdhojfkdbpghmaa
open Go.RowKit

def coloursB (xs : List Int) : Bool := xs.all (fun x => inB x 0 2) && decide (xs.length ≤ 60)
def colourPairs (xs : List Int) : List (Nat × Int) := xs.map fun x => (x.toNat, 1)
def countR (xs : List Int) : List Int := if coloursB xs then tally 3 (colourPairs xs) else []
theorem countR_len (xs : List Int) : (countR xs).length ≤ 3 := by unfold countR; split <;> simp [tally_len]
theorem all_get {α : Type} {xs : List α} {f : α → Bool} (h : xs.all f = true) {k : Nat} {x : α} (hx : xs[k]? = some x) : f x = true := List.all_eq_true.1 h x (List.mem_of_getElem? hx)
def CntRel (w : World) (t : TypeId) (m n : Nat) (ps : List (Nat × Int)) (i : Value) (wr : World) : Prop :=
  ∃ k : Nat, k ≤ n ∧ i = .int .i64 k ∧ Blk wr w.heap.size t ((tally m (ps.take k)).map (Value.int .i64)) ∧ Below w.heap.size w wr
theorem cntRel_step {w wr : World} {t : TypeId} {m n k : Nat} {ps : List (Nat × Int)} {p : Nat × Int} (hp : ps[k]? = some p) (hk : k < n) (hB : Blk wr w.heap.size t ((tally m (ps.take k)).map (Value.int .i64))) (hb : Below w.heap.size w wr) :
    CntRel w t m n ps (.int .i64 ((k : Int) + 1)) (wr.setCell ⟨w.heap.size, p.1, none⟩ (.int .i64 ((tally m (ps.take k)).getD p.1 0 + p.2))) :=
  ⟨k + 1, by omega, by simp, by rw [take_snoc hp, tally_snoc, map_bump]; exact hB.set_ _ _, hb.setCell (Nat.le_refl _) _⟩

set_option maxHeartbeats 400000 in
theorem areColours_any (A : Option Addr) (n c : Nat) (xs : List Int) (w : World) (hn : n ≤ 1048576) (hr : Rd w 1 A n (xs.map (Value.int .i64))) :
    Calls Try.prog 56 #[.slice A n c] w fun e w' => e = .returned (.bool (coloursB xs)) ∧ w = w' := by
  have hl := hr.len1
  have HL := Lib.hid hl
  clear hl
  go_enter Try.func56, Try.ntmps56
  go_wp2_with fail
  go_loop [7] (AllRel n xs 0 2) (fun i => n - (intOf i).toNat)
  case atStart => exact ⟨0, Nat.zero_le _, rfl, by simp⟩
  case round =>
    obtain ⟨k, hk, rfl, ha⟩ := hrel
    by_cases hlt : k < n
    · obtain ⟨b, o, x, rfl, hbl, hx, hc⟩ := hr.int k hlt
      have HX := Lib.hid hx
      have HA := Lib.hid ha
      clear hx ha
      cases hin : inB x 0 2 with
      | false =>
        go_wp2_with (go_at_call 53; refine (isColour_any _ _).mono ?_; rintro e w' ⟨rfl, rfl⟩)
        go_ret
        exact ⟨by rw [coloursB, all_false HX.out hin]; rfl, rfl⟩
      | true =>
        go_wp2_with (go_at_call 53; refine (isColour_any _ _).mono ?_; rintro e w' ⟨rfl, rfl⟩)
        go_round
        case rel => exact ⟨k + 1, by omega, by go_num, by rw [take_snoc HX.out, List.all_append, HA.out]; simp [hin]⟩
        case measure => simp [intOf]; omega
    · have HA := Lib.hid ha
      clear ha
      go_wp2_with fail
      go_ret
      have h2 := HA.out
      rw [List.take_of_length_le (by rw [HL.out]; omega)] at h2
      exact ⟨ret_bool (by rw [Bool.eq_iff_iff]; simp [coloursB, h2, HL.out]; omega), rfl⟩

set_option maxHeartbeats 1000000 in
theorem specCountColours_any (A : Option Addr) (n c : Nat) (xs : List Int) (w : World) (hn : n ≤ 1048576) (hr : Rd w 1 A n (xs.map (Value.int .i64))) :
    Calls Try.prog 27 #[.slice A n c] w (RetInts 3 w (countR xs) (coloursB xs)) := by
  have hl := hr.len1
  have hmk : ∀ W, (Instr.makeSlice 41 (.int .i64 3) (.int .i64 3)).run Try.prog W = .ok (.slice (some ⟨W.heap.size, 0, none⟩) 3 3) (W.alloc (.cells #[.int .i64 0, .int .i64 0, .int .i64 0] 3)) := fun _ => by kernel_rfl
  cases h : coloursB xs with
  | false =>
    have hR : countR xs = [] := by simp [countR, h]
    rw [hR]
    clear hR
    by_cases h60 : n ≤ 60
    · have hal : (xs.all fun x => inB x 0 2) = false := by simpa [coloursB, hl, h60] using h
      go_enter Try.func27, Try.ntmps27
      go_wp2_with (go_at_call 55; refine (l1All_any _ _ _ xs _ _ _ hn hr).mono ?_; rintro e w' ⟨rfl, rfl⟩)
      go_ret2
      exact retInts_nil (ext_refl w)
    · have h61 : 60 < n := by omega
      go_enter Try.func27, Try.ntmps27
      go_wp2_with (go_at_call 55; refine (l1All_any _ _ _ xs _ _ _ hn hr).mono ?_; rintro e w' ⟨rfl, rfl⟩)
      go_ret2
      exact retInts_nil (ext_refl w)
  | true =>
    have hR : countR xs = tally 3 (colourPairs xs) := by simp [countR, h]
    rw [hR]
    have hal : (xs.all fun x => inB x 0 2) = true := by simp only [coloursB, Bool.and_eq_true] at h; exact h.1
    have h60 : n ≤ 60 := by simp only [coloursB, Bool.and_eq_true, decide_eq_true_eq] at h; omega
    have HALL := Lib.hid hal
    have HL := Lib.hid hl
    clear hl hR 
    go_enter Try.func27, Try.ntmps27
    go_wp2_with (go_at_call 55; refine (l1All_any _ _ _ xs _ _ _ hn hr).mono ?_; rintro e w' ⟨rfl, rfl⟩)
    clear hmk
    go_loopw [18] (CntRel w 3 3 n (colourPairs xs)) (fun i _ => n - (intOf i).toNat)
    case atStart => exact ⟨0, Nat.zero_le _, rfl, Blk.new w _ _, ext_alloc (ext_refl w) _⟩
    case round =>
      obtain ⟨k, hk, rfl, hB, hb⟩ := hrel
      by_cases hlt : k < n
      · obtain ⟨b, o, x, rfl, hbl, hx, hc⟩ := hr.int k hlt
        have hp : (colourPairs xs)[k]? = some (x.toNat, 1) := by simp [colourPairs, hx]
        obtain ⟨x0, x1⟩ := inB_iff.1 (all_get HALL.out hx)
        obtain ⟨j, rfl⟩ := Int.eq_ofNat_of_zero_le x0
        rw [Int.toNat_natCast] at hp
        have hj : j < 3 := by omega
        have hc' := (hb.cell (p := ⟨b, o + k, none⟩) hbl).trans hc
        have q := cell_tally hB (j := j) (by rw [tally_len]; exact hj)
        have f0 := hB.frozen j
        have hbd := tally_bd 3 1 (by omega) ((colourPairs xs).take k) (fun p hp => by
          have := List.mem_of_mem_take hp
          simp only [colourPairs, List.mem_map] at this
          obtain ⟨y, _, rfl⟩ := this
          simp) j
        have hlen : ((colourPairs xs).take k).length ≤ k := List.length_take_le _ _
        have hst := cntRel_step (m := 3) hp hlt hB hb
        generalize (tally 3 ((colourPairs xs).take k)).getD j 0 = v at q hbd hst
        have hv0 : 0 ≤ v := hbd.1
        have hv1 : v ≤ 1048576 := by have := hbd.2; simp at this; omega
        have HST := Lib.hid hst
        clear hx hp hc hbd hlen hst
        go_wp2_with fail
        go_roundw
        case rel => exact HST.out
        case measure => simp [intOf]; omega
      · go_wp2_with fail
        go_ret2
        have hk2 : k = n := by omega
        subst hk2
        rw [List.take_of_length_le (by simp [colourPairs, HL.out])] at hB
        exact retInts_own (by rw [tally_len]) (own_of_blk hB (by simp [tally_len]) (by omega) (Nat.le_refl _)) hb

set_option maxHeartbeats 1000000 in
theorem implCountColours_any (A : Option Addr) (n c : Nat) (xs : List Int) (w : World) (hn : n ≤ 1048576) (hr : Rd w 1 A n (xs.map (Value.int .i64))) :
    Calls Try.prog 29 #[.slice A n c] w (RetInts 3 w (countR xs) (coloursB xs)) := by
  have hl := hr.len1
  have hmk : ∀ W, (Instr.makeSlice 41 (.int .i64 3) (.int .i64 3)).run Try.prog W = .ok (.slice (some ⟨W.heap.size, 0, none⟩) 3 3) (W.alloc (.cells #[.int .i64 0, .int .i64 0, .int .i64 0] 3)) := fun _ => by kernel_rfl
  cases h : coloursB xs with
  | false =>
    have hR : countR xs = [] := by simp [countR, h]
    rw [hR]
    clear hR
    go_enter Try.func29, Try.ntmps29
    go_wp2_with (go_at_call 56; refine (areColours_any _ _ _ xs _ hn hr).mono ?_; rintro e w' ⟨rfl, rfl⟩)
    go_ret2
    exact retInts_nil (ext_refl w)
  | true =>
    have hR : countR xs = tally 3 (colourPairs xs) := by simp [countR, h]
    rw [hR]
    have hal : (xs.all fun x => inB x 0 2) = true := by simp only [coloursB, Bool.and_eq_true] at h; exact h.1
    have h60 : n ≤ 60 := by simp only [coloursB, Bool.and_eq_true, decide_eq_true_eq] at h; omega
    have HALL := Lib.hid hal
    have HL := Lib.hid hl
    clear hl hR hal
    go_enter Try.func29, Try.ntmps29
    go_wp2_with (go_at_call 56; refine (areColours_any _ _ _ xs _ hn hr).mono ?_; rintro e w' ⟨rfl, rfl⟩)
    clear hmk
    go_loopw [13] (CntRel w 3 3 n (colourPairs xs)) (fun i _ => n - (intOf i).toNat)
    case atStart => exact ⟨0, Nat.zero_le _, rfl, Blk.new w _ _, ext_alloc (ext_refl w) _⟩
    case round =>
      obtain ⟨k, hk, rfl, hB, hb⟩ := hrel
      by_cases hlt : k < n
      · obtain ⟨b, o, x, rfl, hbl, hx, hc⟩ := hr.int k hlt
        have hp : (colourPairs xs)[k]? = some (x.toNat, 1) := by simp [colourPairs, hx]
        obtain ⟨x0, x1⟩ := inB_iff.1 (all_get HALL.out hx)
        obtain ⟨j, rfl⟩ := Int.eq_ofNat_of_zero_le x0
        rw [Int.toNat_natCast] at hp
        have hj : j < 3 := by omega
        have hc' := (hb.cell (p := ⟨b, o + k, none⟩) hbl).trans hc
        have q := cell_tally hB (j := j) (by rw [tally_len]; exact hj)
        have f0 := hB.frozen j
        have hbd := tally_bd 3 1 (by omega) ((colourPairs xs).take k) (fun p hp => by
          have := List.mem_of_mem_take hp
          simp only [colourPairs, List.mem_map] at this
          obtain ⟨y, _, rfl⟩ := this
          simp) j
        have hlen : ((colourPairs xs).take k).length ≤ k := List.length_take_le _ _
        have hst := cntRel_step (m := 3) hp hlt hB hb
        generalize (tally 3 ((colourPairs xs).take k)).getD j 0 = v at q hbd hst
        have hv0 : 0 ≤ v := hbd.1
        have hv1 : v ≤ 1048576 := by have := hbd.2; simp at this; omega
        have HST := Lib.hid hst
        clear hx hp hc hbd hlen hst
        go_wp2_with fail
        go_roundw
        case rel => exact HST.out
        case measure => simp [intOf]; omega
      · go_wp2_with fail
        go_ret2
        have hk2 : k = n := by omega
        subst hk2
        rw [List.take_of_length_le (by simp [colourPairs, HL.out])] at hB
        exact retInts_own (by rw [tally_len]) (own_of_blk hB (by simp [tally_len]) (by omega) (Nat.le_refl _)) hb

set_option maxHeartbeats 4000000 in
theorem walkCountColours (A : Option Addr) (n c : Nat) (xs : List Int) (hn : n ≤ 9223372036854775807) (w : World) (hr : Rd w 1 A n (xs.flatMap encInt)) :
    Calls Try.prog 9 #[.slice A n c] w fun e w' => e = .returned (.bool true) ∧ Below w.heap.size w w' := by
  rw [map_flat] at hr
  by_cases hbig : 1048576 < n
  · go_enter Try.func9, Try.ntmps9
    go_wp2_with fail
    go_ret
    exact ⟨rfl, ext_refl w⟩
  have hn2 : n ≤ 1048576 := by omega
  have hlr := countR_len xs
  have z0 := ext_refl w
  go_enter Try.func9, Try.ntmps9
  go_wp2_with fail
  refine (toIntS_any A n c xs _ hn2 (hr.below z0)).mono ?_; rintro e w1 ⟨gs, rfl, ows, hb1⟩
  have os1 := own_base ows z0.size
  have z1 := ext_trans z0 hb1
  go_wp2_with fail
  refine (specCountColours_any _ n _ xs _ hn2 (Rd.of_own os1)).mono ?_; rintro e w2 ⟨Aw, Cw, rfl, oww, hb2⟩
  have apws := apart_before os1.lt oww.lt
  have os2 := own_ext os1 hb2
  have ow2 := own_base oww z1.size
  have z2 := ext_trans z1 hb2
  go_wp2_with fail
  refine (toIntS_any A n c xs _ hn2 (hr.below z2)).mono ?_; rintro e w3 ⟨gx, rfl, owx, hb3⟩
  have apxs := apart_before os2.lt owx.lt
  have os3 := own_ext os2 hb3
  have apxw := apart_before ow2.lt owx.lt
  have ow3 := own_ext ow2 hb3
  have ox3 := own_base owx z2.size
  have z3 := ext_trans z2 hb3
  go_wp2_with fail
  refine (implCountColours_any _ n _ xs _ hn2 (Rd.of_own ox3)).mono ?_; rintro e w4 ⟨Ag, Cg, rfl, owg, hb4⟩
  have apgs := apart_before os3.lt owg.lt
  have os4 := own_ext os3 hb4
  have apgw := apart_before ow3.lt owg.lt
  have ow4 := own_ext ow3 hb4
  have apgx := apart_before ox3.lt owg.lt
  have ox4 := own_ext ox3 hb4
  have og4 := own_base owg z3.size
  have z4 := ext_trans z3 hb4
  go_wp2_with fail
  refine (eqIntS_same _ _ (countR xs).length _ _ (countR xs) _ (by omega) (Rd.of_own og4) (Rd.of_own ow4)).mono ?_; rintro e w5 ⟨rfl, hb5⟩
  have os5 := own_ext os4 hb5
  have ow5 := own_ext ow4 hb5
  have ox5 := own_ext ox4 hb5
  have og5 := own_ext og4 hb5
  have z5 := ext_trans z4 hb5
  go_wp2_with fail
  refine (toIntS_any A n c xs _ hn2 (hr.below z5)).mono ?_; rintro e w6 ⟨gy, rfl, owy, hb6⟩
  have apys := apart_before os5.lt owy.lt
  have os6 := own_ext os5 hb6
  have apyw := apart_before ow5.lt owy.lt
  have ow6 := own_ext ow5 hb6
  have apyx := apart_before ox5.lt owy.lt
  have ox6 := own_ext ox5 hb6
  have apyg := apart_before og5.lt owy.lt
  have og6 := own_ext og5 hb6
  have oy6 := own_base owy z5.size
  have z6 := ext_trans z5 hb6
  go_wp2_with fail
  refine (eqIntS_same _ _ n _ _ xs _ (by omega) (Rd.of_own ox6) (Rd.of_own oy6)).mono ?_; rintro e w7 ⟨rfl, hb7⟩
  have os7 := own_ext os6 hb7
  have ow7 := own_ext ow6 hb7
  have ox7 := own_ext ox6 hb7
  have og7 := own_ext og6 hb7
  have oy7 := own_ext oy6 hb7
  have z7 := ext_trans z6 hb7
  go_wp2_with fail
  refine (markIntS_own _ n _ _ _ 1 _ hn2 (by omega) (by omega) ox7).mono ?_; rintro e w8 ⟨rfl, ox8, hg8⟩
  have z8 := below_marked z7 ox7 (Nat.le_refl _) hg8
  have os8 := os7.kept hg8 apxs.1
  have ow8 := ow7.kept hg8 apxw.1
  have og8 := og7.kept hg8 apgx.2
  have oy8 := oy7.kept hg8 apyx.2
  go_wp2_with fail
  refine (eqIntS_same _ _ (countR xs).length _ _ (countR xs) _ (by omega) (Rd.of_own og8) (Rd.of_own ow8)).mono ?_; rintro e w9 ⟨rfl, hb9⟩
  have os9 := own_ext os8 hb9
  have ow9 := own_ext ow8 hb9
  have ox9 := own_ext ox8 hb9
  have og9 := own_ext og8 hb9
  have oy9 := own_ext oy8 hb9
  have z9 := ext_trans z8 hb9
  go_wp2_with fail
  refine (markIntS_own _ (countR xs).length _ _ _ 1 _ (by omega) (by omega) (by omega) og9).mono ?_; rintro e w10 ⟨rfl, og10, hg10⟩
  have z10 := below_marked z9 og9 (Nat.le_refl _) hg10
  have os10 := os9.kept hg10 apgs.1
  have ow10 := ow9.kept hg10 apgw.1
  have ox10 := ox9.kept hg10 apgx.1
  have oy10 := oy9.kept hg10 apyg.2
  go_wp2_with fail
  refine (heldIntS_any _ (countR xs).length _ 1 _ (by omega) (by omega) (by omega) (Rd.of_own og10)).mono ?_; rintro e w11 ⟨rfl, rfl⟩
  go_wp2_with fail
  refine (toIntS_any A n c xs _ hn2 (hr.below z10)).mono ?_; rintro e w12 ⟨gt, rfl, owt, hb12⟩
  have apts := apart_before os10.lt owt.lt
  have os12 := own_ext os10 hb12
  have aptw := apart_before ow10.lt owt.lt
  have ow12 := own_ext ow10 hb12
  have aptx := apart_before ox10.lt owt.lt
  have ox12 := own_ext ox10 hb12
  have aptg := apart_before og10.lt owt.lt
  have og12 := own_ext og10 hb12
  have apty := apart_before oy10.lt owt.lt
  have oy12 := own_ext oy10 hb12
  have ot12 := own_base owt z10.size
  have z12 := ext_trans z10 hb12
  go_wp2_with fail
  refine (implCountColours_any _ n _ xs _ hn2 (Rd.of_own ot12)).mono ?_; rintro e w13 ⟨Ah, Ch, rfl, owh, hb13⟩
  have aphs := apart_before os12.lt owh.lt
  have os13 := own_ext os12 hb13
  have aphw := apart_before ow12.lt owh.lt
  have ow13 := own_ext ow12 hb13
  have aphx := apart_before ox12.lt owh.lt
  have ox13 := own_ext ox12 hb13
  have aphg := apart_before og12.lt owh.lt
  have og13 := own_ext og12 hb13
  have aphy := apart_before oy12.lt owh.lt
  have oy13 := own_ext oy12 hb13
  have apht := apart_before ot12.lt owh.lt
  have ot13 := own_ext ot12 hb13
  have oh13 := own_base owh z12.size
  have z13 := ext_trans z12 hb13
  go_wp2_with fail
  refine (eqIntS_same _ _ (countR xs).length _ _ (countR xs) _ (by omega) (Rd.of_own oh13) (Rd.of_own ow13)).mono ?_; rintro e w14 ⟨rfl, hb14⟩
  have os14 := own_ext os13 hb14
  have ow14 := own_ext ow13 hb14
  have ox14 := own_ext ox13 hb14
  have og14 := own_ext og13 hb14
  have oy14 := own_ext oy13 hb14
  have ot14 := own_ext ot13 hb14
  have oh14 := own_ext oh13 hb14
  have z14 := ext_trans z13 hb14
  go_wp2_with fail
  refine (heldIntS_any _ (countR xs).length _ 1 _ (by omega) (by omega) (by omega) (Rd.of_own og14)).mono ?_; rintro e w15 ⟨rfl, rfl⟩
  go_wp2_with fail
  go_ret
  exact ⟨rfl, z14⟩

end Go.Proofs.Ytdhojfkdbpghmaa