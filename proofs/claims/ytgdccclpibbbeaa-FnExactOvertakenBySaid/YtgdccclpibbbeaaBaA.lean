/- Band maps: contracts of IsBandMap and BandOf, the program's and the reference's; the laws' walks. -/
import Derived.Test.YtgdccclpibbbeaaHelp
import Derived.Deep.RegionHeld3
namespace Go.Proofs.Ytgdccclpibbbeaa
open Go.RowKit

theorem all_get {α : Type} {xs : List α} {f : α → Bool} (h : xs.all f = true) {k : Nat} {x : α} (hx : xs[k]? = some x) : f x = true := List.all_eq_true.1 h x (List.mem_of_getElem? hx)
def bandMapB (xs : List Int) : Bool := xs.all (fun x => inB x 0 7) && decide (xs.length = 16)
theorem bandMapB_iff {xs : List Int} : bandMapB xs = true ↔ (xs.all fun x => inB x 0 7) = true ∧ xs.length = 16 := by simp [bandMapB]
def bandOfB (xs : List Int) (m : Int) : Bool := bandMapB xs && inB m 0 65535
def bandOfI (xs : List Int) (m : Int) : Int := if bandOfB xs m then xs.getD (m.toNat % 16) 0 else 0

set_option maxHeartbeats 400000 in
theorem implIsBandMap_any (A : Option Addr) (n c : Nat) (xs : List Int) (w : World) (hn : n ≤ 1048576) (hr : Rd w 1 A n (xs.map (Value.int .i64))) :
    Calls Try.prog 14 #[.slice A n c] w fun e w' => e = .returned (.bool (bandMapB xs)) ∧ w = w' := by
  have hl := hr.len1
  have HL := Lib.hid hl
  clear hl
  go_enter Try.func14, Try.ntmps14
  go_wp2_with fail
  go_loop [7] (AllRel n xs 0 7) (fun i => n - (intOf i).toNat)
  case atStart => exact ⟨0, Nat.zero_le _, rfl, by simp⟩
  case round =>
    obtain ⟨k, hk, rfl, ha⟩ := hrel
    by_cases hlt : k < n
    · obtain ⟨b, o, x, rfl, hbl, hx, hc⟩ := hr.int k hlt
      have HX := Lib.hid hx
      have HA := Lib.hid ha
      clear hx ha
      by_cases h0 : x < 0
      · have hin : inB x 0 7 = false := by simp [inB]; omega
        have HI := Lib.hid hin
        clear hin
        go_wp2_with fail
        go_ret
        exact ⟨by rw [bandMapB, all_false HX.out HI.out]; rfl, rfl⟩
      · by_cases h8 : 8 ≤ x
        · have hin : inB x 0 7 = false := by simp [inB]; omega
          have HI := Lib.hid hin
          clear hin
          go_wp2_with fail
          go_ret
          exact ⟨by rw [bandMapB, all_false HX.out HI.out]; rfl, rfl⟩
        · have hin : inB x 0 7 = true := by simp [inB]; omega
          have HI := Lib.hid hin
          clear hin
          go_wp2_with fail
          go_round
          case rel => exact ⟨k + 1, by omega, by go_num, by rw [take_snoc HX.out, List.all_append, HA.out]; simp [HI.out]⟩
          case measure => simp [intOf]; omega
    · have HA := Lib.hid ha
      clear ha
      go_wp2_with fail
      go_ret
      have h2 := HA.out
      rw [List.take_of_length_le (by rw [HL.out]; omega)] at h2
      exact ⟨ret_bool (by rw [Bool.eq_iff_iff]; simp [bandMapB, h2, HL.out]; omega), rfl⟩

set_option maxHeartbeats 400000 in
theorem bdMap_any (A : Option Addr) (n c : Nat) (xs : List Int) (w : World) (hn : n ≤ 1048576) (hr : Rd w 1 A n (xs.map (Value.int .i64))) :
    Calls Try.prog 38 #[.slice A n c] w fun e w' => e = .returned (.bool (bandMapB xs)) ∧ w = w' := by
  have hl := hr.len1
  by_cases h16 : n = 16
  · have HL := Lib.hid hl
    have h1 : ((n : Int) == 16) = true := by simp; omega
    have H16 := Lib.hid h16
    clear hl h16
    go_enter Try.func38, Try.ntmps38
    go_wp2_with (go_at_call 55; refine (l1All_any _ _ _ xs _ _ _ hn hr).mono ?_; rintro e w' ⟨rfl, rfl⟩)
    go_ret
    exact ⟨by simp [bandMapB, HL.out, H16.out], rfl⟩
  · have HL := Lib.hid hl
    have h1 : ((n : Int) == 16) = false := by simp; omega
    have H16 := Lib.hid h16
    clear hl h16
    go_enter Try.func38, Try.ntmps38
    go_wp2_with (go_at_call 55; refine (l1All_any _ _ _ xs _ _ _ hn hr).mono ?_; rintro e w' ⟨rfl, rfl⟩)
    go_ret
    exact ⟨by simp [bandMapB, HL.out, H16.out], rfl⟩

set_option maxHeartbeats 400000 in
theorem specIsBandMap_any (A : Option Addr) (n c : Nat) (xs : List Int) (w : World) (hn : n ≤ 1048576) (hr : Rd w 1 A n (xs.map (Value.int .i64))) :
    Calls Try.prog 12 #[.slice A n c] w fun e w' => e = .returned (.bool (bandMapB xs)) ∧ w = w' := by
  go_enter Try.func12, Try.ntmps12
  go_wp2_with (go_at_call 38; refine (bdMap_any _ _ _ xs _ hn hr).mono ?_; rintro e w' ⟨rfl, rfl⟩)
  go_ret
  exact ⟨rfl, rfl⟩

set_option maxHeartbeats 400000 in
theorem isMark_any (n : Int) (w : World) : Calls Try.prog 40 #[.int .i64 n] w fun e w' => e = .returned (.bool (inB n 0 65535)) ∧ w = w' := by
  go_enter Try.func40, Try.ntmps40
  go_wp2
  all_goals (go_ret; simp [inB, *] <;> omega)
set_option maxHeartbeats 400000 in
theorem bdMark_any (n : Int) (w : World) : Calls Try.prog 39 #[.int .i64 n] w fun e w' => e = .returned (.bool (inB n 0 65535)) ∧ w = w' := by
  go_enter Try.func39, Try.ntmps39
  go_wp2_with (go_at_call 52; refine (l1In_any _ _ _ _).mono ?_; rintro e w' ⟨rfl, rfl⟩)
  go_ret
  exact ⟨rfl, rfl⟩

set_option maxHeartbeats 400000 in
theorem implBandOf_any (A : Option Addr) (n c : Nat) (xs : List Int) (m : Int) (w : World) (hn : n ≤ 1048576) (hr : Rd w 1 A n (xs.map (Value.int .i64))) :
    Calls Try.prog 17 #[.slice A n c, .int .i64 m] w fun e w' => e = .returned (.tuple #[.int .i64 (bandOfI xs m), .bool (bandOfB xs m)]) ∧ w = w' := by
  cases h1 : bandMapB xs with
  | false =>
    simp only [bandOfI, bandOfB, h1, Bool.false_and]
    go_enter Try.func17, Try.ntmps17
    go_wp2_with (first | (go_at_call 14; refine (implIsBandMap_any _ _ _ xs _ hn hr).mono ?_; rintro e w' ⟨rfl, rfl⟩) | (go_at_call 40; refine (isMark_any _ _).mono ?_; rintro e w' ⟨rfl, rfl⟩))
    go_ret2
    exact ⟨rfl, rfl⟩
  | true =>
    cases h2 : inB m 0 65535 with
    | false =>
      simp only [bandOfI, bandOfB, h1, h2, Bool.and_false]
      go_enter Try.func17, Try.ntmps17
      go_wp2_with (first | (go_at_call 14; refine (implIsBandMap_any _ _ _ xs _ hn hr).mono ?_; rintro e w' ⟨rfl, rfl⟩) | (go_at_call 40; refine (isMark_any _ _).mono ?_; rintro e w' ⟨rfl, rfl⟩))
      go_ret2
      exact ⟨rfl, rfl⟩
    | true =>
      have hb : bandOfB xs m = true := by simp [bandOfB, h1, h2]
      obtain ⟨m0, m1⟩ := inB_iff.1 h2
      obtain ⟨j, rfl⟩ := Int.eq_ofNat_of_zero_le m0
      have hI : bandOfI xs (j : Int) = xs.getD (j % 16) 0 := by simp [bandOfI, hb]
      have hl := hr.len1
      have hn16 : n = 16 := by rw [← hl]; exact (bandMapB_iff.1 h1).2
      subst hn16
      obtain ⟨b, o, x, rfl, hbl, hx, hc⟩ := hr.int (j % 16) (Nat.mod_lt _ (by omega))
      have hxg : xs.getD (j % 16) 0 = x := by simp [List.getD_eq_getElem?_getD, hx]
      rw [hI, hxg, hb]
      clear hI hxg hb hx hl
      go_enter Try.func17, Try.ntmps17
      go_wp2_with (first | (go_at_call 14; refine (implIsBandMap_any _ _ _ xs _ hn hr).mono ?_; rintro e w' ⟨rfl, rfl⟩) | (go_at_call 40; refine (isMark_any _ _).mono ?_; rintro e w' ⟨rfl, rfl⟩))
      go_ret2
      exact ⟨rfl, rfl⟩

set_option maxHeartbeats 400000 in
theorem specBandOf_any (A : Option Addr) (n c : Nat) (xs : List Int) (m : Int) (w : World) (hn : n ≤ 1048576) (hr : Rd w 1 A n (xs.map (Value.int .i64))) :
    Calls Try.prog 16 #[.slice A n c, .int .i64 m] w fun e w' => e = .returned (.tuple #[.int .i64 (bandOfI xs m), .bool (bandOfB xs m)]) ∧ w = w' := by
  cases h1 : bandMapB xs with
  | false =>
    simp only [bandOfI, bandOfB, h1, Bool.false_and]
    go_enter Try.func16, Try.ntmps16
    go_wp2_with (first | (go_at_call 38; refine (bdMap_any _ _ _ xs _ hn hr).mono ?_; rintro e w' ⟨rfl, rfl⟩) | (go_at_call 39; refine (bdMark_any _ _).mono ?_; rintro e w' ⟨rfl, rfl⟩))
    go_ret2
    exact ⟨rfl, rfl⟩
  | true =>
    cases h2 : inB m 0 65535 with
    | false =>
      simp only [bandOfI, bandOfB, h1, h2, Bool.and_false]
      go_enter Try.func16, Try.ntmps16
      go_wp2_with (first | (go_at_call 38; refine (bdMap_any _ _ _ xs _ hn hr).mono ?_; rintro e w' ⟨rfl, rfl⟩) | (go_at_call 39; refine (bdMark_any _ _).mono ?_; rintro e w' ⟨rfl, rfl⟩))
      go_ret2
      exact ⟨rfl, rfl⟩
    | true =>
      have hb : bandOfB xs m = true := by simp [bandOfB, h1, h2]
      obtain ⟨m0, m1⟩ := inB_iff.1 h2
      obtain ⟨j, rfl⟩ := Int.eq_ofNat_of_zero_le m0
      have hI : bandOfI xs (j : Int) = xs.getD (j % 16) 0 := by simp [bandOfI, hb]
      have hl := hr.len1
      have hn16 : n = 16 := by rw [← hl]; exact (bandMapB_iff.1 h1).2
      subst hn16
      obtain ⟨b, o, x, rfl, hbl, hx, hc⟩ := hr.int (j % 16) (Nat.mod_lt _ (by omega))
      have hxg : xs.getD (j % 16) 0 = x := by simp [List.getD_eq_getElem?_getD, hx]
      rw [hI, hxg, hb]
      clear hI hxg hb hx hl
      go_enter Try.func16, Try.ntmps16
      go_wp2_with (first | (go_at_call 38; refine (bdMap_any _ _ _ xs _ hn hr).mono ?_; rintro e w' ⟨rfl, rfl⟩) | (go_at_call 39; refine (bdMark_any _ _).mono ?_; rintro e w' ⟨rfl, rfl⟩))
      go_ret2
      exact ⟨rfl, rfl⟩

set_option maxHeartbeats 2000000 in
theorem walkIsBandMap (A : Option Addr) (n c : Nat) (xs : List Int) (hn : n ≤ 9223372036854775807) (w : World) (hr : Rd w 1 A n (xs.flatMap encInt)) :
    Calls Try.prog 3 #[.slice A n c] w fun e w' => e = .returned (.bool true) ∧ Below w.heap.size w w' := by
  rw [map_flat] at hr
  by_cases hbig : 1048576 < n
  · go_enter Try.func3, Try.ntmps3
    go_wp2_with fail
    go_ret
    exact ⟨rfl, ext_refl w⟩
  have hn2 : n ≤ 1048576 := by omega
  have z0 := ext_refl w
  go_enter Try.func3, Try.ntmps3
  go_wp2_with fail
  refine (toIntS_any A n c xs _ hn2 (hr.below z0)).mono ?_; rintro e w1 ⟨gs, rfl, ows, hb1⟩
  have os1 := own_base ows z0.size
  have z1 := ext_trans z0 hb1
  go_wp2_with fail
  refine (specIsBandMap_any _ n _ xs _ hn2 (Rd.of_own os1)).mono ?_; rintro e w2 ⟨rfl, rfl⟩
  go_wp2_with fail
  refine (toIntS_any A n c xs _ hn2 (hr.below z1)).mono ?_; rintro e w3 ⟨gx, rfl, owx, hb3⟩
  have apxs := apart_before os1.lt owx.lt
  have os3 := own_ext os1 hb3
  have ox3 := own_base owx z1.size
  have z3 := ext_trans z1 hb3
  go_wp2_with fail
  refine (implIsBandMap_any _ n _ xs _ hn2 (Rd.of_own ox3)).mono ?_; rintro e w4 ⟨rfl, rfl⟩
  go_wp2_with fail
  refine (toIntS_any A n c xs _ hn2 (hr.below z3)).mono ?_; rintro e w5 ⟨gy, rfl, owy, hb5⟩
  have apys := apart_before os3.lt owy.lt
  have os5 := own_ext os3 hb5
  have apyx := apart_before ox3.lt owy.lt
  have ox5 := own_ext ox3 hb5
  have oy5 := own_base owy z3.size
  have z5 := ext_trans z3 hb5
  go_wp2_with fail
  refine (eqIntS_same _ _ n _ _ xs _ hn2 (Rd.of_own ox5) (Rd.of_own oy5)).mono ?_; rintro e w6 ⟨rfl, hb6⟩
  have os6 := own_ext os5 hb6
  have ox6 := own_ext ox5 hb6
  have oy6 := own_ext oy5 hb6
  have z6 := ext_trans z5 hb6
  go_wp2_with fail
  go_ret
  exact ⟨rfl, z6⟩

set_option maxHeartbeats 2000000 in
theorem walkBandOf (A : Option Addr) (n c : Nat) (xs : List Int) (hn : n ≤ 9223372036854775807) (m : Int) (w : World) (hr : Rd w 1 A n (xs.flatMap encInt)) :
    Calls Try.prog 4 #[.slice A n c, .int .i64 m] w fun e w' => e = .returned (.bool true) ∧ Below w.heap.size w w' := by
  rw [map_flat] at hr
  by_cases hbig : 1048576 < n
  · go_enter Try.func4, Try.ntmps4
    go_wp2_with fail
    go_ret
    exact ⟨rfl, ext_refl w⟩
  have hn2 : n ≤ 1048576 := by omega
  have z0 := ext_refl w
  go_enter Try.func4, Try.ntmps4
  go_wp2_with fail
  refine (toIntS_any A n c xs _ hn2 (hr.below z0)).mono ?_; rintro e w1 ⟨gs, rfl, ows, hb1⟩
  have os1 := own_base ows z0.size
  have z1 := ext_trans z0 hb1
  go_wp2_with fail
  refine (specBandOf_any _ n _ xs _ _ hn2 (Rd.of_own os1)).mono ?_; rintro e w2 ⟨rfl, rfl⟩
  go_wp2_with fail
  refine (toIntS_any A n c xs _ hn2 (hr.below z1)).mono ?_; rintro e w3 ⟨gx, rfl, owx, hb3⟩
  have apxs := apart_before os1.lt owx.lt
  have os3 := own_ext os1 hb3
  have ox3 := own_base owx z1.size
  have z3 := ext_trans z1 hb3
  go_wp2_with fail
  refine (implBandOf_any _ n _ xs _ _ hn2 (Rd.of_own ox3)).mono ?_; rintro e w4 ⟨rfl, rfl⟩
  go_wp2_with fail
  refine (toIntS_any A n c xs _ hn2 (hr.below z3)).mono ?_; rintro e w5 ⟨gy, rfl, owy, hb5⟩
  have apys := apart_before os3.lt owy.lt
  have os5 := own_ext os3 hb5
  have apyx := apart_before ox3.lt owy.lt
  have ox5 := own_ext ox3 hb5
  have oy5 := own_base owy z3.size
  have z5 := ext_trans z3 hb5
  go_wp2_with fail
  refine (eqIntS_same _ _ n _ _ xs _ hn2 (Rd.of_own ox5) (Rd.of_own oy5)).mono ?_; rintro e w6 ⟨rfl, hb6⟩
  have os6 := own_ext os5 hb6
  have ox6 := own_ext ox5 hb6
  have oy6 := own_ext oy5 hb6
  have z6 := ext_trans z5 hb6
  go_wp2_with fail
  go_ret
  exact ⟨rfl, z6⟩

end Go.Proofs.Ytgdccclpibbbeaa