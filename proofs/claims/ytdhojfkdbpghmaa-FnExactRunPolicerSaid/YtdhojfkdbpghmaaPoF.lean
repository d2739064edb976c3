/- Sends: contracts of areSends and buSends. -/
import Derived.Test.YtdhojfkdbpghmaaPoE
import Derived.Deep.RegionHeld3
namespace Go.Proofs.Ytdhojfkdbpghmaa
open Go.RowKit


/-! ### Rows whose elements are good and whose keys do not fall -/
def stepB {α : Type} (ok : α → Bool) (key : α → Int) (xs : List α) (k : Nat) : Bool :=
  match xs[k]? with
  | none => true
  | some x => ok x && (match k with
    | 0 => true
    | j + 1 => match xs[j]? with
      | none => true
      | some y => decide (key y ≤ key x))
def chainB {α : Type} (ok : α → Bool) (key : α → Int) (xs : List α) : Bool := (List.range xs.length).all (stepB ok key xs)
theorem chain_false {α : Type} {ok : α → Bool} {key : α → Int} {xs : List α} {k : Nat} (hk : k < xs.length) (h : stepB ok key xs k = false) : chainB ok key xs = false := by
  unfold chainB
  rw [List.all_eq_false]
  exact ⟨k, List.mem_range.2 hk, by simp [h]⟩
theorem chain_true {α : Type} {ok : α → Bool} {key : α → Int} {xs : List α} (h : ∀ k, k < xs.length → stepB ok key xs k = true) : chainB ok key xs = true := by
  unfold chainB
  rw [List.all_eq_true]
  exact fun k hk => h k (List.mem_range.1 hk)
theorem chain_at {α : Type} {ok : α → Bool} {key : α → Int} {xs : List α} (h : chainB ok key xs = true) {k : Nat} {x : α} (hx : xs[k]? = some x) : ok x = true ∧ ∀ j y, k = j + 1 → xs[j]? = some y → key y ≤ key x := by
  unfold chainB at h
  have hk : k < xs.length := (List.getElem?_eq_some_iff.1 hx).1
  have h1 := List.all_eq_true.1 h k (List.mem_range.2 hk)
  unfold stepB at h1
  rw [hx] at h1
  simp only [Bool.and_eq_true] at h1
  refine ⟨h1.1, fun j y hj hy => ?_⟩
  subst hj
  have h2 := h1.2
  simp only [hy, decide_eq_true_eq] at h2
  exact h2
theorem step_bad {α : Type} {ok : α → Bool} {key : α → Int} {xs : List α} {k : Nat} {x : α} (hx : xs[k]? = some x) (h : ok x = false) : stepB ok key xs k = false := by simp [stepB, hx, h]
theorem step_zero {α : Type} {ok : α → Bool} {key : α → Int} {xs : List α} {x : α} (hx : xs[0]? = some x) (h : ok x = true) : stepB ok key xs 0 = true := by simp [stepB, hx, h]
theorem step_succ {α : Type} {ok : α → Bool} {key : α → Int} {xs : List α} {j : Nat} {x y : α} (hx : xs[j + 1]? = some x) (hy : xs[j]? = some y) (h : ok x = true) : stepB ok key xs (j + 1) = decide (key y ≤ key x) := by simp [stepB, hx, hy, h]

def ChainRel {α : Type} (w : World) (n : Nat) (ok : α → Bool) (key : α → Int) (xs : List α) (i : Value) (wr : World) : Prop :=
  ∃ k : Nat, k ≤ n ∧ i = .int .i64 k ∧ (∀ j, j < k → stepB ok key xs j = true) ∧ Below w.heap.size w wr
theorem chainRel_zero {α : Type} {w wr : World} {n k : Nat} {ok : α → Bool} {key : α → Int} {xs : List α} {x : α} (hk : k = 0) (hx : xs[k]? = some x) (h : ok x = true) (hlt : k < n) (hb : Below w.heap.size w wr) : ChainRel w n ok key xs (.int .i64 ((k : Int) + 1)) wr := by
  subst hk
  refine ⟨1, by omega, by simp, fun j hj => ?_, hb⟩
  obtain rfl : j = 0 := by omega
  exact step_zero hx h
theorem chainRel_succ {α : Type} {w wr : World} {n k j : Nat} {ok : α → Bool} {key : α → Int} {xs : List α} {x y : α} (hk : k = j + 1) (hx : xs[k]? = some x) (hy : xs[j]? = some y) (h : ok x = true) (hle : key y ≤ key x)
    (hch : ∀ j, j < k → stepB ok key xs j = true) (hlt : k < n) (hb : Below w.heap.size w wr) : ChainRel w n ok key xs (.int .i64 ((k : Int) + 1)) wr := by
  refine ⟨k + 1, by omega, by simp, fun i hi => ?_, hb⟩
  by_cases hik : i = k
  · subst hik
    subst hk
    rw [step_succ hx hy h]
    simpa using hle
  · exact hch i (by omega)
theorem step_down {α : Type} {ok : α → Bool} {key : α → Int} {xs : List α} {k j : Nat} {x y : α} (hk : k = j + 1) (hx : xs[k]? = some x) (hy : xs[j]? = some y) (hle : key x < key y) : stepB ok key xs k = false := by
  subst hk
  simp [stepB, hx, hy]
  intro _; omega

def sendOk (x : Send) : Bool := inB x.size 1 1500 && inB x.tick 0 100000
def sendsB (xs : List Send) : Bool := chainB sendOk Send.tick xs && decide (xs.length ≤ 60)
theorem sendOk_bad1 {x : Send} (h : inB x.size 1 1500 = false) : sendOk x = false := by simp [sendOk, h]
theorem sendOk_bad2 {x : Send} (h : inB x.tick 0 100000 = false) : sendOk x = false := by simp [sendOk, h]
theorem sendOk_mk {x : Send} (h1 : inB x.size 1 1500 = true) (h2 : inB x.tick 0 100000 = true) : sendOk x = true := by simp [sendOk, h1, h2]

set_option maxHeartbeats 2000000 in
theorem areSends_any (A : Option Addr) (n c : Nat) (xs : List Send) (w : World) (hn : n ≤ 1048576) (hr : Rd w 2 A n (xs.flatMap encSend)) :
    Calls Try.prog 61 #[.slice A n c] w fun e w' => e = .returned (.bool (sendsB xs)) ∧ Below w.heap.size w w' := by
  have hl : xs.length = n := by have h1 := hr.1; rw [flat_len encSend 2 encSend_len] at h1; omega
  have HL := Lib.hid hl
  clear hl
  go_enter Try.func61, Try.ntmps61
  go_wp2_with fail
  go_loopw [7] (ChainRel w n sendOk Send.tick xs) (fun i _ => n - (intOf i).toNat)
  case atStart => exact ⟨0, Nat.zero_le _, rfl, fun j hj => by omega, ext_refl w⟩
  case round =>
    obtain ⟨k, hk, rfl, hch, hb⟩ := hrel
    have HC := Lib.hid hch
    clear hch
    by_cases hlt : k < n
    · obtain ⟨b, o, rfl, hbl, hcell⟩ := hr.2 (by omega)
      have hblr : b < wr.heap.size := Nat.lt_of_lt_of_le hbl hb.size
      have hlx : k < xs.length := by rw [HL.out]; exact hlt
      have hx : xs[k]? = some xs[k] := List.getElem?_eq_getElem hlx
      generalize xs[k] = x at hx
      have c0 : wr.cell? ⟨b, o + (k * 2 + 0), none⟩ = some (.int .i64 x.tick) := (hb.cell (p := ⟨b, o + (k * 2 + 0), none⟩) hbl).trans (hcell _ _ ((flat_get encSend 2 encSend_len xs k 0 x hx (by omega)).trans rfl))
      have c1 : wr.cell? ⟨b, o + (k * 2 + 1), none⟩ = some (.int .i64 x.size) := (hb.cell (p := ⟨b, o + (k * 2 + 1), none⟩) hbl).trans (hcell _ _ ((flat_get encSend 2 encSend_len xs k 1 x hx (by omega)).trans rfl))
      simp only [Nat.add_zero, ← Nat.add_assoc] at c0 c1
      have HX := Lib.hid hx
      have HCELL := Lib.hid hcell
      clear hx hcell
      cases h1 : inB x.size 1 1500 with
      | false =>
        go_wp2_with fail
        go_quiet ((first | (go_at_call 52; exact quiet_left (isSize_any _ _)) | (go_at_call 47; exact quiet_left (isTicks_any _ _))))
        go_wp2_with fail
        go_ret
        exact ⟨ret_bool (by rw [sendsB, chain_false hlx (step_bad HX.out (sendOk_bad1 h1))]; rfl), ext_drewN (ext_alloc hb _) _⟩
      | true =>
        cases h2 : inB x.tick 0 100000 with
        | false =>
          go_wp2_with fail
          go_quiet ((first | (go_at_call 52; exact quiet_left (isSize_any _ _)) | (go_at_call 47; exact quiet_left (isTicks_any _ _))))
          go_wp2_with fail
          go_ret
          exact ⟨ret_bool (by rw [sendsB, chain_false hlx (step_bad HX.out (sendOk_bad2 h2))]; rfl), ext_drewN (ext_alloc hb _) _⟩
        | true =>
          have hok : sendOk x = true := sendOk_mk h1 h2
          have HOK := Lib.hid hok
          clear hok
          by_cases hk0 : k = 0
          · have g0 : decide (0 < k) = false := by simp; omega
            have HK := Lib.hid hk0
            clear hk0
            go_wp2_with fail
            go_quiet ((first | (go_at_call 52; exact quiet_left (isSize_any _ _)) | (go_at_call 47; exact quiet_left (isTicks_any _ _))))
            go_wp2_with fail
            go_roundw
            case rel => exact chainRel_zero HK.out HX.out HOK.out hlt (ext_drewN (ext_alloc hb _) _)
            case measure => simp [intOf]; omega
          · have hpos : 0 < k := by omega
            have g0 : decide (0 < k) = true := by simp; omega
            have hkj : k = (k - 1) + 1 := by omega
            have hlx' : k - 1 < xs.length := by omega
            have hy : xs[k - 1]? = some xs[k - 1] := List.getElem?_eq_getElem hlx'
            generalize xs[k - 1] = y at hy
            have d0 : wr.cell? ⟨b, o + ((k - 1) * 2 + 0), none⟩ = some (.int .i64 y.tick) := (hb.cell (p := ⟨b, o + ((k - 1) * 2 + 0), none⟩) hbl).trans (HCELL.out _ _ ((flat_get encSend 2 encSend_len xs (k - 1) 0 y hy (by omega)).trans rfl))
            simp only [Nat.add_zero] at d0
            have HY := Lib.hid hy
            have HKJ := Lib.hid hkj
            clear hy hkj hk0 hlx'
            have i0 : (0 : Int) ≤ (k : Int) - 1 := by omega
            have i1 : (1 : Int) ≤ (k : Int) := by omega
            have i2 : ((k : Int) - 1).toNat = k - 1 := by omega
            have i3 : (k : Int) - 1 < (n : Int) := by omega
            cases g1 : decide (x.tick < y.tick) with
            | false =>
              have hle : y.tick ≤ x.tick := by have := of_decide_eq_false g1; omega
              have hwk := wrap_in ((k : Int) - 1) (by omega) (by omega)
              go_wp2_with fail
              go_quiet ((first | (go_at_call 52; exact quiet_left (isSize_any _ _)) | (go_at_call 47; exact quiet_left (isTicks_any _ _))))
              clear hwk i0 i1 i2 i3
              go_wp2_with fail
              go_roundw
              case rel => exact chainRel_succ HKJ.out HX.out HY.out HOK.out hle HC.out hlt (ext_drewN (ext_alloc hb _) _)
              case measure => simp [intOf]; omega
            | true =>
              have hgt : x.tick < y.tick := by have := of_decide_eq_true g1; omega
              have HG := Lib.hid hgt
              have hwk := wrap_in ((k : Int) - 1) (by omega) (by omega)
              go_wp2_with fail
              go_quiet ((first | (go_at_call 52; exact quiet_left (isSize_any _ _)) | (go_at_call 47; exact quiet_left (isTicks_any _ _))))
              clear hwk i0 i1 i2 i3
              go_wp2_with fail
              go_ret
              exact ⟨ret_bool (by rw [sendsB, chain_false hlx (step_down (key := Send.tick) HKJ.out HX.out HY.out HG.out)]; rfl), ext_drewN (ext_alloc hb _) _⟩
    · go_wp2_with fail
      go_ret
      exact ⟨ret_bool (by rw [sendsB, chain_true (fun j hj => HC.out j (by rw [HL.out] at hj; omega)), HL.out, Bool.true_and, Bool.eq_iff_iff]; simp; omega), hb⟩

set_option maxHeartbeats 2000000 in
theorem buSends_any (A : Option Addr) (n c : Nat) (xs : List Send) (w : World) (hn : n ≤ 1048576) (hr : Rd w 2 A n (xs.flatMap encSend)) :
    Calls Try.prog 59 #[.slice A n c] w fun e w' => e = .returned (.bool (sendsB xs)) ∧ Below w.heap.size w w' := by
  have hl : xs.length = n := by have h1 := hr.1; rw [flat_len encSend 2 encSend_len] at h1; omega
  have HL := Lib.hid hl
  clear hl
  go_enter Try.func59, Try.ntmps59
  go_wp2_with fail
  go_loopw [7] (ChainRel w n sendOk Send.tick xs) (fun i _ => n - (intOf i).toNat)
  case atStart => exact ⟨0, Nat.zero_le _, rfl, fun j hj => by omega, ext_refl w⟩
  case round =>
    obtain ⟨k, hk, rfl, hch, hb⟩ := hrel
    have HC := Lib.hid hch
    clear hch
    by_cases hlt : k < n
    · obtain ⟨b, o, rfl, hbl, hcell⟩ := hr.2 (by omega)
      have hblr : b < wr.heap.size := Nat.lt_of_lt_of_le hbl hb.size
      have hlx : k < xs.length := by rw [HL.out]; exact hlt
      have hx : xs[k]? = some xs[k] := List.getElem?_eq_getElem hlx
      generalize xs[k] = x at hx
      have c0 : wr.cell? ⟨b, o + (k * 2 + 0), none⟩ = some (.int .i64 x.tick) := (hb.cell (p := ⟨b, o + (k * 2 + 0), none⟩) hbl).trans (hcell _ _ ((flat_get encSend 2 encSend_len xs k 0 x hx (by omega)).trans rfl))
      have c1 : wr.cell? ⟨b, o + (k * 2 + 1), none⟩ = some (.int .i64 x.size) := (hb.cell (p := ⟨b, o + (k * 2 + 1), none⟩) hbl).trans (hcell _ _ ((flat_get encSend 2 encSend_len xs k 1 x hx (by omega)).trans rfl))
      simp only [Nat.add_zero, ← Nat.add_assoc] at c0 c1
      have HX := Lib.hid hx
      have HCELL := Lib.hid hcell
      clear hx hcell
      cases h1 : inB x.size 1 1500 with
      | false =>
        go_wp2_with fail
        go_quiet ((first | (go_at_call 49; exact quiet_left (buSize_any _ _)) | (go_at_call 46; exact quiet_left (l1In_any _ _ _ _))))
        go_wp2_with fail
        go_ret
        exact ⟨ret_bool (by rw [sendsB, chain_false hlx (step_bad HX.out (sendOk_bad1 h1))]; rfl), ext_drewN (ext_alloc hb _) _⟩
      | true =>
        cases h2 : inB x.tick 0 100000 with
        | false =>
          go_wp2_with fail
          go_quiet ((first | (go_at_call 49; exact quiet_left (buSize_any _ _)) | (go_at_call 46; exact quiet_left (l1In_any _ _ _ _))))
          go_wp2_with fail
          go_ret
          exact ⟨ret_bool (by rw [sendsB, chain_false hlx (step_bad HX.out (sendOk_bad2 h2))]; rfl), ext_drewN (ext_alloc hb _) _⟩
        | true =>
          have hok : sendOk x = true := sendOk_mk h1 h2
          have HOK := Lib.hid hok
          clear hok
          by_cases hk0 : k = 0
          · have g0 : decide (0 < k) = false := by simp; omega
            have HK := Lib.hid hk0
            clear hk0
            go_wp2_with fail
            go_quiet ((first | (go_at_call 49; exact quiet_left (buSize_any _ _)) | (go_at_call 46; exact quiet_left (l1In_any _ _ _ _))))
            go_wp2_with fail
            go_roundw
            case rel => exact chainRel_zero HK.out HX.out HOK.out hlt (ext_drewN (ext_alloc hb _) _)
            case measure => simp [intOf]; omega
          · have hpos : 0 < k := by omega
            have g0 : decide (0 < k) = true := by simp; omega
            have hkj : k = (k - 1) + 1 := by omega
            have hlx' : k - 1 < xs.length := by omega
            have hy : xs[k - 1]? = some xs[k - 1] := List.getElem?_eq_getElem hlx'
            generalize xs[k - 1] = y at hy
            have d0 : wr.cell? ⟨b, o + ((k - 1) * 2 + 0), none⟩ = some (.int .i64 y.tick) := (hb.cell (p := ⟨b, o + ((k - 1) * 2 + 0), none⟩) hbl).trans (HCELL.out _ _ ((flat_get encSend 2 encSend_len xs (k - 1) 0 y hy (by omega)).trans rfl))
            simp only [Nat.add_zero] at d0
            have HY := Lib.hid hy
            have HKJ := Lib.hid hkj
            clear hy hkj hk0 hlx'
            have i0 : (0 : Int) ≤ (k : Int) - 1 := by omega
            have i1 : (1 : Int) ≤ (k : Int) := by omega
            have i2 : ((k : Int) - 1).toNat = k - 1 := by omega
            have i3 : (k : Int) - 1 < (n : Int) := by omega
            cases g1 : decide (x.tick < y.tick) with
            | false =>
              have hle : y.tick ≤ x.tick := by have := of_decide_eq_false g1; omega
              have hwk := wrap_in ((k : Int) - 1) (by omega) (by omega)
              go_wp2_with fail
              go_quiet ((first | (go_at_call 49; exact quiet_left (buSize_any _ _)) | (go_at_call 46; exact quiet_left (l1In_any _ _ _ _))))
              clear hwk i0 i1 i2 i3
              go_wp2_with fail
              go_roundw
              case rel => exact chainRel_succ HKJ.out HX.out HY.out HOK.out hle HC.out hlt (ext_drewN (ext_alloc hb _) _)
              case measure => simp [intOf]; omega
            | true =>
              have hgt : x.tick < y.tick := by have := of_decide_eq_true g1; omega
              have HG := Lib.hid hgt
              have hwk := wrap_in ((k : Int) - 1) (by omega) (by omega)
              go_wp2_with fail
              go_quiet ((first | (go_at_call 49; exact quiet_left (buSize_any _ _)) | (go_at_call 46; exact quiet_left (l1In_any _ _ _ _))))
              clear hwk i0 i1 i2 i3
              go_wp2_with fail
              go_ret
              exact ⟨ret_bool (by rw [sendsB, chain_false hlx (step_down (key := Send.tick) HKJ.out HX.out HY.out HG.out)]; rfl), ext_drewN (ext_alloc hb _) _⟩
    · go_wp2_with fail
      go_ret
      exact ⟨ret_bool (by rw [sendsB, chain_true (fun j hj => HC.out j (by rw [HL.out] at hj; omega)), HL.out, Bool.true_and, Bool.eq_iff_iff]; simp; omega), hb⟩

end Go.Proofs.Ytdhojfkdbpghmaa