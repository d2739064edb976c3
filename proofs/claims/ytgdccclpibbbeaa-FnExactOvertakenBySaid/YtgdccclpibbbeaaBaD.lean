/- Arrivals and ticks: contracts of areMarked, sentFits and WaitsIn, the program's and the reference's; the law's walk. -/
import Derived.Test.YtgdccclpibbbeaaBaC
import Derived.Deep.RegionHeld3
namespace Go.Proofs.Ytgdccclpibbbeaa
open Go.RowKit


/-! ### Rows whose elements are good and whose keys do not fall -/
def stepB {α : Type} (ok : α → Bool) (key : α → Int) (xs : List α) (k : Nat) : Bool :=
  match xs[k]? with
  | none => true
  | some x => ok x && (match k with
    | 0 => true
    | j + 1 => match xs[j]? with
      | none => true
      | some y => decide (key y ≤ key x))
def chainB {α : Type} (ok : α → Bool) (key : α → Int) (xs : List α) : Bool := (List.range xs.length).all (stepB ok key xs)
theorem chain_false {α : Type} {ok : α → Bool} {key : α → Int} {xs : List α} {k : Nat} (hk : k < xs.length) (h : stepB ok key xs k = false) : chainB ok key xs = false := by
  unfold chainB
  rw [List.all_eq_false]
  exact ⟨k, List.mem_range.2 hk, by simp [h]⟩
theorem chain_true {α : Type} {ok : α → Bool} {key : α → Int} {xs : List α} (h : ∀ k, k < xs.length → stepB ok key xs k = true) : chainB ok key xs = true := by
  unfold chainB
  rw [List.all_eq_true]
  exact fun k hk => h k (List.mem_range.1 hk)
theorem chain_at {α : Type} {ok : α → Bool} {key : α → Int} {xs : List α} (h : chainB ok key xs = true) {k : Nat} {x : α} (hx : xs[k]? = some x) : ok x = true ∧ ∀ j y, k = j + 1 → xs[j]? = some y → key y ≤ key x := by
  unfold chainB at h
  have hk : k < xs.length := (List.getElem?_eq_some_iff.1 hx).1
  have h1 := List.all_eq_true.1 h k (List.mem_range.2 hk)
  unfold stepB at h1
  rw [hx] at h1
  simp only [Bool.and_eq_true] at h1
  refine ⟨h1.1, fun j y hj hy => ?_⟩
  subst hj
  have h2 := h1.2
  simp only [hy, decide_eq_true_eq] at h2
  exact h2
theorem step_bad {α : Type} {ok : α → Bool} {key : α → Int} {xs : List α} {k : Nat} {x : α} (hx : xs[k]? = some x) (h : ok x = false) : stepB ok key xs k = false := by simp [stepB, hx, h]
theorem step_zero {α : Type} {ok : α → Bool} {key : α → Int} {xs : List α} {x : α} (hx : xs[0]? = some x) (h : ok x = true) : stepB ok key xs 0 = true := by simp [stepB, hx, h]
theorem step_succ {α : Type} {ok : α → Bool} {key : α → Int} {xs : List α} {j : Nat} {x y : α} (hx : xs[j + 1]? = some x) (hy : xs[j]? = some y) (h : ok x = true) : stepB ok key xs (j + 1) = decide (key y ≤ key x) := by simp [stepB, hx, hy, h]

def ChainRel {α : Type} (w : World) (n : Nat) (ok : α → Bool) (key : α → Int) (xs : List α) (i : Value) (wr : World) : Prop :=
  ∃ k : Nat, k ≤ n ∧ i = .int .i64 k ∧ (∀ j, j < k → stepB ok key xs j = true) ∧ Below w.heap.size w wr
theorem chainRel_zero {α : Type} {w wr : World} {n k : Nat} {ok : α → Bool} {key : α → Int} {xs : List α} {x : α} (hk : k = 0) (hx : xs[k]? = some x) (h : ok x = true) (hlt : k < n) (hb : Below w.heap.size w wr) : ChainRel w n ok key xs (.int .i64 ((k : Int) + 1)) wr := by
  subst hk
  refine ⟨1, by omega, by simp, fun j hj => ?_, hb⟩
  obtain rfl : j = 0 := by omega
  exact step_zero hx h
theorem chainRel_succ {α : Type} {w wr : World} {n k j : Nat} {ok : α → Bool} {key : α → Int} {xs : List α} {x y : α} (hk : k = j + 1) (hx : xs[k]? = some x) (hy : xs[j]? = some y) (h : ok x = true) (hle : key y ≤ key x)
    (hch : ∀ j, j < k → stepB ok key xs j = true) (hlt : k < n) (hb : Below w.heap.size w wr) : ChainRel w n ok key xs (.int .i64 ((k : Int) + 1)) wr := by
  refine ⟨k + 1, by omega, by simp, fun i hi => ?_, hb⟩
  by_cases hik : i = k
  · subst hik
    subst hk
    rw [step_succ hx hy h]
    simpa using hle
  · exact hch i (by omega)
theorem step_down {α : Type} {ok : α → Bool} {key : α → Int} {xs : List α} {k j : Nat} {x y : α} (hk : k = j + 1) (hx : xs[k]? = some x) (hy : xs[j]? = some y) (hle : key x < key y) : stepB ok key xs k = false := by
  subst hk
  simp [stepB, hx, hy]
  intro _; omega

def markedOk (x : Marked) : Bool := inB x.tick 0 100000 && inB x.mark 0 65535
def arrB (xs : List Marked) : Bool := chainB markedOk Marked.tick xs && decide (xs.length ≤ 40)
theorem markedOk_bad1 {x : Marked} (h : inB x.tick 0 100000 = false) : markedOk x = false := by simp [markedOk, h]
theorem markedOk_bad2 {x : Marked} (h : inB x.mark 0 65535 = false) : markedOk x = false := by simp [markedOk, h]
theorem markedOk_mk {x : Marked} (h1 : inB x.tick 0 100000 = true) (h2 : inB x.mark 0 65535 = true) : markedOk x = true := by simp [markedOk, h1, h2]
theorem arr_at {xs : List Marked} (h : arrB xs = true) {k : Nat} {x : Marked} (hx : xs[k]? = some x) : (0 ≤ x.tick ∧ x.tick ≤ 100000) ∧ (0 ≤ x.mark ∧ x.mark ≤ 65535) := by
  simp only [arrB, Bool.and_eq_true] at h
  have h1 := (chain_at h.1 hx).1
  simpa only [markedOk, Bool.and_eq_true, inB_iff] using h1
theorem arr_len {xs : List Marked} (h : arrB xs = true) : xs.length ≤ 40 := by simp only [arrB, Bool.and_eq_true, decide_eq_true_eq] at h; exact h.2
def fitB (t : Int) (x : Marked) : Bool := (t == -1) || inB t x.tick 200000
def fitAt (xs : List Marked) (ss : List Int) (j : Nat) : Bool := match ss[j]?, xs[j]? with
  | some t, some x => fitB t x
  | _, _ => true
def sentB (xs : List Marked) (ss : List Int) : Bool := decide (ss.length = xs.length) && (List.range ss.length).all (fitAt xs ss)
theorem sent_false {xs : List Marked} {ss : List Int} {k : Nat} {t : Int} {x : Marked} (ht : ss[k]? = some t) (hx : xs[k]? = some x) (h : fitB t x = false) : sentB xs ss = false := by
  have : ((List.range ss.length).all (fitAt xs ss)) = false := by
    rw [List.all_eq_false]
    exact ⟨k, List.mem_range.2 (List.getElem?_eq_some_iff.1 ht).1, by simp [fitAt, ht, hx, h]⟩
  simp [sentB, this]
theorem sent_true {xs : List Marked} {ss : List Int} (hl : ss.length = xs.length) (h : ∀ k, k < ss.length → fitAt xs ss k = true) : sentB xs ss = true := by
  simp only [sentB, hl, decide_true, Bool.true_and]
  rw [List.all_eq_true]
  exact fun k hk => h k (by rw [hl]; exact List.mem_range.1 hk)
theorem sent_at {xs : List Marked} {ss : List Int} (h : sentB xs ss = true) {k : Nat} {t : Int} {x : Marked} (ht : ss[k]? = some t) (hx : xs[k]? = some x) : t = -1 ∨ (x.tick ≤ t ∧ t ≤ 200000) := by
  simp only [sentB, Bool.and_eq_true] at h
  have h1 := List.all_eq_true.1 h.2 k (List.mem_range.2 (List.getElem?_eq_some_iff.1 ht).1)
  simpa [fitAt, ht, hx, fitB, inB] using h1
theorem sent_len {xs : List Marked} {ss : List Int} (h : sentB xs ss = true) : ss.length = xs.length := by simp only [sentB, Bool.and_eq_true, decide_eq_true_eq] at h; exact h.1
def FitRel (n : Nat) (xs : List Marked) (ss : List Int) (i : Value) : Prop := ∃ k : Nat, k ≤ n ∧ i = .int .i64 k ∧ ∀ j, j < k → fitAt xs ss j = true
theorem fitRel_step {n k : Nat} {xs : List Marked} {ss : List Int} {t : Int} {x : Marked} (hlt : k < n) (ht : ss[k]? = some t) (hx : xs[k]? = some x) (h : fitB t x = true) (hall : ∀ j, j < k → fitAt xs ss j = true) : FitRel n xs ss (.int .i64 ((k : Int) + 1)) := by
  refine ⟨k + 1, by omega, by simp, fun j hj => ?_⟩
  by_cases hjk : j = k
  · subst hjk; simp [fitAt, ht, hx, h]
  · exact hall j (by omega)

set_option maxHeartbeats 400000 in
theorem isTicks_any (n : Int) (w : World) :
    Calls Try.prog 57 #[.int .i64 n] w fun e w' => e = .returned (.bool (inB n 0 100000)) ∧ w = w' := by
  go_enter Try.func57, Try.ntmps57
  go_wp2
  all_goals (go_ret; simp [inB, *] <;> omega)

set_option maxHeartbeats 2000000 in
theorem areMarked_any (A : Option Addr) (n c : Nat) (xs : List Marked) (w : World) (hn : n ≤ 1048576) (hr : Rd w 2 A n (xs.flatMap encMarked)) :
    Calls Try.prog 45 #[.slice A n c] w fun e w' => e = .returned (.bool (arrB xs)) ∧ Below w.heap.size w w' := by
  have hl : xs.length = n := by have h1 := hr.1; rw [flat_len encMarked 2 encMarked_len] at h1; omega
  have HL := Lib.hid hl
  clear hl
  go_enter Try.func45, Try.ntmps45
  go_wp2_with fail
  go_loopw [7] (ChainRel w n markedOk Marked.tick xs) (fun i _ => n - (intOf i).toNat)
  case atStart => exact ⟨0, Nat.zero_le _, rfl, fun j hj => by omega, ext_refl w⟩
  case round =>
    obtain ⟨k, hk, rfl, hch, hb⟩ := hrel
    have HC := Lib.hid hch
    clear hch
    by_cases hlt : k < n
    · obtain ⟨b, o, rfl, hbl, hcell⟩ := hr.2 (by omega)
      have hblr : b < wr.heap.size := Nat.lt_of_lt_of_le hbl hb.size
      have hlx : k < xs.length := by rw [HL.out]; exact hlt
      have hx : xs[k]? = some xs[k] := List.getElem?_eq_getElem hlx
      generalize xs[k] = x at hx
      have c0 : wr.cell? ⟨b, o + (k * 2 + 0), none⟩ = some (.int .i64 x.tick) := (hb.cell (p := ⟨b, o + (k * 2 + 0), none⟩) hbl).trans (hcell _ _ ((flat_get encMarked 2 encMarked_len xs k 0 x hx (by omega)).trans rfl))
      have c1 : wr.cell? ⟨b, o + (k * 2 + 1), none⟩ = some (.int .i64 x.mark) := (hb.cell (p := ⟨b, o + (k * 2 + 1), none⟩) hbl).trans (hcell _ _ ((flat_get encMarked 2 encMarked_len xs k 1 x hx (by omega)).trans rfl))
      simp only [Nat.add_zero, ← Nat.add_assoc] at c0 c1
      have HX := Lib.hid hx
      have HCELL := Lib.hid hcell
      clear hx hcell
      cases h1 : inB x.tick 0 100000 with
      | false =>
        go_wp2_with fail
        go_quiet ((first | (go_at_call 57; exact quiet_left (isTicks_any _ _)) | (go_at_call 40; exact quiet_left (isMark_any _ _))))
        go_wp2_with fail
        go_ret
        exact ⟨ret_bool (by rw [arrB, chain_false hlx (step_bad HX.out (markedOk_bad1 h1))]; rfl), ext_drewN (ext_alloc hb _) _⟩
      | true =>
        cases h2 : inB x.mark 0 65535 with
        | false =>
          go_wp2_with fail
          go_quiet ((first | (go_at_call 57; exact quiet_left (isTicks_any _ _)) | (go_at_call 40; exact quiet_left (isMark_any _ _))))
          go_wp2_with fail
          go_ret
          exact ⟨ret_bool (by rw [arrB, chain_false hlx (step_bad HX.out (markedOk_bad2 h2))]; rfl), ext_drewN (ext_alloc hb _) _⟩
        | true =>
          have hok : markedOk x = true := markedOk_mk h1 h2
          have HOK := Lib.hid hok
          clear hok
          by_cases hk0 : k = 0
          · have g0 : decide (0 < k) = false := by simp; omega
            have HK := Lib.hid hk0
            clear hk0
            go_wp2_with fail
            go_quiet ((first | (go_at_call 57; exact quiet_left (isTicks_any _ _)) | (go_at_call 40; exact quiet_left (isMark_any _ _))))
            go_wp2_with fail
            go_roundw
            case rel => exact chainRel_zero HK.out HX.out HOK.out hlt (ext_drewN (ext_alloc hb _) _)
            case measure => simp [intOf]; omega
          · have hpos : 0 < k := by omega
            have g0 : decide (0 < k) = true := by simp; omega
            have hkj : k = (k - 1) + 1 := by omega
            have hlx' : k - 1 < xs.length := by omega
            have hy : xs[k - 1]? = some xs[k - 1] := List.getElem?_eq_getElem hlx'
            generalize xs[k - 1] = y at hy
            have d0 : wr.cell? ⟨b, o + ((k - 1) * 2 + 0), none⟩ = some (.int .i64 y.tick) := (hb.cell (p := ⟨b, o + ((k - 1) * 2 + 0), none⟩) hbl).trans (HCELL.out _ _ ((flat_get encMarked 2 encMarked_len xs (k - 1) 0 y hy (by omega)).trans rfl))
            simp only [Nat.add_zero] at d0
            have HY := Lib.hid hy
            have HKJ := Lib.hid hkj
            clear hy hkj hk0 hlx'
            have i0 : (0 : Int) ≤ (k : Int) - 1 := by omega
            have i1 : (1 : Int) ≤ (k : Int) := by omega
            have i2 : ((k : Int) - 1).toNat = k - 1 := by omega
            have i3 : (k : Int) - 1 < (n : Int) := by omega
            cases g1 : decide (x.tick < y.tick) with
            | false =>
              have hle : y.tick ≤ x.tick := by have := of_decide_eq_false g1; omega
              have hwk := wrap_in ((k : Int) - 1) (by omega) (by omega)
              go_wp2_with fail
              go_quiet ((first | (go_at_call 57; exact quiet_left (isTicks_any _ _)) | (go_at_call 40; exact quiet_left (isMark_any _ _))))
              clear hwk i0 i1 i2 i3
              go_wp2_with fail
              go_roundw
              case rel => exact chainRel_succ HKJ.out HX.out HY.out HOK.out hle HC.out hlt (ext_drewN (ext_alloc hb _) _)
              case measure => simp [intOf]; omega
            | true =>
              have hgt : x.tick < y.tick := by have := of_decide_eq_true g1; omega
              have HG := Lib.hid hgt
              have hwk := wrap_in ((k : Int) - 1) (by omega) (by omega)
              go_wp2_with fail
              go_quiet ((first | (go_at_call 57; exact quiet_left (isTicks_any _ _)) | (go_at_call 40; exact quiet_left (isMark_any _ _))))
              clear hwk i0 i1 i2 i3
              go_wp2_with fail
              go_ret
              exact ⟨ret_bool (by rw [arrB, chain_false hlx (step_down (key := Marked.tick) HKJ.out HX.out HY.out HG.out)]; rfl), ext_drewN (ext_alloc hb _) _⟩
    · go_wp2_with fail
      go_ret
      exact ⟨ret_bool (by rw [arrB, chain_true (fun j hj => HC.out j (by rw [HL.out] at hj; omega)), HL.out, Bool.true_and, Bool.eq_iff_iff]; simp; omega), hb⟩

set_option maxHeartbeats 2000000 in
theorem bdArrivals_any (A : Option Addr) (n c : Nat) (xs : List Marked) (w : World) (hn : n ≤ 1048576) (hr : Rd w 2 A n (xs.flatMap encMarked)) :
    Calls Try.prog 56 #[.slice A n c] w fun e w' => e = .returned (.bool (arrB xs)) ∧ Below w.heap.size w w' := by
  have hl : xs.length = n := by have h1 := hr.1; rw [flat_len encMarked 2 encMarked_len] at h1; omega
  have HL := Lib.hid hl
  clear hl
  go_enter Try.func56, Try.ntmps56
  go_wp2_with fail
  go_loopw [7] (ChainRel w n markedOk Marked.tick xs) (fun i _ => n - (intOf i).toNat)
  case atStart => exact ⟨0, Nat.zero_le _, rfl, fun j hj => by omega, ext_refl w⟩
  case round =>
    obtain ⟨k, hk, rfl, hch, hb⟩ := hrel
    have HC := Lib.hid hch
    clear hch
    by_cases hlt : k < n
    · obtain ⟨b, o, rfl, hbl, hcell⟩ := hr.2 (by omega)
      have hblr : b < wr.heap.size := Nat.lt_of_lt_of_le hbl hb.size
      have hlx : k < xs.length := by rw [HL.out]; exact hlt
      have hx : xs[k]? = some xs[k] := List.getElem?_eq_getElem hlx
      generalize xs[k] = x at hx
      have c0 : wr.cell? ⟨b, o + (k * 2 + 0), none⟩ = some (.int .i64 x.tick) := (hb.cell (p := ⟨b, o + (k * 2 + 0), none⟩) hbl).trans (hcell _ _ ((flat_get encMarked 2 encMarked_len xs k 0 x hx (by omega)).trans rfl))
      have c1 : wr.cell? ⟨b, o + (k * 2 + 1), none⟩ = some (.int .i64 x.mark) := (hb.cell (p := ⟨b, o + (k * 2 + 1), none⟩) hbl).trans (hcell _ _ ((flat_get encMarked 2 encMarked_len xs k 1 x hx (by omega)).trans rfl))
      simp only [Nat.add_zero, ← Nat.add_assoc] at c0 c1
      have HX := Lib.hid hx
      have HCELL := Lib.hid hcell
      clear hx hcell
      cases h1 : inB x.tick 0 100000 with
      | false =>
        go_wp2_with fail
        go_quiet ((first | (go_at_call 52; exact quiet_left (l1In_any _ _ _ _)) | (go_at_call 39; exact quiet_left (bdMark_any _ _))))
        go_wp2_with fail
        go_ret
        exact ⟨ret_bool (by rw [arrB, chain_false hlx (step_bad HX.out (markedOk_bad1 h1))]; rfl), ext_drewN (ext_alloc hb _) _⟩
      | true =>
        cases h2 : inB x.mark 0 65535 with
        | false =>
          go_wp2_with fail
          go_quiet ((first | (go_at_call 52; exact quiet_left (l1In_any _ _ _ _)) | (go_at_call 39; exact quiet_left (bdMark_any _ _))))
          go_wp2_with fail
          go_ret
          exact ⟨ret_bool (by rw [arrB, chain_false hlx (step_bad HX.out (markedOk_bad2 h2))]; rfl), ext_drewN (ext_alloc hb _) _⟩
        | true =>
          have hok : markedOk x = true := markedOk_mk h1 h2
          have HOK := Lib.hid hok
          clear hok
          by_cases hk0 : k = 0
          · have g0 : decide (0 < k) = false := by simp; omega
            have HK := Lib.hid hk0
            clear hk0
            go_wp2_with fail
            go_quiet ((first | (go_at_call 52; exact quiet_left (l1In_any _ _ _ _)) | (go_at_call 39; exact quiet_left (bdMark_any _ _))))
            go_wp2_with fail
            go_roundw
            case rel => exact chainRel_zero HK.out HX.out HOK.out hlt (ext_drewN (ext_alloc hb _) _)
            case measure => simp [intOf]; omega
          · have hpos : 0 < k := by omega
            have g0 : decide (0 < k) = true := by simp; omega
            have hkj : k = (k - 1) + 1 := by omega
            have hlx' : k - 1 < xs.length := by omega
            have hy : xs[k - 1]? = some xs[k - 1] := List.getElem?_eq_getElem hlx'
            generalize xs[k - 1] = y at hy
            have d0 : wr.cell? ⟨b, o + ((k - 1) * 2 + 0), none⟩ = some (.int .i64 y.tick) := (hb.cell (p := ⟨b, o + ((k - 1) * 2 + 0), none⟩) hbl).trans (HCELL.out _ _ ((flat_get encMarked 2 encMarked_len xs (k - 1) 0 y hy (by omega)).trans rfl))
            simp only [Nat.add_zero] at d0
            have HY := Lib.hid hy
            have HKJ := Lib.hid hkj
            clear hy hkj hk0 hlx'
            have i0 : (0 : Int) ≤ (k : Int) - 1 := by omega
            have i1 : (1 : Int) ≤ (k : Int) := by omega
            have i2 : ((k : Int) - 1).toNat = k - 1 := by omega
            have i3 : (k : Int) - 1 < (n : Int) := by omega
            cases g1 : decide (x.tick < y.tick) with
            | false =>
              have hle : y.tick ≤ x.tick := by have := of_decide_eq_false g1; omega
              have hwk := wrap_in ((k : Int) - 1) (by omega) (by omega)
              go_wp2_with fail
              go_quiet ((first | (go_at_call 52; exact quiet_left (l1In_any _ _ _ _)) | (go_at_call 39; exact quiet_left (bdMark_any _ _))))
              clear hwk i0 i1 i2 i3
              go_wp2_with fail
              go_roundw
              case rel => exact chainRel_succ HKJ.out HX.out HY.out HOK.out hle HC.out hlt (ext_drewN (ext_alloc hb _) _)
              case measure => simp [intOf]; omega
            | true =>
              have hgt : x.tick < y.tick := by have := of_decide_eq_true g1; omega
              have HG := Lib.hid hgt
              have hwk := wrap_in ((k : Int) - 1) (by omega) (by omega)
              go_wp2_with fail
              go_quiet ((first | (go_at_call 52; exact quiet_left (l1In_any _ _ _ _)) | (go_at_call 39; exact quiet_left (bdMark_any _ _))))
              clear hwk i0 i1 i2 i3
              go_wp2_with fail
              go_ret
              exact ⟨ret_bool (by rw [arrB, chain_false hlx (step_down (key := Marked.tick) HKJ.out HX.out HY.out HG.out)]; rfl), ext_drewN (ext_alloc hb _) _⟩
    · go_wp2_with fail
      go_ret
      exact ⟨ret_bool (by rw [arrB, chain_true (fun j hj => HC.out j (by rw [HL.out] at hj; omega)), HL.out, Bool.true_and, Bool.eq_iff_iff]; simp; omega), hb⟩

set_option maxHeartbeats 2000000 in
theorem sentFits_any (A : Option Addr) (n c : Nat) (xs : List Marked) (B : Option Addr) (m d : Nat) (ss : List Int) (w : World) (hn : n ≤ 1048576) (hr : Rd w 2 A n (xs.flatMap encMarked)) (hm : m ≤ 1048576) (hs : Rd w 1 B m (ss.map (Value.int .i64))) :
    Calls Try.prog 46 #[.slice A n c, .slice B m d] w fun e w' => e = .returned (.bool (sentB xs ss)) ∧ w = w' := by
  have hl : xs.length = n := by have h1 := hr.1; rw [flat_len encMarked 2 encMarked_len] at h1; omega
  have hlc := hs.len1
  by_cases hmn : m = n
  · subst hmn
    have HL := Lib.hid hl
    have HLC := Lib.hid hlc
    clear hl hlc
    go_enter Try.func46, Try.ntmps46
    go_wp2_with fail
    go_loop [14] (FitRel m xs ss) (fun i => m - (intOf i).toNat)
    case atStart => exact ⟨0, Nat.zero_le _, rfl, fun j hj => by omega⟩
    case round =>
      obtain ⟨k, hk, rfl, hall⟩ := hrel
      by_cases hlt : k < m
      · obtain ⟨b, o, t, rfl, hbl, ht, hc⟩ := hs.int k hlt
        obtain ⟨b2, o2, rfl, hbl2, hcell⟩ := hr.2 (by omega)
        have hlx : k < xs.length := by rw [HL.out]; exact hlt
        have hx : xs[k]? = some xs[k] := List.getElem?_eq_getElem hlx
        generalize xs[k] = x at hx
        have c0 : w.cell? ⟨b2, o2 + (k * 2 + 0), none⟩ = some (.int .i64 x.tick) := hcell _ _ ((flat_get encMarked 2 encMarked_len xs k 0 x hx (by omega)).trans rfl)
        simp only [Nat.add_zero] at c0
        have HT := Lib.hid ht
        have HX := Lib.hid hx
        have HA := Lib.hid hall
        clear ht hx hall hcell
        by_cases h1 : t = -1
        · subst h1
          go_wp2_with fail
          go_round
          case rel => exact fitRel_step hlt HT.out HX.out rfl HA.out
          case measure => simp [intOf]; omega
        · have g1 : (t != -1) = true := by simpa using h1
          by_cases h2 : t < x.tick
          · have HF := Lib.hid (show fitB t x = false by simp [fitB, inB, h1]; omega)
            clear h1
            go_wp2_with fail
            go_ret
            exact ⟨ret_bool (by rw [sent_false HT.out HX.out HF.out]), rfl⟩
          · by_cases h3 : 200000 < t
            · have HF := Lib.hid (show fitB t x = false by simp [fitB, inB, h1]; omega)
              clear h1
              go_wp2_with fail
              go_ret
              exact ⟨ret_bool (by rw [sent_false HT.out HX.out HF.out]), rfl⟩
            · have HF := Lib.hid (show fitB t x = true by simp [fitB, inB, h1]; omega)
              clear h1
              go_wp2_with fail
              go_round
              case rel => exact fitRel_step hlt HT.out HX.out HF.out HA.out
              case measure => simp [intOf]; omega
      · go_wp2_with fail
        go_ret
        exact ⟨ret_bool (by rw [sent_true (by rw [HL.out, HLC.out]) (fun j hj => hall j (by rw [HLC.out] at hj; omega))]), rfl⟩
  · have g1 : ((m : Int) != (n : Int)) = true := by simp; omega
    have HF := Lib.hid (show sentB xs ss = false by simp [sentB, hl, hlc, hmn])
    clear hmn hl hlc
    go_enter Try.func46, Try.ntmps46
    go_wp2_with fail
    go_ret
    exact ⟨ret_bool (by rw [HF.out]), rfl⟩

end Go.Proofs.Ytgdccclpibbbeaa