/- Events: contracts of the small functions on both sides. -/
import Derived.Test.YtooodokpkmfbiaaEvA
import Derived.Test.YtooodokpkmfbiaaApp
import Derived.Test.YtooodokpkmfbiaaReg
namespace Go.Proofs.Ytooodokpkmfbiaa
open Go.RowKit

theorem five_of {W : World} {g : Nat} {t : TypeId} {a b c d e : Value} (h : Blk W g t [a, b, c, d, e]) : W.cell? ⟨g, 0, none⟩ = some a ∧ W.cell? ⟨g, 1, none⟩ = some b ∧ W.cell? ⟨g, 2, none⟩ = some c ∧ W.cell? ⟨g, 3, none⟩ = some d ∧ W.cell? ⟨g, 4, none⟩ = some e := ⟨h.cell 0, h.cell 1, h.cell 2, h.cell 3, h.cell 4⟩
def hasB (xs : List Int) (p : Int) : Bool := xs.any fun x => x == p
def HasRel (n : Nat) (xs : List Int) (p : Int) (i : Value) : Prop := ∃ k : Nat, k ≤ n ∧ i = .int .i64 k ∧ (xs.take k).any (fun x => x == p) = false
theorem has_true {xs : List Int} {p x : Int} {k : Nat} (hx : xs[k]? = some x) (h : (x == p) = true) : hasB xs p = true := by
  unfold hasB; rw [List.any_eq_true]; exact ⟨x, List.mem_of_getElem? hx, h⟩

set_option maxHeartbeats 1000000 in
theorem l1Has_any (A : Option Addr) (n c : Nat) (xs : List Int) (p : Int) (w : World) (hn : n ≤ 1048576) (hr : Rd w 1 A n (xs.map (Value.int .i64))) :
    Calls Try.prog 32 #[.slice A n c, .int .i64 p] w fun e w' => e = .returned (.bool (hasB xs p)) ∧ w = w' := by
  go_enter Try.func32, Try.ntmps32
  go_wp2_with fail
  go_loop [9] (HasRel n xs p) (fun i => n - (intOf i).toNat)
  case atStart => exact ⟨0, Nat.zero_le _, rfl, by simp⟩
  case round =>
    obtain ⟨k, hk, rfl, ha⟩ := hrel
    by_cases hlt : k < n
    · obtain ⟨b, o, x, rfl, hbl, hx, hc⟩ := hr.int k hlt
      have HX := Lib.hid hx
      have HA := Lib.hid ha
      clear hx ha
      cases hin : (x == p) with
      | true =>
        go_wp2_with fail
        go_ret
        exact ⟨ret_bool (by rw [has_true HX.out hin]), rfl⟩
      | false =>
        go_wp2_with fail
        go_round
        case rel => exact ⟨k + 1, by omega, by go_num, by rw [List.take_add_one, HX.out, List.any_append, HA.out]; simp [hin]⟩
        case measure => simp [intOf]; omega
    · have hl := hr.len1
      have HA := Lib.hid ha
      clear ha
      go_wp2_with fail
      go_ret
      have h2 := HA.out
      rw [List.take_of_length_le (by omega)] at h2
      exact ⟨ret_bool (by unfold hasB; rw [h2]), rfl⟩

set_option maxHeartbeats 400000 in
theorem isEventTick_any (n : Int) (w : World) :
    Calls Try.prog 30 #[.int .i64 n] w fun e w' => e = .returned (.bool (inB n 0 1000000)) ∧ w = w' := by
  go_enter Try.func30, Try.ntmps30
  go_wp2
  all_goals (go_ret; simp [inB, *] <;> omega)

set_option maxHeartbeats 400000 in
theorem isId_any (n : Int) (w : World) :
    Calls Try.prog 29 #[.int .i64 n] w fun e w' => e = .returned (.bool (inB n 1 999)) ∧ w = w' := by
  go_enter Try.func29, Try.ntmps29
  go_wp2
  all_goals (go_ret; simp [inB, *] <;> omega)

set_option maxHeartbeats 400000 in
theorem isSize_any (n : Int) (w : World) :
    Calls Try.prog 34 #[.int .i64 n] w fun e w' => e = .returned (.bool (inB n 1 1500)) ∧ w = w' := by
  go_enter Try.func34, Try.ntmps34
  go_wp2
  all_goals (go_ret; simp [inB, *] <;> omega)

set_option maxHeartbeats 400000 in
theorem tcClass_any (n : Int) (w : World) :
    Calls Try.prog 26 #[.int .i64 n] w fun e w' => e = .returned (.bool (inB n 1 999)) ∧ w = w' := by
  go_enter Try.func26, Try.ntmps26
  go_wp2_with (go_at_call 27; refine (l1In_any _ _ _ _).mono ?_; rintro e w' ⟨rfl, rfl⟩)
  go_ret
  exact ⟨rfl, rfl⟩

theorem evOne_b1 {e : Event} {t : Int} (h : inB e.tick t 1000000 = false) : evOne e t = false := by simp [evOne, h]
theorem evOne_b2 {e : Event} {t : Int} (h : inB e.kind 1 4 = false) : evOne e t = false := by simp [evOne, h]
theorem evOne_b3 {e : Event} {t : Int} (h : inB e.packet 1 100000 = false) : evOne e t = false := by simp [evOne, h]
theorem evOne_b4 {e : Event} {t : Int} (h : inB e.size 1 1500 = false) : evOne e t = false := by simp [evOne, h]
theorem evOne_3 {e : Event} {t : Int} (h1 : inB e.tick t 1000000 = true) (h2 : inB e.kind 1 4 = true) (h3 : inB e.packet 1 100000 = true) (h4 : inB e.size 1 1500 = true) (h5 : (e.kind == 3) = true) : evOne e t = (e.cls == 0) := by
  have : e.kind = 3 := by simpa using h5
  unfold evOne
  rw [h1, h2, h3, h4, if_pos this]
  rfl
theorem evOne_n {e : Event} {t : Int} (h1 : inB e.tick t 1000000 = true) (h2 : inB e.kind 1 4 = true) (h3 : inB e.packet 1 100000 = true) (h4 : inB e.size 1 1500 = true) (h5 : (e.kind == 3) = false) : evOne e t = inB e.cls 1 999 := by
  have : ¬ e.kind = 3 := by simpa using h5
  unfold evOne
  rw [h1, h2, h3, h4, if_neg this]
  rfl

set_option maxRecDepth 100000 in
set_option maxHeartbeats 4000000 in
theorem eventRight_any (e : Event) (w : World) :
    Calls Try.prog 24 #[.agg #[.int .i64 e.tick, .int .i64 e.kind, .int .i64 e.cls, .int .i64 e.packet, .int .i64 e.size]] w fun e' w' => e' = .returned (.bool (evOne e 0)) ∧ Below w.heap.size w w' := by
  cases h1 : inB e.tick 0 1000000 with
  | false =>
    rw [evOne_b1 h1]
    go_enter Try.func24, Try.ntmps24
    go_wp2_with (first | (go_at_call 30; refine (isEventTick_any _ _).mono ?_; rintro e w' ⟨rfl, rfl⟩) | (go_at_call 29; refine (isId_any _ _).mono ?_; rintro e w' ⟨rfl, rfl⟩) | (go_at_call 34; refine (isSize_any _ _).mono ?_; rintro e w' ⟨rfl, rfl⟩))
    go_ret
    exact ⟨rfl, ext_alloc (ext_refl w) _⟩
  | true =>
    cases h2 : inB e.kind 1 4 with
    | false =>
      rw [evOne_b2 h2]
      have q := inB_not h2
      by_cases hq : e.kind < 1
      · go_enter Try.func24, Try.ntmps24
        go_wp2_with (first | (go_at_call 30; refine (isEventTick_any _ _).mono ?_; rintro e w' ⟨rfl, rfl⟩) | (go_at_call 29; refine (isId_any _ _).mono ?_; rintro e w' ⟨rfl, rfl⟩) | (go_at_call 34; refine (isSize_any _ _).mono ?_; rintro e w' ⟨rfl, rfl⟩))
        all_goals first | exact (show False by omega).elim | (go_ret; exact ⟨rfl, ext_alloc (ext_refl w) _⟩)
      · go_enter Try.func24, Try.ntmps24
        go_wp2_with (first | (go_at_call 30; refine (isEventTick_any _ _).mono ?_; rintro e w' ⟨rfl, rfl⟩) | (go_at_call 29; refine (isId_any _ _).mono ?_; rintro e w' ⟨rfl, rfl⟩) | (go_at_call 34; refine (isSize_any _ _).mono ?_; rintro e w' ⟨rfl, rfl⟩))
        all_goals first | exact (show False by omega).elim | (go_ret; exact ⟨rfl, ext_alloc (ext_refl w) _⟩)
    | true =>
      have qh2 := inB_iff.1 h2
      have ah2 := qh2.1
      have bh2 := qh2.2
      have dh2 : decide (e.kind < 1) = false := by simp; omega
      have fh2 : decide (4 < e.kind) = false := by simp; omega
      cases h3 : inB e.packet 1 100000 with
      | false =>
        rw [evOne_b3 h3]
        have q := inB_not h3
        by_cases hq : e.packet < 1
        · go_enter Try.func24, Try.ntmps24
          go_wp2_with (first | (go_at_call 30; refine (isEventTick_any _ _).mono ?_; rintro e w' ⟨rfl, rfl⟩) | (go_at_call 29; refine (isId_any _ _).mono ?_; rintro e w' ⟨rfl, rfl⟩) | (go_at_call 34; refine (isSize_any _ _).mono ?_; rintro e w' ⟨rfl, rfl⟩))
          all_goals first | exact (show False by omega).elim | (go_ret; exact ⟨rfl, ext_alloc (ext_refl w) _⟩)
        · go_enter Try.func24, Try.ntmps24
          go_wp2_with (first | (go_at_call 30; refine (isEventTick_any _ _).mono ?_; rintro e w' ⟨rfl, rfl⟩) | (go_at_call 29; refine (isId_any _ _).mono ?_; rintro e w' ⟨rfl, rfl⟩) | (go_at_call 34; refine (isSize_any _ _).mono ?_; rintro e w' ⟨rfl, rfl⟩))
          all_goals first | exact (show False by omega).elim | (go_ret; exact ⟨rfl, ext_alloc (ext_refl w) _⟩)
      | true =>
        have qh3 := inB_iff.1 h3
        have ah3 := qh3.1
        have bh3 := qh3.2
        have dh3 : decide (e.packet < 1) = false := by simp; omega
        have fh3 : decide (100000 < e.packet) = false := by simp; omega
        cases h4 : inB e.size 1 1500 with
        | false =>
          rw [evOne_b4 h4]
          go_enter Try.func24, Try.ntmps24
          go_wp2_with (first | (go_at_call 30; refine (isEventTick_any _ _).mono ?_; rintro e w' ⟨rfl, rfl⟩) | (go_at_call 29; refine (isId_any _ _).mono ?_; rintro e w' ⟨rfl, rfl⟩) | (go_at_call 34; refine (isSize_any _ _).mono ?_; rintro e w' ⟨rfl, rfl⟩))
          go_ret
          exact ⟨rfl, ext_alloc (ext_refl w) _⟩
        | true =>
          cases h5 : (e.kind == 3) with
          | true =>
            have HE := Lib.hid (evOne_3 (t := 0) h1 h2 h3 h4 h5)
            go_enter Try.func24, Try.ntmps24
            go_wp2_with (first | (go_at_call 30; refine (isEventTick_any _ _).mono ?_; rintro e w' ⟨rfl, rfl⟩) | (go_at_call 29; refine (isId_any _ _).mono ?_; rintro e w' ⟨rfl, rfl⟩) | (go_at_call 34; refine (isSize_any _ _).mono ?_; rintro e w' ⟨rfl, rfl⟩))
            go_ret
            exact ⟨ret_bool (by rw [HE.out]), ext_alloc (ext_refl w) _⟩
          | false =>
            have HE := Lib.hid (evOne_n (t := 0) h1 h2 h3 h4 h5)
            go_enter Try.func24, Try.ntmps24
            go_wp2_with (first | (go_at_call 30; refine (isEventTick_any _ _).mono ?_; rintro e w' ⟨rfl, rfl⟩) | (go_at_call 29; refine (isId_any _ _).mono ?_; rintro e w' ⟨rfl, rfl⟩) | (go_at_call 34; refine (isSize_any _ _).mono ?_; rintro e w' ⟨rfl, rfl⟩))
            go_ret
            exact ⟨ret_bool (by rw [HE.out]), ext_alloc (ext_refl w) _⟩

set_option maxRecDepth 100000 in
set_option maxHeartbeats 4000000 in
theorem tcOne_any (e : Event) (t : Int) (w : World) :
    Calls Try.prog 33 #[.agg #[.int .i64 e.tick, .int .i64 e.kind, .int .i64 e.cls, .int .i64 e.packet, .int .i64 e.size], .int .i64 t] w fun e' w' => e' = .returned (.bool (evOne e t)) ∧ Below w.heap.size w w' := by
  cases h1 : inB e.tick t 1000000 with
  | false =>
    rw [evOne_b1 h1]
    go_enter Try.func33, Try.ntmps33
    go_wp2_with (go_at_call 27; refine (l1In_any _ _ _ _).mono ?_; rintro e w' ⟨rfl, rfl⟩)
    go_ret
    exact ⟨rfl, ext_alloc (ext_refl w) _⟩
  | true =>
    cases h2 : inB e.kind 1 4 with
    | false =>
      rw [evOne_b2 h2]
      go_enter Try.func33, Try.ntmps33
      go_wp2_with (go_at_call 27; refine (l1In_any _ _ _ _).mono ?_; rintro e w' ⟨rfl, rfl⟩)
      go_ret
      exact ⟨rfl, ext_alloc (ext_refl w) _⟩
    | true =>
      cases h3 : inB e.packet 1 100000 with
      | false =>
        rw [evOne_b3 h3]
        go_enter Try.func33, Try.ntmps33
        go_wp2_with (go_at_call 27; refine (l1In_any _ _ _ _).mono ?_; rintro e w' ⟨rfl, rfl⟩)
        go_ret
        exact ⟨rfl, ext_alloc (ext_refl w) _⟩
      | true =>
        cases h4 : inB e.size 1 1500 with
        | false =>
          rw [evOne_b4 h4]
          go_enter Try.func33, Try.ntmps33
          go_wp2_with (go_at_call 27; refine (l1In_any _ _ _ _).mono ?_; rintro e w' ⟨rfl, rfl⟩)
          go_ret
          exact ⟨rfl, ext_alloc (ext_refl w) _⟩
        | true =>
          cases h5 : (e.kind == 3) with
          | true =>
            have HE := Lib.hid (evOne_3 (t := t) h1 h2 h3 h4 h5)
            go_enter Try.func33, Try.ntmps33
            go_wp2_with (go_at_call 27; refine (l1In_any _ _ _ _).mono ?_; rintro e w' ⟨rfl, rfl⟩)
            go_ret
            exact ⟨ret_bool (by rw [HE.out]), ext_alloc (ext_refl w) _⟩
          | false =>
            have HE := Lib.hid (evOne_n (t := t) h1 h2 h3 h4 h5)
            go_enter Try.func33, Try.ntmps33
            go_wp2_with (go_at_call 27; refine (l1In_any _ _ _ _).mono ?_; rintro e w' ⟨rfl, rfl⟩)
            go_ret
            exact ⟨ret_bool (by rw [HE.out]), ext_alloc (ext_refl w) _⟩

def ArrRel (w : World) (n : Nat) (l : List Event) (p : Int) (i : Value) (wr : World) : Prop := ∃ k : Nat, k ≤ n ∧ i = .int .i64 k ∧ (∀ j, j < k → ∀ y, l[j]? = some y → isArr p y = false) ∧ Below w.heap.size w wr
theorem arrRel_step {w wr : World} {n k : Nat} {l : List Event} {p : Int} {x : Event} (hx : l[k]? = some x) (hk : k < n) (hno : ∀ j, j < k → ∀ y, l[j]? = some y → isArr p y = false) (h : isArr p x = false) (hb : Below w.heap.size w wr) : ArrRel w n l p (.int .i64 ((k : Int) + 1)) wr :=
  ⟨k + 1, by omega, by simp, fun j hj y hy => by
    by_cases hjk : j = k
    · subst hjk; rw [hx] at hy; rw [← Option.some.inj hy]; exact h
    · exact hno j (by omega) y hy, hb⟩

set_option maxHeartbeats 2000000 in
theorem tcArrival_any (A : Option Addr) (n c : Nat) (l : List Event) (p : Int) (w : World) (hn : n ≤ 1048576) (hr : Rd w 5 A n (l.flatMap encEvent)) :
    Calls Try.prog 31 #[.slice A n c, .int .i64 p] w fun e w' => e = .returned (.int .i64 (arrIdx l p)) ∧ Below w.heap.size w w' := by
  have hl : l.length = n := by have h1 := hr.1; rw [flat_len encEvent 5 encEvent_len] at h1; omega
  have HL := Lib.hid hl
  clear hl
  go_enter Try.func31, Try.ntmps31
  go_wp2_with fail
  go_loopw [9] (ArrRel w n l p) (fun i _ => n - (intOf i).toNat)
  case atStart => exact ⟨0, Nat.zero_le _, rfl, fun j hj => by omega, ext_refl w⟩
  case round =>
    obtain ⟨k, hk, rfl, hno, hb⟩ := hrel
    have HN := Lib.hid hno
    clear hno
    by_cases hlt : k < n
    ·
      obtain ⟨b, o, rfl, hblb, hcellb⟩ := hr.2 (by omega)
      have hblrbx : b < wr.heap.size := Nat.lt_of_lt_of_le hblb hb.size
      have hlxx : k < l.length := by rw [HL.out]; omega
      have hxx : l[k]? = some l[k] := List.getElem?_eq_getElem hlxx
      generalize l[k] = x at hxx
      have c0 : wr.cell? ⟨b, o + (k * 5 + 0), none⟩ = some (.int .i64 x.tick) := (hb.cell (p := ⟨b, o + (k * 5 + 0), none⟩) hblb).trans (hcellb _ _ ((flat_get encEvent 5 encEvent_len l k 0 x hxx (by omega)).trans rfl))
      have c1 : wr.cell? ⟨b, o + (k * 5 + 1), none⟩ = some (.int .i64 x.kind) := (hb.cell (p := ⟨b, o + (k * 5 + 1), none⟩) hblb).trans (hcellb _ _ ((flat_get encEvent 5 encEvent_len l k 1 x hxx (by omega)).trans rfl))
      have c2 : wr.cell? ⟨b, o + (k * 5 + 2), none⟩ = some (.int .i64 x.cls) := (hb.cell (p := ⟨b, o + (k * 5 + 2), none⟩) hblb).trans (hcellb _ _ ((flat_get encEvent 5 encEvent_len l k 2 x hxx (by omega)).trans rfl))
      have c3 : wr.cell? ⟨b, o + (k * 5 + 3), none⟩ = some (.int .i64 x.packet) := (hb.cell (p := ⟨b, o + (k * 5 + 3), none⟩) hblb).trans (hcellb _ _ ((flat_get encEvent 5 encEvent_len l k 3 x hxx (by omega)).trans rfl))
      have c4 : wr.cell? ⟨b, o + (k * 5 + 4), none⟩ = some (.int .i64 x.size) := (hb.cell (p := ⟨b, o + (k * 5 + 4), none⟩) hblb).trans (hcellb _ _ ((flat_get encEvent 5 encEvent_len l k 4 x hxx (by omega)).trans rfl))
      simp only [Nat.add_zero, ← Nat.add_assoc] at c0 c1 c2 c3 c4
      have HX := Lib.hid hxx
      clear hxx hlxx hcellb
      cases h1 : (x.kind != 4) with
      | false =>
        have HI := Lib.hid (show isArr p x = false by unfold isArr; rw [h1]; rfl)
        go_wp2_with fail
        go_roundw
        case rel => exact arrRel_step HX.out hlt HN.out HI.out (ext_alloc hb _)
        case measure => simp [intOf]; omega
      | true =>
        cases h2 : (x.packet == p) with
        | false =>
          have HI := Lib.hid (show isArr p x = false by unfold isArr; rw [h1, h2]; rfl)
          go_wp2_with fail
          go_roundw
          case rel => exact arrRel_step HX.out hlt HN.out HI.out (ext_alloc hb _)
          case measure => simp [intOf]; omega
        | true =>
          have HI := Lib.hid (show isArr p x = true by unfold isArr; rw [h1, h2]; rfl)
          go_wp2_with fail
          go_ret
          exact ⟨ret_int (by rw [arrIdx_some HX.out HI.out HN.out]), ext_alloc hb _⟩
    · go_wp2_with fail
      go_ret
      exact ⟨ret_int (by rw [arrIdx_none fun j hj => HN.out j (by rw [HL.out] at hj; omega)]), hb⟩

end Go.Proofs.Ytooodokpkmfbiaa