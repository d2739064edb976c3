/- BytesUntil and PeakIn: contracts of the program's and the reference's; the laws' walks. -/
import Derived.Test.YtnnihiajggdplaaTrT
import Derived.Deep.RegionHeld3
namespace Go.Proofs.Ytnnihiajggdplaa
open Go.RowKit

def sumF (p : Timed → Bool) (a : Int) (x : Timed) : Int := if p x then a + x.packet.size else a
def sumIf (p : Timed → Bool) (xs : List Timed) : Int := xs.foldl (sumF p) 0
theorem sumIf_snoc (p : Timed → Bool) (xs : List Timed) (x : Timed) : sumIf p (xs ++ [x]) = sumF p (sumIf p xs) x := by simp [sumIf]
theorem sumIf_bd (p : Timed → Bool) (xs : List Timed) (h : ∀ x ∈ xs, 1 ≤ x.packet.size ∧ x.packet.size ≤ 1500) : 0 ≤ sumIf p xs ∧ sumIf p xs ≤ xs.length * 1500 := by
  have key : ∀ (ys : List Timed) (a B : Int), (∀ y ∈ ys, 1 ≤ y.packet.size ∧ y.packet.size ≤ 1500) → 0 ≤ a → a ≤ B → 0 ≤ ys.foldl (sumF p) a ∧ ys.foldl (sumF p) a ≤ B + ys.length * 1500 := by
    intro ys
    induction ys with
    | nil => intro a B _ h0 h1; simp; omega
    | cons y ys ih =>
      intro a B hy h0 h1
      have hy0 := hy y (by simp)
      have h2 := ih (sumF p a y) (B + 1500) (fun z hz => hy z (by simp [hz])) (by unfold sumF; split <;> omega) (by unfold sumF; split <;> omega)
      rw [List.foldl_cons]
      simp only [List.length_cons, Int.natCast_add, Int.add_mul]
      omega
  have := key xs 0 0 h (by omega) (by omega)
  simpa [sumIf] using this
theorem mem_at {α : Type} {xs : List α} {Q : α → Prop} (h : ∀ (k : Nat) (x : α), xs[k]? = some x → Q x) : ∀ x ∈ xs, Q x := fun x hx => by
  obtain ⟨i, hi⟩ := List.getElem?_of_mem hx
  exact h i x hi
def fpT (b : Bool) (x : Int) : Int := if b then x else 0
theorem fpT_false {c : Bool} (h : c = false) (s : Int) : fpT c s = 0 := by simp [fpT, h]
theorem fpT_true {c : Bool} (h : c = true) (s : Int) : fpT c s = s := by simp [fpT, h]
def bytB (t : Int) (xs : List Timed) : Bool := timedB xs && inB t 0 100000
def upP (t : Int) (x : Timed) : Bool := decide (x.tick ≤ t)
def SumRel (w : World) (n : Nat) (p : Timed → Bool) (xs : List Timed) (sum i : Value) (wr : World) : Prop := ∃ k : Nat, k ≤ n ∧ i = .int .i64 k ∧ sum = .int .i64 (sumIf p (xs.take k)) ∧ Below w.heap.size w wr
theorem sumRel_step {w wr : World} {n k : Nat} {p : Timed → Bool} {xs : List Timed} {x : Timed} {v s : Int} (hx : xs[k]? = some x) (hk : k < n) (hs : sumIf p (xs.take k) = s) (hv : v = sumF p s x) (hb : Below w.heap.size w wr) : SumRel w n p xs (.int .i64 v) (.int .i64 ((k : Int) + 1)) wr :=
  ⟨k + 1, by omega, by simp, by rw [take_snoc hx, sumIf_snoc, hs, hv], hb⟩

set_option maxRecDepth 100000 in
set_option maxHeartbeats 2000000 in
theorem specBytesUntil_any (A : Option Addr) (n c : Nat) (xs : List Timed) (t : Int) (w : World) (hn : n ≤ 1048576) (hr : Rd w 7 A n (xs.flatMap encTimed)) :
    Calls Try.prog 44 #[.slice A n c, .int .i64 t] w fun e w' => e = .returned (.tuple #[.int .i64 (fpT (bytB t xs) (sumIf (upP t) xs)), .bool (bytB t xs)]) ∧ Below w.heap.size w w' := by
  cases h1 : timedB xs with
  | false =>
    have e0 : bytB t xs = false := by simp [bytB, h1]
    rw [fpT_false e0, e0]
    clear e0
    go_enter Try.func44, Try.ntmps44
    go_wp2_with (first | (go_at_call 72; refine (tfTimed_any A n _ xs _ hn hr).mono ?_; rintro e w1 ⟨rfl, hb1⟩) | (go_at_call 58; refine (tfTick_any _ _).mono ?_; rintro e w' ⟨rfl, rfl⟩))
    go_ret2
    exact ⟨rfl, hb1⟩
  | true =>
    cases h2 : inB t 0 100000 with
    | false =>
      have e0 : bytB t xs = false := by simp [bytB, h2]
      rw [fpT_false e0, e0]
      clear e0
      go_enter Try.func44, Try.ntmps44
      go_wp2_with (first | (go_at_call 72; refine (tfTimed_any A n _ xs _ hn hr).mono ?_; rintro e w1 ⟨rfl, hb1⟩) | (go_at_call 58; refine (tfTick_any _ _).mono ?_; rintro e w' ⟨rfl, rfl⟩))
      go_ret2
      exact ⟨rfl, hb1⟩
    | true =>
      have e0 : bytB t xs = true := by simp [bytB, h1, h2]
      rw [fpT_true e0, e0]
      clear e0
      have hl : xs.length = n := by have h1 := hr.1; rw [flat_len encTimed 7 encTimed_len] at h1; omega
      have h60 : n ≤ 60 := by have := timed_len h1; omega
      have HL := Lib.hid hl
      have HT := Lib.hid h1
      clear hl
      go_enter Try.func44, Try.ntmps44
      go_wp2_with (first | (go_at_call 72; refine (tfTimed_any A n _ xs _ hn hr).mono ?_; rintro e w1 ⟨rfl, hb1⟩) | (go_at_call 58; refine (tfTick_any _ _).mono ?_; rintro e w' ⟨rfl, rfl⟩))
      clear h1
      go_loopw [6, 19] (SumRel w n (upP t) xs) (fun _ i _ => n - (intOf i).toNat)
      case atStart => exact ⟨0, Nat.zero_le _, rfl, rfl, hb1⟩
      case round =>
        obtain ⟨k, hk, rfl, rfl, hb⟩ := hrel
        have hbd := sumIf_bd (upP t) (xs.take k) (mem_at fun i y hy => by
          rw [List.getElem?_take] at hy
          split at hy
          · exact (timed_at HT.out hy).2
          · cases hy)
        have hl2 : (xs.take k).length ≤ 60 := by rw [List.length_take]; omega
        generalize hs : sumIf (upP t) (xs.take k) = s at *
        have s1 : s ≤ 90000 := by omega
        have HS := Lib.hid hs
        clear hs hl2
        by_cases hlt : k < n
        · have hlxk : k < xs.length := by rw [HL.out]; exact hlt
          obtain ⟨b, o, rfl, hblb, hcellb⟩ := hr.2 (by omega)
          have hblrbx : b < wr.heap.size := Nat.lt_of_lt_of_le hblb hb.size
          have hlxx : k < xs.length := by rw [HL.out]; omega
          have hxx : xs[k]? = some xs[k] := List.getElem?_eq_getElem hlxx
          generalize xs[k] = x at hxx
          have c0 : wr.cell? ⟨b, o + (k * 7 + 0), none⟩ = some (.int .i64 x.tick) := (hb.cell (p := ⟨b, o + (k * 7 + 0), none⟩) hblb).trans (hcellb _ _ ((flat_get encTimed 7 encTimed_len xs k 0 x hxx (by omega)).trans rfl))
          have c1 : wr.cell? ⟨b, o + (k * 7 + 1), none⟩ = some (.int .i64 x.packet.id) := (hb.cell (p := ⟨b, o + (k * 7 + 1), none⟩) hblb).trans (hcellb _ _ ((flat_get encTimed 7 encTimed_len xs k 1 x hxx (by omega)).trans rfl))
          have c2 : wr.cell? ⟨b, o + (k * 7 + 2), none⟩ = some (.int .i64 x.packet.source) := (hb.cell (p := ⟨b, o + (k * 7 + 2), none⟩) hblb).trans (hcellb _ _ ((flat_get encTimed 7 encTimed_len xs k 2 x hxx (by omega)).trans rfl))
          have c3 : wr.cell? ⟨b, o + (k * 7 + 3), none⟩ = some (.int .i64 x.packet.dest) := (hb.cell (p := ⟨b, o + (k * 7 + 3), none⟩) hblb).trans (hcellb _ _ ((flat_get encTimed 7 encTimed_len xs k 3 x hxx (by omega)).trans rfl))
          have c4 : wr.cell? ⟨b, o + (k * 7 + 4), none⟩ = some (.int .i64 x.packet.port) := (hb.cell (p := ⟨b, o + (k * 7 + 4), none⟩) hblb).trans (hcellb _ _ ((flat_get encTimed 7 encTimed_len xs k 4 x hxx (by omega)).trans rfl))
          have c5 : wr.cell? ⟨b, o + (k * 7 + 5), none⟩ = some (.int .i64 x.packet.mark) := (hb.cell (p := ⟨b, o + (k * 7 + 5), none⟩) hblb).trans (hcellb _ _ ((flat_get encTimed 7 encTimed_len xs k 5 x hxx (by omega)).trans rfl))
          have c6 : wr.cell? ⟨b, o + (k * 7 + 6), none⟩ = some (.int .i64 x.packet.size) := (hb.cell (p := ⟨b, o + (k * 7 + 6), none⟩) hblb).trans (hcellb _ _ ((flat_get encTimed 7 encTimed_len xs k 6 x hxx (by omega)).trans rfl))
          simp only [Nat.add_zero, ← Nat.add_assoc] at c0 c1 c2 c3 c4 c5 c6
          have HX := Lib.hid hxx
          clear hxx hlxx hcellb
          have hxb := (timed_at HT.out HX.out).2
          cases hg : decide (x.tick ≤ t) with
          | false =>
            have HV := Lib.hid (show s = sumF (upP t) s x by simp [sumF, upP, hg])
            go_wp2_with fail
            go_roundw
            case rel => exact sumRel_step HX.out hlt HS.out HV.out (ext_alloc hb _)
            case measure => simp [intOf]; omega
          | true =>
            have HV := Lib.hid (show s + x.packet.size = sumF (upP t) s x by simp [sumF, upP, hg])
            go_wp2_with fail
            go_roundw
            case rel => exact sumRel_step HX.out hlt HS.out HV.out (ext_alloc hb _)
            case measure => simp [intOf]; omega
        · go_wp2_with fail
          go_ret2
          exact ⟨by rw [← HS.out, List.take_of_length_le (by rw [HL.out]; omega)]; rfl, hb⟩

set_option maxRecDepth 100000 in
set_option maxHeartbeats 2000000 in
theorem implBytesUntil_any (A : Option Addr) (n c : Nat) (xs : List Timed) (t : Int) (w : World) (hn : n ≤ 1048576) (hr : Rd w 7 A n (xs.flatMap encTimed)) :
    Calls Try.prog 46 #[.slice A n c, .int .i64 t] w fun e w' => e = .returned (.tuple #[.int .i64 (fpT (bytB t xs) (sumIf (upP t) xs)), .bool (bytB t xs)]) ∧ Below w.heap.size w w' := by
  cases h1 : timedB xs with
  | false =>
    have e0 : bytB t xs = false := by simp [bytB, h1]
    rw [fpT_false e0, e0]
    clear e0
    go_enter Try.func46, Try.ntmps46
    go_wp2_with (first | (go_at_call 74; refine (areTimed_any A n _ xs _ hn hr).mono ?_; rintro e w1 ⟨rfl, hb1⟩) | (go_at_call 59; refine (isTicks_any _ _).mono ?_; rintro e w' ⟨rfl, rfl⟩))
    go_ret2
    exact ⟨rfl, hb1⟩
  | true =>
    cases h2 : inB t 0 100000 with
    | false =>
      have e0 : bytB t xs = false := by simp [bytB, h2]
      rw [fpT_false e0, e0]
      clear e0
      go_enter Try.func46, Try.ntmps46
      go_wp2_with (first | (go_at_call 74; refine (areTimed_any A n _ xs _ hn hr).mono ?_; rintro e w1 ⟨rfl, hb1⟩) | (go_at_call 59; refine (isTicks_any _ _).mono ?_; rintro e w' ⟨rfl, rfl⟩))
      go_ret2
      exact ⟨rfl, hb1⟩
    | true =>
      have e0 : bytB t xs = true := by simp [bytB, h1, h2]
      rw [fpT_true e0, e0]
      clear e0
      have hl : xs.length = n := by have h1 := hr.1; rw [flat_len encTimed 7 encTimed_len] at h1; omega
      have h60 : n ≤ 60 := by have := timed_len h1; omega
      have HL := Lib.hid hl
      have HT := Lib.hid h1
      clear hl
      go_enter Try.func46, Try.ntmps46
      go_wp2_with (first | (go_at_call 74; refine (areTimed_any A n _ xs _ hn hr).mono ?_; rintro e w1 ⟨rfl, hb1⟩) | (go_at_call 59; refine (isTicks_any _ _).mono ?_; rintro e w' ⟨rfl, rfl⟩))
      clear h1
      go_loopw [6, 19] (SumRel w n (upP t) xs) (fun _ i _ => n - (intOf i).toNat)
      case atStart => exact ⟨0, Nat.zero_le _, rfl, rfl, hb1⟩
      case round =>
        obtain ⟨k, hk, rfl, rfl, hb⟩ := hrel
        have hbd := sumIf_bd (upP t) (xs.take k) (mem_at fun i y hy => by
          rw [List.getElem?_take] at hy
          split at hy
          · exact (timed_at HT.out hy).2
          · cases hy)
        have hl2 : (xs.take k).length ≤ 60 := by rw [List.length_take]; omega
        generalize hs : sumIf (upP t) (xs.take k) = s at *
        have s1 : s ≤ 90000 := by omega
        have HS := Lib.hid hs
        clear hs hl2
        by_cases hlt : k < n
        · have hlxk : k < xs.length := by rw [HL.out]; exact hlt
          obtain ⟨b, o, rfl, hblb, hcellb⟩ := hr.2 (by omega)
          have hblrbx : b < wr.heap.size := Nat.lt_of_lt_of_le hblb hb.size
          have hlxx : k < xs.length := by rw [HL.out]; omega
          have hxx : xs[k]? = some xs[k] := List.getElem?_eq_getElem hlxx
          generalize xs[k] = x at hxx
          have c0 : wr.cell? ⟨b, o + (k * 7 + 0), none⟩ = some (.int .i64 x.tick) := (hb.cell (p := ⟨b, o + (k * 7 + 0), none⟩) hblb).trans (hcellb _ _ ((flat_get encTimed 7 encTimed_len xs k 0 x hxx (by omega)).trans rfl))
          have c1 : wr.cell? ⟨b, o + (k * 7 + 1), none⟩ = some (.int .i64 x.packet.id) := (hb.cell (p := ⟨b, o + (k * 7 + 1), none⟩) hblb).trans (hcellb _ _ ((flat_get encTimed 7 encTimed_len xs k 1 x hxx (by omega)).trans rfl))
          have c2 : wr.cell? ⟨b, o + (k * 7 + 2), none⟩ = some (.int .i64 x.packet.source) := (hb.cell (p := ⟨b, o + (k * 7 + 2), none⟩) hblb).trans (hcellb _ _ ((flat_get encTimed 7 encTimed_len xs k 2 x hxx (by omega)).trans rfl))
          have c3 : wr.cell? ⟨b, o + (k * 7 + 3), none⟩ = some (.int .i64 x.packet.dest) := (hb.cell (p := ⟨b, o + (k * 7 + 3), none⟩) hblb).trans (hcellb _ _ ((flat_get encTimed 7 encTimed_len xs k 3 x hxx (by omega)).trans rfl))
          have c4 : wr.cell? ⟨b, o + (k * 7 + 4), none⟩ = some (.int .i64 x.packet.port) := (hb.cell (p := ⟨b, o + (k * 7 + 4), none⟩) hblb).trans (hcellb _ _ ((flat_get encTimed 7 encTimed_len xs k 4 x hxx (by omega)).trans rfl))
          have c5 : wr.cell? ⟨b, o + (k * 7 + 5), none⟩ = some (.int .i64 x.packet.mark) := (hb.cell (p := ⟨b, o + (k * 7 + 5), none⟩) hblb).trans (hcellb _ _ ((flat_get encTimed 7 encTimed_len xs k 5 x hxx (by omega)).trans rfl))
          have c6 : wr.cell? ⟨b, o + (k * 7 + 6), none⟩ = some (.int .i64 x.packet.size) := (hb.cell (p := ⟨b, o + (k * 7 + 6), none⟩) hblb).trans (hcellb _ _ ((flat_get encTimed 7 encTimed_len xs k 6 x hxx (by omega)).trans rfl))
          simp only [Nat.add_zero, ← Nat.add_assoc] at c0 c1 c2 c3 c4 c5 c6
          have HX := Lib.hid hxx
          clear hxx hlxx hcellb
          have hxb := (timed_at HT.out HX.out).2
          cases hg : decide (x.tick ≤ t) with
          | false =>
            have HV := Lib.hid (show s = sumF (upP t) s x by simp [sumF, upP, hg])
            go_wp2_with fail
            go_roundw
            case rel => exact sumRel_step HX.out hlt HS.out HV.out (ext_alloc hb _)
            case measure => simp [intOf]; omega
          | true =>
            have HV := Lib.hid (show s + x.packet.size = sumF (upP t) s x by simp [sumF, upP, hg])
            go_wp2_with fail
            go_roundw
            case rel => exact sumRel_step HX.out hlt HS.out HV.out (ext_alloc hb _)
            case measure => simp [intOf]; omega
        · go_wp2_with fail
          go_ret2
          exact ⟨by rw [← HS.out, List.take_of_length_le (by rw [HL.out]; omega)]; rfl, hb⟩

set_option maxHeartbeats 4000000 in
theorem walkBytesUntil (Axs : Option Addr) (nxs cxs : Nat) (xs : List Timed) (hnxs : nxs ≤ 9223372036854775807) (t : Int) (w : World) (hrxs : Rd w 7 Axs nxs (xs.flatMap encTimed)) :
    Calls Try.prog 11 #[.slice Axs nxs cxs, .int .i64 t] w fun e w' => e = .returned (.bool true) ∧ Below w.heap.size w w' := by
  by_cases hbigxs : 1048576 < nxs
  · go_enter Try.func11, Try.ntmps11
    go_wp2_with (first | (go_at_call 43; refine (szTimedS_any Axs nxs cxs _ _ hnxs (by omega) (by omega)).mono ?_; rintro e w1 ⟨rfl, rfl⟩; have hsxs : (if (1048576 : Int) < (nxs : Int) then (-1 : Int) else 1048576 - nxs) = -1 := by {{ split <;> omega }}; rw [hsxs]; clear hsxs) | fail)
    go_ret
    exact ⟨rfl, ext_refl w⟩
  have hmxs : nxs ≤ 1048576 := by omega
  have z0 : Below w.heap.size w w := ext_refl w
  go_enter Try.func11, Try.ntmps11
  go_wp2_with fail
  refine (szTimedS_any Axs nxs cxs _ _ hnxs (by omega) (by omega)).mono ?_; rintro e w' ⟨rfl, rfl⟩
  have hsxs : (if (1048576 : Int) < (nxs : Int) then (-1 : Int) else 1048576 - nxs) = 1048576 - nxs := by { split <;> omega }
  rw [hsxs]
  clear hsxs
  go_wp2_with fail
  refine (toTimedS_any Axs nxs cxs xs _ hmxs (hrxs.below z0)).mono ?_; rintro e w1 ⟨gt1, rfl, owt1, hb1⟩
  have ot11 := own_base owt1 z0.size
  have z1 := ext_trans z0 hb1
  go_wp2_with fail
  refine (specBytesUntil_any _ nxs _ xs t _ hmxs (Rd.of_own ot11)).mono ?_; rintro e w2 ⟨rfl, hb2⟩
  have ot12 := own_ext ot11 hb2
  have z2 := ext_trans z1 hb2
  go_wp2_with fail
  refine (toTimedS_any Axs nxs cxs xs _ hmxs (hrxs.below z2)).mono ?_; rintro e w3 ⟨gxxs, rfl, owxxs, hb3⟩
  have apxxst1 := apart_before ot12.lt owxxs.lt
  have ot13 := own_ext ot12 hb3
  have oxxs3 := own_base owxxs z2.size
  have z3 := ext_trans z2 hb3
  go_wp2_with fail
  refine (implBytesUntil_any _ nxs _ xs t _ hmxs (Rd.of_own oxxs3)).mono ?_; rintro e w4 ⟨rfl, hb4⟩
  have ot14 := own_ext ot13 hb4
  have oxxs4 := own_ext oxxs3 hb4
  have z4 := ext_trans z3 hb4
  go_wp2_with fail
  refine (toTimedS_any Axs nxs cxs xs _ hmxs (hrxs.below z4)).mono ?_; rintro e w5 ⟨gt3, rfl, owt3, hb5⟩
  have apt3t1 := apart_before ot14.lt owt3.lt
  have ot15 := own_ext ot14 hb5
  have apt3xxs := apart_before oxxs4.lt owt3.lt
  have oxxs5 := own_ext oxxs4 hb5
  have ot35 := own_base owt3 z4.size
  have z5 := ext_trans z4 hb5
  go_wp2_with fail
  refine (eqTimedS_same _ _ nxs _ _ xs _ hmxs (Rd.of_own oxxs5) (Rd.of_own ot35)).mono ?_; rintro e w6 ⟨rfl, hb6⟩
  have ot16 := own_ext ot15 hb6
  have oxxs6 := own_ext oxxs5 hb6
  have ot36 := own_ext ot35 hb6
  have z6 := ext_trans z5 hb6
  go_wp2_with fail
  go_ret
  exact ⟨rfl, z6⟩

def pkP (width t0 : Int) (y : Timed) : Bool := decide (y.tick < t0 + width)
def peakF (width : Int) (xs : List Timed) (m : Int) (i : Nat) : Int := match xs[i]? with
  | none => m
  | some x => max m (sumIf (pkP width x.tick) (xs.drop i))
def peakTo (width : Int) (xs : List Timed) (k : Nat) : Int := (List.range k).foldl (peakF width xs) 0
theorem peakTo_succ {width : Int} {xs : List Timed} {k : Nat} {x : Timed} (hx : xs[k]? = some x) : peakTo width xs (k + 1) = max (peakTo width xs k) (sumIf (pkP width x.tick) (xs.drop k)) := by
  simp [peakTo, List.range_succ, peakF, hx]
def pkB (width : Int) (xs : List Timed) : Bool := timedB xs && inB width 1 100000
def PkOut (w : World) (n : Nat) (width : Int) (xs : List Timed) (most i : Value) (wr : World) : Prop := ∃ k : Nat, k ≤ n ∧ i = .int .i64 k ∧ most = .int .i64 (peakTo width xs k) ∧ Below w.heap.size w wr
def PkIn (w : World) (G : World → Prop) (p : Timed → Bool) (ys : List Timed) (sum i : Value) (wr : World) : Prop := ∃ j : Nat, j ≤ ys.length ∧ i = .int .i64 j ∧ sum = .int .i64 (sumIf p (ys.take j)) ∧ G wr ∧ Below w.heap.size w wr
theorem pkIn_step {w wr : World} {G : World → Prop} {p : Timed → Bool} {ys : List Timed} {j : Nat} {y : Timed} {v s : Int} (hy : ys[j]? = some y) (hj : j < ys.length) (hs : sumIf p (ys.take j) = s) (hv : v = sumF p s y) (hB : G wr) (hb : Below w.heap.size w wr) : PkIn w G p ys (.int .i64 v) (.int .i64 ((j : Int) + 1)) wr :=
  ⟨j + 1, by omega, by simp, by rw [take_snoc hy, sumIf_snoc, hs, hv], hB, hb⟩
theorem max_if (a b : Int) : (if a < b then b else a) = max a b := by split <;> omega

set_option maxRecDepth 100000 in
set_option maxHeartbeats 4000000 in
theorem specPeakIn_any (A : Option Addr) (n : Nat) (xs : List Timed) (width : Int) (w : World) (hn : n ≤ 1048576) (hr : Rd w 7 A n (xs.flatMap encTimed)) :
    Calls Try.prog 47 #[.slice A n n, .int .i64 width] w fun e w' => e = .returned (.tuple #[.int .i64 (fpT (pkB width xs) (peakTo width xs xs.length)), .bool (pkB width xs)]) ∧ Below w.heap.size w w' := by
  cases h1 : timedB xs with
  | false =>
    have e0 : pkB width xs = false := by simp [pkB, h1]
    rw [fpT_false e0, e0]
    clear e0
    go_enter Try.func47, Try.ntmps47
    go_wp2_with (first | (go_at_call 72; refine (tfTimed_any A n _ xs _ hn hr).mono ?_; rintro e w1 ⟨rfl, hb1⟩) | (go_at_call 55; refine (l1In_any _ _ _ _).mono ?_; rintro e w' ⟨rfl, rfl⟩))
    go_ret2
    exact ⟨rfl, hb1⟩
  | true =>
    cases h2 : inB width 1 100000 with
    | false =>
      have e0 : pkB width xs = false := by simp [pkB, h2]
      rw [fpT_false e0, e0]
      clear e0
      go_enter Try.func47, Try.ntmps47
      go_wp2_with (first | (go_at_call 72; refine (tfTimed_any A n _ xs _ hn hr).mono ?_; rintro e w1 ⟨rfl, hb1⟩) | (go_at_call 55; refine (l1In_any _ _ _ _).mono ?_; rintro e w' ⟨rfl, rfl⟩))
      go_ret2
      exact ⟨rfl, hb1⟩
    | true =>
      have e0 : pkB width xs = true := by simp [pkB, h1, h2]
      rw [fpT_true e0, e0]
      clear e0
      have hl : xs.length = n := by have h1 := hr.1; rw [flat_len encTimed 7 encTimed_len] at h1; omega
      have h60 : n ≤ 60 := by have := timed_len h1; omega
      have hwb := inB_iff.1 h2
      have HL := Lib.hid hl
      have HTR := Lib.hid h1
      clear hl
      go_enter Try.func47, Try.ntmps47
      go_wp2_with (first | (go_at_call 72; refine (tfTimed_any A n _ xs _ hn hr).mono ?_; rintro e w1 ⟨rfl, hb1⟩) | (go_at_call 55; refine (l1In_any _ _ _ _).mono ?_; rintro e w' ⟨rfl, rfl⟩))
      clear h1 h2
      go_loopw [6, 22] (PkOut w n width xs) (fun _ i _ => n - (intOf i).toNat)
      case atStart => exact ⟨0, Nat.zero_le _, rfl, rfl, hb1⟩
      case round =>
        obtain ⟨k, hk, rfl, rfl, hb⟩ := hrel
        by_cases hlt : k < n
        · obtain ⟨wo, rfl⟩ : ∃ wo : World, wo = wr := ⟨_, rfl⟩
          obtain ⟨b, o, rfl, hblb, hcellb⟩ := hr.2 (by omega)
          have hblrbx : b < wo.heap.size := Nat.lt_of_lt_of_le hblb hb.size
          have hlxx : k < xs.length := by rw [HL.out]; omega
          have hxx : xs[k]? = some xs[k] := List.getElem?_eq_getElem hlxx
          generalize xs[k] = x at hxx
          have c0 : wo.cell? ⟨b, o + (k * 7 + 0), none⟩ = some (.int .i64 x.tick) := (hb.cell (p := ⟨b, o + (k * 7 + 0), none⟩) hblb).trans (hcellb _ _ ((flat_get encTimed 7 encTimed_len xs k 0 x hxx (by omega)).trans rfl))
          have c1 : wo.cell? ⟨b, o + (k * 7 + 1), none⟩ = some (.int .i64 x.packet.id) := (hb.cell (p := ⟨b, o + (k * 7 + 1), none⟩) hblb).trans (hcellb _ _ ((flat_get encTimed 7 encTimed_len xs k 1 x hxx (by omega)).trans rfl))
          have c2 : wo.cell? ⟨b, o + (k * 7 + 2), none⟩ = some (.int .i64 x.packet.source) := (hb.cell (p := ⟨b, o + (k * 7 + 2), none⟩) hblb).trans (hcellb _ _ ((flat_get encTimed 7 encTimed_len xs k 2 x hxx (by omega)).trans rfl))
          have c3 : wo.cell? ⟨b, o + (k * 7 + 3), none⟩ = some (.int .i64 x.packet.dest) := (hb.cell (p := ⟨b, o + (k * 7 + 3), none⟩) hblb).trans (hcellb _ _ ((flat_get encTimed 7 encTimed_len xs k 3 x hxx (by omega)).trans rfl))
          have c4 : wo.cell? ⟨b, o + (k * 7 + 4), none⟩ = some (.int .i64 x.packet.port) := (hb.cell (p := ⟨b, o + (k * 7 + 4), none⟩) hblb).trans (hcellb _ _ ((flat_get encTimed 7 encTimed_len xs k 4 x hxx (by omega)).trans rfl))
          have c5 : wo.cell? ⟨b, o + (k * 7 + 5), none⟩ = some (.int .i64 x.packet.mark) := (hb.cell (p := ⟨b, o + (k * 7 + 5), none⟩) hblb).trans (hcellb _ _ ((flat_get encTimed 7 encTimed_len xs k 5 x hxx (by omega)).trans rfl))
          have c6 : wo.cell? ⟨b, o + (k * 7 + 6), none⟩ = some (.int .i64 x.packet.size) := (hb.cell (p := ⟨b, o + (k * 7 + 6), none⟩) hblb).trans (hcellb _ _ ((flat_get encTimed 7 encTimed_len xs k 6 x hxx (by omega)).trans rfl))
          simp only [Nat.add_zero, ← Nat.add_assoc] at c0 c1 c2 c3 c4 c5 c6
          have HX := Lib.hid hxx
          clear hxx hlxx
          have hxb := (timed_at HTR.out HX.out).1
          have hsu := peakTo_succ (width := width) HX.out
          have HSU := Lib.hid hsu
          clear hsu
          have hyl : (xs.drop k).length = n - k := by rw [List.length_drop, HL.out]
          have HYL := Lib.hid hyl
          clear hyl
          have HCELL := Lib.hid hcellb
          clear hcellb
          generalize hmm : peakTo width xs k = m0 at *
          have HMM := Lib.hid hmm
          clear hmm
          have k0 : (0 : Int) ≤ (k : Int) := by omega
          have k1 : (k : Int) < (n : Int) := by omega
          have B7 := Blk.new wo 58 [.int .i64 x.tick, .int .i64 x.packet.id, .int .i64 x.packet.source, .int .i64 x.packet.dest, .int .i64 x.packet.port, .int .i64 x.packet.mark, .int .i64 x.packet.size]
          go_wp2_with fail
          go_loopw [9, 31] (PkIn w (fun wz => Blk wz wo.heap.size 58 [.int .i64 x.tick, .int .i64 x.packet.id, .int .i64 x.packet.source, .int .i64 x.packet.dest, .int .i64 x.packet.port, .int .i64 x.packet.mark, .int .i64 x.packet.size]) (pkP width x.tick) (xs.drop k)) (fun _ i _ => n - (intOf i).toNat)
          case atStart => exact ⟨0, Nat.zero_le _, rfl, rfl, B7, ext_alloc hb _⟩
          case round =>
            obtain ⟨j, hj, rfl, rfl, B8, hb2⟩ := hrel
            rw [HYL.out] at hj
            have hbd := sumIf_bd (pkP width x.tick) ((xs.drop k).take j) (mem_at fun i y hy => by
              rw [List.getElem?_take] at hy
              split at hy
              · rw [List.getElem?_drop] at hy; exact (timed_at HTR.out hy).2
              · cases hy)
            have hl2 : ((xs.drop k).take j).length ≤ 60 := by rw [List.length_take]; omega
            generalize hs : sumIf (pkP width x.tick) ((xs.drop k).take j) = sa at *
            have HS := Lib.hid hs
            clear hs
            have sb1 : sa ≤ 90000 := by omega
            clear hl2
            obtain ⟨y8, x8, d8, f8⟩ := B8.seven
            by_cases hlj : j < n - k
            · have hbr2 : b < wr.heap.size := Nat.lt_of_lt_of_le hblb hb2.size
              have hlx2 : k + j < xs.length := by rw [HL.out]; omega
              have hy : xs[k + j]? = some xs[k + j] := List.getElem?_eq_getElem hlx2
              generalize xs[k + j] = y at hy
              have hyd : (xs.drop k)[j]? = some y := by rw [List.getElem?_drop]; exact hy
              have hyb := timed_at HTR.out hy
              have e0 : wr.cell? ⟨b, o + ((k + j) * 7 + 0), none⟩ = some (.int .i64 y.tick) := (hb2.cell (p := ⟨b, o + ((k + j) * 7 + 0), none⟩) hblb).trans (HCELL.out _ _ ((flat_get encTimed 7 encTimed_len xs (k + j) 0 y hy (by omega)).trans rfl))
              rw [show o + ((k + j) * 7 + 0) = o + k * 7 + j * 7 by omega] at e0
              have e1 : wr.cell? ⟨b, o + ((k + j) * 7 + 1), none⟩ = some (.int .i64 y.packet.id) := (hb2.cell (p := ⟨b, o + ((k + j) * 7 + 1), none⟩) hblb).trans (HCELL.out _ _ ((flat_get encTimed 7 encTimed_len xs (k + j) 1 y hy (by omega)).trans rfl))
              rw [show o + ((k + j) * 7 + 1) = o + k * 7 + j * 7 + 1 by omega] at e1
              have e2 : wr.cell? ⟨b, o + ((k + j) * 7 + 2), none⟩ = some (.int .i64 y.packet.source) := (hb2.cell (p := ⟨b, o + ((k + j) * 7 + 2), none⟩) hblb).trans (HCELL.out _ _ ((flat_get encTimed 7 encTimed_len xs (k + j) 2 y hy (by omega)).trans rfl))
              rw [show o + ((k + j) * 7 + 2) = o + k * 7 + j * 7 + 2 by omega] at e2
              have e3 : wr.cell? ⟨b, o + ((k + j) * 7 + 3), none⟩ = some (.int .i64 y.packet.dest) := (hb2.cell (p := ⟨b, o + ((k + j) * 7 + 3), none⟩) hblb).trans (HCELL.out _ _ ((flat_get encTimed 7 encTimed_len xs (k + j) 3 y hy (by omega)).trans rfl))
              rw [show o + ((k + j) * 7 + 3) = o + k * 7 + j * 7 + 3 by omega] at e3
              have e4 : wr.cell? ⟨b, o + ((k + j) * 7 + 4), none⟩ = some (.int .i64 y.packet.port) := (hb2.cell (p := ⟨b, o + ((k + j) * 7 + 4), none⟩) hblb).trans (HCELL.out _ _ ((flat_get encTimed 7 encTimed_len xs (k + j) 4 y hy (by omega)).trans rfl))
              rw [show o + ((k + j) * 7 + 4) = o + k * 7 + j * 7 + 4 by omega] at e4
              have e5 : wr.cell? ⟨b, o + ((k + j) * 7 + 5), none⟩ = some (.int .i64 y.packet.mark) := (hb2.cell (p := ⟨b, o + ((k + j) * 7 + 5), none⟩) hblb).trans (HCELL.out _ _ ((flat_get encTimed 7 encTimed_len xs (k + j) 5 y hy (by omega)).trans rfl))
              rw [show o + ((k + j) * 7 + 5) = o + k * 7 + j * 7 + 5 by omega] at e5
              have e6 : wr.cell? ⟨b, o + ((k + j) * 7 + 6), none⟩ = some (.int .i64 y.packet.size) := (hb2.cell (p := ⟨b, o + ((k + j) * 7 + 6), none⟩) hblb).trans (HCELL.out _ _ ((flat_get encTimed 7 encTimed_len xs (k + j) 6 y hy (by omega)).trans rfl))
              rw [show o + ((k + j) * 7 + 6) = o + k * 7 + j * 7 + 6 by omega] at e6
              have g0 : wr.cell? ⟨b, o + (k * 7 + 0), none⟩ = some (.int .i64 x.tick) := (hb2.cell (p := ⟨b, o + (k * 7 + 0), none⟩) hblb).trans (HCELL.out _ _ ((flat_get encTimed 7 encTimed_len xs k 0 x HX.out (by omega)).trans rfl))
              rw [Nat.add_zero] at g0
              have HST := Lib.hid (fun (v : Int) (hv : v = sumF (pkP width x.tick) sa y) (wz : World) (hBz : (fun wz => Blk wz wo.heap.size 58 [.int .i64 x.tick, .int .i64 x.packet.id, .int .i64 x.packet.source, .int .i64 x.packet.dest, .int .i64 x.packet.port, .int .i64 x.packet.mark, .int .i64 x.packet.size]) wz) (hz : Below w.heap.size w wz) => pkIn_step (G := (fun wz => Blk wz wo.heap.size 58 [.int .i64 x.tick, .int .i64 x.packet.id, .int .i64 x.packet.source, .int .i64 x.packet.dest, .int .i64 x.packet.port, .int .i64 x.packet.mark, .int .i64 x.packet.size])) hyd (by rw [HYL.out]; exact hlj) HS.out hv hBz hz)
              clear hyd hy c0 c1 c2 c3 c4 c5 c6
              cases hg : decide (y.tick < x.tick + width) with
              | false =>
                have HV := Lib.hid (show sa = sumF (pkP width x.tick) sa y by simp [sumF, pkP, hg])
                skip
                skip
                skip
                go_wp2_with fail
                skip
                skip
                go_roundw
                case rel => exact HST.out _ HV.out _ (B8.alloc _) (ext_alloc hb2 _)
                case measure => simp [intOf]; omega
              | true =>
                have HV := Lib.hid (show sa + y.packet.size = sumF (pkP width x.tick) sa y by simp [sumF, pkP, hg])
                skip
                skip
                skip
                go_wp2_with fail
                skip
                skip
                go_roundw
                case rel => exact HST.out _ HV.out _ (B8.alloc _) (ext_alloc hb2 _)
                case measure => simp [intOf]; omega
            · go_wp2_with (go_at_call 75; refine (l1Most_any _ _ _).mono ?_; rintro e w' ⟨rfl, rfl⟩)
              all_goals go_roundw
              case rel => exact ⟨k + 1, by omega, by go_num, by rw [HSU.out, ← HS.out, List.take_of_length_le (by rw [HYL.out]; omega)], hb2⟩
              case measure => simp [intOf]; omega
        · go_wp2_with fail
          go_ret2
          exact ⟨by rw [HL.out, show k = n by omega]; rfl, hb⟩

set_option maxRecDepth 100000 in
set_option maxHeartbeats 4000000 in
theorem implPeakIn_any (A : Option Addr) (n : Nat) (xs : List Timed) (width : Int) (w : World) (hn : n ≤ 1048576) (hr : Rd w 7 A n (xs.flatMap encTimed)) :
    Calls Try.prog 48 #[.slice A n n, .int .i64 width] w fun e w' => e = .returned (.tuple #[.int .i64 (fpT (pkB width xs) (peakTo width xs xs.length)), .bool (pkB width xs)]) ∧ Below w.heap.size w w' := by
  cases h1 : timedB xs with
  | false =>
    have e0 : pkB width xs = false := by simp [pkB, h1]
    rw [fpT_false e0, e0]
    clear e0
    go_enter Try.func48, Try.ntmps48
    go_wp2_with (go_at_call 74; refine (areTimed_any A n _ xs _ hn hr).mono ?_; rintro e w1 ⟨rfl, hb1⟩)
    go_ret2
    exact ⟨rfl, hb1⟩
  | true =>
    cases h2 : inB width 1 100000 with
    | false =>
      have e0 : pkB width xs = false := by simp [pkB, h2]
      rw [fpT_false e0, e0]
      clear e0
      have h3 := inB_not h2
      by_cases h4 : width < 1
      · go_enter Try.func48, Try.ntmps48
        go_wp2_with (go_at_call 74; refine (areTimed_any A n _ xs _ hn hr).mono ?_; rintro e w1 ⟨rfl, hb1⟩)
        all_goals first | exact (show False by omega).elim | (go_ret2; exact ⟨rfl, hb1⟩)
      · go_enter Try.func48, Try.ntmps48
        go_wp2_with (go_at_call 74; refine (areTimed_any A n _ xs _ hn hr).mono ?_; rintro e w1 ⟨rfl, hb1⟩)
        all_goals first | exact (show False by omega).elim | (go_ret2; exact ⟨rfl, hb1⟩)
    | true =>
      have e0 : pkB width xs = true := by simp [pkB, h1, h2]
      rw [fpT_true e0, e0]
      clear e0
      have hl : xs.length = n := by have h1 := hr.1; rw [flat_len encTimed 7 encTimed_len] at h1; omega
      have h60 : n ≤ 60 := by have := timed_len h1; omega
      have hwb := inB_iff.1 h2
      have HL := Lib.hid hl
      have HTR := Lib.hid h1
      clear hl
      have h5 := inB_iff.1 h2
      have h6 := h5.1
      have h7 := h5.2
      have g6 : decide (width < 1) = false := by simp; omega
      have g7 : decide (100000 < width) = false := by simp; omega
      go_enter Try.func48, Try.ntmps48
      go_wp2_with (go_at_call 74; refine (areTimed_any A n _ xs _ hn hr).mono ?_; rintro e w1 ⟨rfl, hb1⟩)
      clear h1 h2
      go_loopw [6, 24] (PkOut w n width xs) (fun _ i _ => n - (intOf i).toNat)
      case atStart => exact ⟨0, Nat.zero_le _, rfl, rfl, hb1⟩
      case round =>
        obtain ⟨k, hk, rfl, rfl, hb⟩ := hrel
        by_cases hlt : k < n
        · obtain ⟨wo, rfl⟩ : ∃ wo : World, wo = wr := ⟨_, rfl⟩
          obtain ⟨b, o, rfl, hblb, hcellb⟩ := hr.2 (by omega)
          have hblrbx : b < wo.heap.size := Nat.lt_of_lt_of_le hblb hb.size
          have hlxx : k < xs.length := by rw [HL.out]; omega
          have hxx : xs[k]? = some xs[k] := List.getElem?_eq_getElem hlxx
          generalize xs[k] = x at hxx
          have c0 : wo.cell? ⟨b, o + (k * 7 + 0), none⟩ = some (.int .i64 x.tick) := (hb.cell (p := ⟨b, o + (k * 7 + 0), none⟩) hblb).trans (hcellb _ _ ((flat_get encTimed 7 encTimed_len xs k 0 x hxx (by omega)).trans rfl))
          have c1 : wo.cell? ⟨b, o + (k * 7 + 1), none⟩ = some (.int .i64 x.packet.id) := (hb.cell (p := ⟨b, o + (k * 7 + 1), none⟩) hblb).trans (hcellb _ _ ((flat_get encTimed 7 encTimed_len xs k 1 x hxx (by omega)).trans rfl))
          have c2 : wo.cell? ⟨b, o + (k * 7 + 2), none⟩ = some (.int .i64 x.packet.source) := (hb.cell (p := ⟨b, o + (k * 7 + 2), none⟩) hblb).trans (hcellb _ _ ((flat_get encTimed 7 encTimed_len xs k 2 x hxx (by omega)).trans rfl))
          have c3 : wo.cell? ⟨b, o + (k * 7 + 3), none⟩ = some (.int .i64 x.packet.dest) := (hb.cell (p := ⟨b, o + (k * 7 + 3), none⟩) hblb).trans (hcellb _ _ ((flat_get encTimed 7 encTimed_len xs k 3 x hxx (by omega)).trans rfl))
          have c4 : wo.cell? ⟨b, o + (k * 7 + 4), none⟩ = some (.int .i64 x.packet.port) := (hb.cell (p := ⟨b, o + (k * 7 + 4), none⟩) hblb).trans (hcellb _ _ ((flat_get encTimed 7 encTimed_len xs k 4 x hxx (by omega)).trans rfl))
          have c5 : wo.cell? ⟨b, o + (k * 7 + 5), none⟩ = some (.int .i64 x.packet.mark) := (hb.cell (p := ⟨b, o + (k * 7 + 5), none⟩) hblb).trans (hcellb _ _ ((flat_get encTimed 7 encTimed_len xs k 5 x hxx (by omega)).trans rfl))
          have c6 : wo.cell? ⟨b, o + (k * 7 + 6), none⟩ = some (.int .i64 x.packet.size) := (hb.cell (p := ⟨b, o + (k * 7 + 6), none⟩) hblb).trans (hcellb _ _ ((flat_get encTimed 7 encTimed_len xs k 6 x hxx (by omega)).trans rfl))
          simp only [Nat.add_zero, ← Nat.add_assoc] at c0 c1 c2 c3 c4 c5 c6
          have HX := Lib.hid hxx
          clear hxx hlxx
          have hxb := (timed_at HTR.out HX.out).1
          have hsu := peakTo_succ (width := width) HX.out
          have HSU := Lib.hid hsu
          clear hsu
          have hyl : (xs.drop k).length = n - k := by rw [List.length_drop, HL.out]
          have HYL := Lib.hid hyl
          clear hyl
          have HCELL := Lib.hid hcellb
          clear hcellb
          generalize hmm : peakTo width xs k = m0 at *
          have HMM := Lib.hid hmm
          clear hmm
          have k0 : (0 : Int) ≤ (k : Int) := by omega
          have k1 : (k : Int) < (n : Int) := by omega
          have B7 := Blk.new wo 58 [.int .i64 x.tick, .int .i64 x.packet.id, .int .i64 x.packet.source, .int .i64 x.packet.dest, .int .i64 x.packet.port, .int .i64 x.packet.mark, .int .i64 x.packet.size]
          go_wp2_with fail
          go_loopw [8, 31] (PkIn w (fun _ => True) (pkP width x.tick) (xs.drop k)) (fun _ i _ => n - (intOf i).toNat)
          case atStart => exact ⟨0, Nat.zero_le _, rfl, rfl, trivial, hb⟩
          case round =>
            obtain ⟨j, hj, rfl, rfl, B8, hb2⟩ := hrel
            rw [HYL.out] at hj
            have hbd := sumIf_bd (pkP width x.tick) ((xs.drop k).take j) (mem_at fun i y hy => by
              rw [List.getElem?_take] at hy
              split at hy
              · rw [List.getElem?_drop] at hy; exact (timed_at HTR.out hy).2
              · cases hy)
            have hl2 : ((xs.drop k).take j).length ≤ 60 := by rw [List.length_take]; omega
            generalize hs : sumIf (pkP width x.tick) ((xs.drop k).take j) = sa at *
            have HS := Lib.hid hs
            clear hs
            have sb1 : sa ≤ 90000 := by omega
            clear hl2
            skip
            by_cases hlj : j < n - k
            · have hbr2 : b < wr.heap.size := Nat.lt_of_lt_of_le hblb hb2.size
              have hlx2 : k + j < xs.length := by rw [HL.out]; omega
              have hy : xs[k + j]? = some xs[k + j] := List.getElem?_eq_getElem hlx2
              generalize xs[k + j] = y at hy
              have hyd : (xs.drop k)[j]? = some y := by rw [List.getElem?_drop]; exact hy
              have hyb := timed_at HTR.out hy
              have e0 : wr.cell? ⟨b, o + ((k + j) * 7 + 0), none⟩ = some (.int .i64 y.tick) := (hb2.cell (p := ⟨b, o + ((k + j) * 7 + 0), none⟩) hblb).trans (HCELL.out _ _ ((flat_get encTimed 7 encTimed_len xs (k + j) 0 y hy (by omega)).trans rfl))
              rw [show o + ((k + j) * 7 + 0) = o + k * 7 + j * 7 by omega] at e0
              have e1 : wr.cell? ⟨b, o + ((k + j) * 7 + 1), none⟩ = some (.int .i64 y.packet.id) := (hb2.cell (p := ⟨b, o + ((k + j) * 7 + 1), none⟩) hblb).trans (HCELL.out _ _ ((flat_get encTimed 7 encTimed_len xs (k + j) 1 y hy (by omega)).trans rfl))
              rw [show o + ((k + j) * 7 + 1) = o + k * 7 + j * 7 + 1 by omega] at e1
              have e2 : wr.cell? ⟨b, o + ((k + j) * 7 + 2), none⟩ = some (.int .i64 y.packet.source) := (hb2.cell (p := ⟨b, o + ((k + j) * 7 + 2), none⟩) hblb).trans (HCELL.out _ _ ((flat_get encTimed 7 encTimed_len xs (k + j) 2 y hy (by omega)).trans rfl))
              rw [show o + ((k + j) * 7 + 2) = o + k * 7 + j * 7 + 2 by omega] at e2
              have e3 : wr.cell? ⟨b, o + ((k + j) * 7 + 3), none⟩ = some (.int .i64 y.packet.dest) := (hb2.cell (p := ⟨b, o + ((k + j) * 7 + 3), none⟩) hblb).trans (HCELL.out _ _ ((flat_get encTimed 7 encTimed_len xs (k + j) 3 y hy (by omega)).trans rfl))
              rw [show o + ((k + j) * 7 + 3) = o + k * 7 + j * 7 + 3 by omega] at e3
              have e4 : wr.cell? ⟨b, o + ((k + j) * 7 + 4), none⟩ = some (.int .i64 y.packet.port) := (hb2.cell (p := ⟨b, o + ((k + j) * 7 + 4), none⟩) hblb).trans (HCELL.out _ _ ((flat_get encTimed 7 encTimed_len xs (k + j) 4 y hy (by omega)).trans rfl))
              rw [show o + ((k + j) * 7 + 4) = o + k * 7 + j * 7 + 4 by omega] at e4
              have e5 : wr.cell? ⟨b, o + ((k + j) * 7 + 5), none⟩ = some (.int .i64 y.packet.mark) := (hb2.cell (p := ⟨b, o + ((k + j) * 7 + 5), none⟩) hblb).trans (HCELL.out _ _ ((flat_get encTimed 7 encTimed_len xs (k + j) 5 y hy (by omega)).trans rfl))
              rw [show o + ((k + j) * 7 + 5) = o + k * 7 + j * 7 + 5 by omega] at e5
              have e6 : wr.cell? ⟨b, o + ((k + j) * 7 + 6), none⟩ = some (.int .i64 y.packet.size) := (hb2.cell (p := ⟨b, o + ((k + j) * 7 + 6), none⟩) hblb).trans (HCELL.out _ _ ((flat_get encTimed 7 encTimed_len xs (k + j) 6 y hy (by omega)).trans rfl))
              rw [show o + ((k + j) * 7 + 6) = o + k * 7 + j * 7 + 6 by omega] at e6
              have g0 : wr.cell? ⟨b, o + (k * 7 + 0), none⟩ = some (.int .i64 x.tick) := (hb2.cell (p := ⟨b, o + (k * 7 + 0), none⟩) hblb).trans (HCELL.out _ _ ((flat_get encTimed 7 encTimed_len xs k 0 x HX.out (by omega)).trans rfl))
              rw [Nat.add_zero] at g0
              have HST := Lib.hid (fun (v : Int) (hv : v = sumF (pkP width x.tick) sa y) (wz : World) (hBz : (fun _ => True) wz) (hz : Below w.heap.size w wz) => pkIn_step (G := (fun _ => True)) hyd (by rw [HYL.out]; exact hlj) HS.out hv hBz hz)
              clear hyd hy c0 c1 c2 c3 c4 c5 c6
              cases hg : decide (y.tick < x.tick + width) with
              | false =>
                have HV := Lib.hid (show sa = sumF (pkP width x.tick) sa y by simp [sumF, pkP, hg])
                have hg2 : decide (y.tick - x.tick < width) = false := by have := of_decide_eq_false hg; exact decide_eq_false (by omega)
                clear hg
                have hwr := wrap_in (y.tick - x.tick) (by omega) (by omega)
                go_wp2_with fail
                go_quiet (fail)
                go_wp2_with fail
                go_roundw
                case rel => exact HST.out _ HV.out _ trivial (ext_drewN (ext_alloc hb2 _) _)
                case measure => simp [intOf]; omega
              | true =>
                have HV := Lib.hid (show sa + y.packet.size = sumF (pkP width x.tick) sa y by simp [sumF, pkP, hg])
                have hg2 : decide (y.tick - x.tick < width) = true := by have := of_decide_eq_true hg; exact decide_eq_true (by omega)
                clear hg
                have hwr := wrap_in (y.tick - x.tick) (by omega) (by omega)
                go_wp2_with fail
                go_quiet (fail)
                go_wp2_with fail
                go_roundw
                case rel => exact HST.out _ HV.out _ trivial (ext_drewN (ext_alloc hb2 _) _)
                case measure => simp [intOf]; omega
            · go_wp2_with fail
              all_goals go_roundw
              case rel => exact ⟨k + 1, by omega, by go_num, by rw [HSU.out, ← HS.out, List.take_of_length_le (by rw [HYL.out]; omega), max_if], hb2⟩
              case measure => simp [intOf]; omega
        · go_wp2_with fail
          go_ret2
          exact ⟨by rw [HL.out, show k = n by omega]; rfl, hb⟩

set_option maxHeartbeats 4000000 in
theorem walkPeakIn (Axs : Option Addr) (nxs cxs : Nat) (xs : List Timed) (hnxs : nxs ≤ 9223372036854775807) (width : Int) (w : World) (hrxs : Rd w 7 Axs nxs (xs.flatMap encTimed)) :
    Calls Try.prog 12 #[.slice Axs nxs cxs, .int .i64 width] w fun e w' => e = .returned (.bool true) ∧ Below w.heap.size w w' := by
  by_cases hbigxs : 1048576 < nxs
  · go_enter Try.func12, Try.ntmps12
    go_wp2_with (first | (go_at_call 43; refine (szTimedS_any Axs nxs cxs _ _ hnxs (by omega) (by omega)).mono ?_; rintro e w1 ⟨rfl, rfl⟩; have hsxs : (if (1048576 : Int) < (nxs : Int) then (-1 : Int) else 1048576 - nxs) = -1 := by {{ split <;> omega }}; rw [hsxs]; clear hsxs) | fail)
    go_ret
    exact ⟨rfl, ext_refl w⟩
  have hmxs : nxs ≤ 1048576 := by omega
  have z0 : Below w.heap.size w w := ext_refl w
  go_enter Try.func12, Try.ntmps12
  go_wp2_with fail
  refine (szTimedS_any Axs nxs cxs _ _ hnxs (by omega) (by omega)).mono ?_; rintro e w' ⟨rfl, rfl⟩
  have hsxs : (if (1048576 : Int) < (nxs : Int) then (-1 : Int) else 1048576 - nxs) = 1048576 - nxs := by { split <;> omega }
  rw [hsxs]
  clear hsxs
  go_wp2_with fail
  refine (toTimedS_any Axs nxs cxs xs _ hmxs (hrxs.below z0)).mono ?_; rintro e w1 ⟨gt1, rfl, owt1, hb1⟩
  have ot11 := own_base owt1 z0.size
  have z1 := ext_trans z0 hb1
  go_wp2_with fail
  refine (specPeakIn_any _ nxs xs width _ hmxs (Rd.of_own ot11)).mono ?_; rintro e w2 ⟨rfl, hb2⟩
  have ot12 := own_ext ot11 hb2
  have z2 := ext_trans z1 hb2
  go_wp2_with fail
  refine (toTimedS_any Axs nxs cxs xs _ hmxs (hrxs.below z2)).mono ?_; rintro e w3 ⟨gxxs, rfl, owxxs, hb3⟩
  have apxxst1 := apart_before ot12.lt owxxs.lt
  have ot13 := own_ext ot12 hb3
  have oxxs3 := own_base owxxs z2.size
  have z3 := ext_trans z2 hb3
  go_wp2_with fail
  refine (implPeakIn_any _ nxs xs width _ hmxs (Rd.of_own oxxs3)).mono ?_; rintro e w4 ⟨rfl, hb4⟩
  have ot14 := own_ext ot13 hb4
  have oxxs4 := own_ext oxxs3 hb4
  have z4 := ext_trans z3 hb4
  go_wp2_with fail
  refine (toTimedS_any Axs nxs cxs xs _ hmxs (hrxs.below z4)).mono ?_; rintro e w5 ⟨gt3, rfl, owt3, hb5⟩
  have apt3t1 := apart_before ot14.lt owt3.lt
  have ot15 := own_ext ot14 hb5
  have apt3xxs := apart_before oxxs4.lt owt3.lt
  have oxxs5 := own_ext oxxs4 hb5
  have ot35 := own_base owt3 z4.size
  have z5 := ext_trans z4 hb5
  go_wp2_with fail
  refine (eqTimedS_same _ _ nxs _ _ xs _ hmxs (Rd.of_own oxxs5) (Rd.of_own ot35)).mono ?_; rintro e w6 ⟨rfl, hb6⟩
  have ot16 := own_ext ot15 hb6
  have oxxs6 := own_ext oxxs5 hb6
  have ot36 := own_ext ot35 hb6
  have z6 := ext_trans z5 hb6
  go_wp2_with fail
  go_ret
  exact ⟨rfl, z6⟩

end Go.Proofs.Ytnnihiajggdplaa