/- WaitsIn: contracts of the program's and the reference's; the law's walk. -/
import Derived.Test.YtgdccclpibbbeaaBaD
import Derived.Deep.RegionHeld3
namespace Go.Proofs.Ytgdccclpibbbeaa
open Go.RowKit

def waitsB (xs : List Marked) (ss : List Int) : Bool := arrB xs && sentB xs ss
def wait1 (t : Int) (x : Marked) : Int := if t = -1 then -1 else t - x.tick
def waitTo (xs : List Marked) (ss : List Int) (k : Nat) : List Int := (List.zipWith wait1 ss xs).take k
def waitsR (xs : List Marked) (ss : List Int) : List Int := if waitsB xs ss then List.zipWith wait1 ss xs else []
theorem waitsR_len (xs : List Marked) (ss : List Int) : (waitsR xs ss).length ≤ 40 := by
  unfold waitsR
  split
  · rename_i h
    simp only [waitsB, Bool.and_eq_true] at h
    have := arr_len h.1
    simp; omega
  · simp
theorem waitTo_succ {xs : List Marked} {ss : List Int} {k : Nat} {t : Int} {x : Marked} (ht : ss[k]? = some t) (hx : xs[k]? = some x) : waitTo xs ss (k + 1) = waitTo xs ss k ++ [wait1 t x] := by
  unfold waitTo
  exact take_snoc (by simp [List.getElem?_zipWith, ht, hx])
theorem waitTo_full {xs : List Marked} {ss : List Int} {k : Nat} (h : ss.length ≤ k) : waitTo xs ss k = List.zipWith wait1 ss xs := by
  unfold waitTo
  exact List.take_of_length_le (by simp; omega)
def WaitRel (w : World) (ty : TypeId) (n : Nat) (xs : List Marked) (ss : List Int) (v i : Value) (wr : World) : Prop := ∃ k : Nat, k ≤ n ∧ i = .int .i64 k ∧ OwnL w ty v (waitTo xs ss k) wr
def FitRelW (w : World) (n : Nat) (xs : List Marked) (ss : List Int) (i : Value) (wr : World) : Prop := FitRel n xs ss i ∧ Below w.heap.size w wr

set_option maxHeartbeats 2000000 in
theorem bdSent_any (A : Option Addr) (n c : Nat) (xs : List Marked) (B : Option Addr) (m d : Nat) (ss : List Int) (w : World) (hn : n ≤ 1048576) (hr : Rd w 2 A n (xs.flatMap encMarked)) (hm : m ≤ 1048576) (hs : Rd w 1 B m (ss.map (Value.int .i64))) :
    Calls Try.prog 43 #[.slice A n c, .slice B m d] w fun e w' => e = .returned (.bool (waitsB xs ss)) ∧ Below w.heap.size w w' := by
  have hl : xs.length = n := by have h1 := hr.1; rw [flat_len encMarked 2 encMarked_len] at h1; omega
  have hlc := hs.len1
  cases ha : arrB xs with
  | false =>
    have HF := Lib.hid (show waitsB xs ss = false by simp [waitsB, ha])
    clear hl hlc
    go_enter Try.func43, Try.ntmps43
    go_wp2_with (go_at_call 56; refine (bdArrivals_any _ _ _ xs _ hn hr).mono ?_; rintro e w1 ⟨rfl, hb1⟩)
    go_ret
    exact ⟨ret_bool (by rw [HF.out]), hb1⟩
  | true =>
    have HW := Lib.hid (show waitsB xs ss = sentB xs ss by simp [waitsB, ha])
    by_cases hmn : m = n
    · subst hmn
      have HL := Lib.hid hl
      have HLC := Lib.hid hlc
      clear hl hlc
      go_enter Try.func43, Try.ntmps43
      go_wp2_with (go_at_call 56; refine (bdArrivals_any _ _ _ xs _ hn hr).mono ?_; rintro e w1 ⟨rfl, hb1⟩)
      have hr1 := hr.below hb1
      have hs1 := hs.below hb1
      clear hr hs
      go_loop [19] (FitRel m xs ss) (fun i => m - (intOf i).toNat)
      case atStart => exact ⟨0, Nat.zero_le _, rfl, fun j hj => by omega⟩
      case round =>
        obtain ⟨k, hk, rfl, hall⟩ := hrel
        by_cases hlt : k < m
        · obtain ⟨b, o, t, rfl, hbl, ht, hc⟩ := hs1.int k hlt
          obtain ⟨b2, o2, rfl, hbl2, hcell⟩ := hr1.2 (by omega)
          have hlx : k < xs.length := by rw [HL.out]; exact hlt
          have hx : xs[k]? = some xs[k] := List.getElem?_eq_getElem hlx
          generalize xs[k] = x at hx
          have c0 : w1.cell? ⟨b2, o2 + (k * 2 + 0), none⟩ = some (.int .i64 x.tick) := hcell _ _ ((flat_get encMarked 2 encMarked_len xs k 0 x hx (by omega)).trans rfl)
          simp only [Nat.add_zero] at c0
          have HT := Lib.hid ht
          have HX := Lib.hid hx
          have HA := Lib.hid hall
          clear ht hx hall hcell
          by_cases h1 : t = -1
          · subst h1
            go_wp2_with fail
            go_round
            case rel => exact fitRel_step hlt HT.out HX.out rfl HA.out
            case measure => simp [intOf]; omega
          · have g1 : (t != -1) = true := by simpa using h1
            have H1 := Lib.hid h1
            clear h1
            cases h2 : inB t x.tick 200000 with
            | false =>
              go_wp2_with (go_at_call 52; refine (l1In_any _ _ _ _).mono ?_; rintro e w' ⟨rfl, rfl⟩)
              go_ret
              exact ⟨ret_bool (by rw [HW.out, sent_false HT.out HX.out (by have := H1.out; simp [fitB, h2, this])]), hb1⟩
            | true =>
              go_wp2_with (go_at_call 52; refine (l1In_any _ _ _ _).mono ?_; rintro e w' ⟨rfl, rfl⟩)
              go_round
              case rel => exact fitRel_step hlt HT.out HX.out (by simp [fitB, h2]) HA.out
              case measure => simp [intOf]; omega
        · go_wp2_with fail
          go_ret
          exact ⟨ret_bool (by rw [HW.out, sent_true (by rw [HL.out, HLC.out]) (fun j hj => hall j (by rw [HLC.out] at hj; omega))]), hb1⟩
    · have g1 : ((m : Int) != (n : Int)) = true := by simp; omega
      have HF := Lib.hid (show waitsB xs ss = false by simp [waitsB, sentB, hl, hlc, hmn])
      clear hmn hl hlc
      go_enter Try.func43, Try.ntmps43
      go_wp2_with (go_at_call 56; refine (bdArrivals_any _ _ _ xs _ hn hr).mono ?_; rintro e w1 ⟨rfl, hb1⟩)
      go_ret
      exact ⟨ret_bool (by rw [HF.out]), hb1⟩

set_option maxHeartbeats 4000000 in
theorem specWaitsIn_any (A : Option Addr) (n c : Nat) (xs : List Marked) (B : Option Addr) (m d : Nat) (ss : List Int) (w : World) (hn : n ≤ 1048576) (hr : Rd w 2 A n (xs.flatMap encMarked)) (hm : m ≤ 1048576) (hs : Rd w 1 B m (ss.map (Value.int .i64))) :
    Calls Try.prog 25 #[.slice A n c, .slice B m d] w (RetInts 3 w (waitsR xs ss) (waitsB xs ss)) := by
  obtain ⟨i0, hi, hz0, hz1, hz2⟩ := info_parts infoIntB
  have hl : xs.length = n := by have h1 := hr.1; rw [flat_len encMarked 2 encMarked_len] at h1; omega
  have hlc := hs.len1
  cases h : waitsB xs ss with
  | false =>
    have hR : waitsR xs ss = [] := by simp [waitsR, h]
    rw [hR]
    clear hR
    go_enter Try.func25, Try.ntmps25
    go_wp2_with (go_at_call 43; refine (bdSent_any _ _ _ xs _ _ _ ss _ hn hr hm hs).mono ?_; rintro e w1 ⟨rfl, hb1⟩)
    go_ret2
    exact retInts_nil hb1
  | true =>
    have hR : waitsR xs ss = List.zipWith wait1 ss xs := by simp [waitsR, h]
    rw [hR]
    clear hR
    have hq := h
    simp only [waitsB, Bool.and_eq_true] at hq
    have h1 := hq.1
    have h2 := hq.2
    have hmn : m = n := by have := sent_len h2; omega
    subst hmn
    have h40 : m ≤ 40 := by have := arr_len h1; omega
    have HL := Lib.hid hl
    have HLC := Lib.hid hlc
    clear hl hlc hq
    go_enter Try.func25, Try.ntmps25
    go_wp2_with (go_at_call 43; refine (bdSent_any _ _ _ xs _ _ _ ss _ hn hr hm hs).mono ?_; rintro e w1 ⟨rfl, hb1⟩)
    go_loopw [6, 15] (WaitRel w 3 m xs ss) (fun _ i _ => m - (intOf i).toNat)
    case atStart => exact ⟨0, Nat.zero_le _, rfl, ownL_nil hb1⟩
    case round =>
      obtain ⟨k, hk, rfl, hO2⟩ := hrel
      by_cases hlt : k < m
      · obtain ⟨b, o, t, rfl, hbl, ht, hc⟩ := hs.int k hlt
        obtain ⟨b2, o2, rfl, hbl2, hcell⟩ := hr.2 (by omega)
        have hlx : k < xs.length := by rw [HL.out]; exact hlt
        have hx : xs[k]? = some xs[k] := List.getElem?_eq_getElem hlx
        generalize xs[k] = x at hx
        have c0 : wr.cell? ⟨b2, o2 + (k * 2 + 0), none⟩ = some (.int .i64 x.tick) := (hO2.2.cell (p := ⟨b2, o2 + (k * 2 + 0), none⟩) hbl2).trans (hcell _ _ ((flat_get encMarked 2 encMarked_len xs k 0 x hx (by omega)).trans rfl))
        simp only [Nat.add_zero] at c0
        have hc' := (hO2.2.cell (p := ⟨b, o + k, none⟩) hbl).trans hc
        have hbs : w.heap.size ≤ wr.heap.size := hO2.2.size
        have hsu := waitTo_succ ht hx
        have hfit := sent_at h2 ht hx
        have hxb := (arr_at h1 hx).1
        have hlo : (waitTo xs ss k).length ≤ 1000 := by unfold waitTo; have := List.length_take_le k (List.zipWith wait1 ss xs); omega
        generalize waitTo xs ss k = l at hO2 hsu hlo
        have HSU := Lib.hid hsu
        have HLO := Lib.hid hlo
        clear ht hx hcell hc hsu hlo
        by_cases ht1 : t = -1
        · subst ht1
          clear hfit
          have HWV := Lib.hid (show wait1 (-1) x = -1 by simp [wait1])
          go_wp2_with (at_builtin; refine wpList_append_own _ rfl (.tmp 29) (.tmp 31) 22 rfl w.heap.size 3 i0 (.int .i64 0) 1 8 Try.underlying22 hi hz0 hz1 hz2 rfl (by decide) _ _ _ rfl (hO2.1.alloc _) ⟨wr.heap.size, 0, none⟩ 1 1 [.int .i64 (-1)] rfl rfl ?p1 ?p2 ?p3 ?p4 ?p5 ?_)
          case p1 => exact cell_one_new _ _ _
          case p2 => simp [Value.oneCell']
          case p3 => have := HLO.out; unfold maxLen; omega
          case p4 => have := HLO.out; omega
          case p5 => simp; omega
          intro v' w3 hown1 hg1 _
          have hO3 := ownL_push hO2 hown1 hg1
          have HO3 := Lib.hid hO3
          clear hO3 hown1 hg1
          go_wp2_with fail
          go_roundw
          case rel => first | exact ⟨k + 1, by omega, by go_num, by rw [HSU.out, HWV.out]; exact HO3.out⟩ | ((repeat apply Exists.intro); exact ⟨⟨k + 1, by omega, by go_num, by rw [HSU.out, HWV.out]; exact HO3.out⟩, rfl⟩)
          case measure => simp [intOf]; omega
        · have g1 : (t != -1) = true := by simpa using ht1
          have hb4 : x.tick ≤ t ∧ t ≤ 200000 := by rcases hfit with hf | hf; exact absurd hf ht1; exact hf
          have HWV := Lib.hid (show wait1 t x = t - x.tick by simp [wait1, ht1])
          have t0 : 0 ≤ t := by omega
          clear hfit ht1
          go_wp2_with (at_builtin; refine wpList_append_own _ rfl (.tmp 29) (.tmp 31) 22 rfl w.heap.size 3 i0 (.int .i64 0) 1 8 Try.underlying22 hi hz0 hz1 hz2 rfl (by decide) _ _ _ rfl (hO2.1.alloc _) ⟨wr.heap.size, 0, none⟩ 1 1 [.int .i64 (t - x.tick)] rfl rfl ?q1 ?q2 ?q3 ?q4 ?q5 ?_)
          case q1 => exact cell_one_new _ _ _
          case q2 => simp [Value.oneCell']
          case q3 => have := HLO.out; unfold maxLen; omega
          case q4 => have := HLO.out; omega
          case q5 => simp; omega
          intro v' w3 hown1 hg1 _
          have hO3 := ownL_push hO2 hown1 hg1
          have HO3 := Lib.hid hO3
          clear hO3 hown1 hg1
          go_wp2_with fail
          go_roundw
          case rel => first | exact ⟨k + 1, by omega, by go_num, by rw [HSU.out, HWV.out]; exact HO3.out⟩ | ((repeat apply Exists.intro); exact ⟨⟨k + 1, by omega, by go_num, by rw [HSU.out, HWV.out]; exact HO3.out⟩, rfl⟩)
          case measure => simp [intOf]; omega
      · go_wp2_with fail
        go_ret2
        have hk2 : k = m := by omega
        subst hk2
        rw [waitTo_full (by rw [HLC.out]; omega)] at hO2
        exact ownL_ret hO2

set_option maxHeartbeats 4000000 in
theorem implWaitsIn_any (A : Option Addr) (n c : Nat) (xs : List Marked) (B : Option Addr) (m d : Nat) (ss : List Int) (w : World) (hn : n ≤ 1048576) (hr : Rd w 2 A n (xs.flatMap encMarked)) (hm : m ≤ 1048576) (hs : Rd w 1 B m (ss.map (Value.int .i64))) :
    Calls Try.prog 27 #[.slice A n c, .slice B m d] w (RetInts 3 w (waitsR xs ss) (waitsB xs ss)) := by
  obtain ⟨i0, hi, hz0, hz1, hz2⟩ := info_parts infoIntB
  have hl : xs.length = n := by have h1 := hr.1; rw [flat_len encMarked 2 encMarked_len] at h1; omega
  have hlc := hs.len1
  cases h : waitsB xs ss with
  | false =>
    have hR : waitsR xs ss = [] := by simp [waitsR, h]
    rw [hR]
    clear hR
    cases h1 : arrB xs with
    | false =>
      go_enter Try.func27, Try.ntmps27
      go_wp2_with (first | (go_at_call 45; refine (areMarked_any _ _ _ xs _ hn hr).mono ?_; rintro e w1 ⟨rfl, hb1⟩) | (go_at_call 46; refine (sentFits_any _ _ _ xs _ _ _ ss _ hn (hr.below hb1) hm (hs.below hb1)).mono ?_; rintro e w2 ⟨rfl, rfl⟩))
      go_ret2
      exact retInts_nil hb1
    | true =>
      have h2 : sentB xs ss = false := by simpa [waitsB, h1] using h
      go_enter Try.func27, Try.ntmps27
      go_wp2_with (first | (go_at_call 45; refine (areMarked_any _ _ _ xs _ hn hr).mono ?_; rintro e w1 ⟨rfl, hb1⟩) | (go_at_call 46; refine (sentFits_any _ _ _ xs _ _ _ ss _ hn (hr.below hb1) hm (hs.below hb1)).mono ?_; rintro e w2 ⟨rfl, rfl⟩))
      go_ret2
      exact retInts_nil hb1
  | true =>
    have hR : waitsR xs ss = List.zipWith wait1 ss xs := by simp [waitsR, h]
    rw [hR]
    clear hR
    have hq := h
    simp only [waitsB, Bool.and_eq_true] at hq
    have h1 := hq.1
    have h2 := hq.2
    have hmn : m = n := by have := sent_len h2; omega
    subst hmn
    have h40 : m ≤ 40 := by have := arr_len h1; omega
    have HL := Lib.hid hl
    have HLC := Lib.hid hlc
    clear hl hlc hq
    go_enter Try.func27, Try.ntmps27
    go_wp2_with (first | (go_at_call 45; refine (areMarked_any _ _ _ xs _ hn hr).mono ?_; rintro e w1 ⟨rfl, hb1⟩) | (go_at_call 46; refine (sentFits_any _ _ _ xs _ _ _ ss _ hn (hr.below hb1) hm (hs.below hb1)).mono ?_; rintro e w2 ⟨rfl, rfl⟩))
    go_loopw [6, 21] (WaitRel w 3 m xs ss) (fun _ i _ => m - (intOf i).toNat)
    case atStart => exact ⟨0, Nat.zero_le _, rfl, ownL_empty hb1⟩
    case round =>
      obtain ⟨k, hk, rfl, hO2⟩ := hrel
      by_cases hlt : k < m
      · obtain ⟨b, o, t, rfl, hbl, ht, hc⟩ := hs.int k hlt
        obtain ⟨b2, o2, rfl, hbl2, hcell⟩ := hr.2 (by omega)
        have hlx : k < xs.length := by rw [HL.out]; exact hlt
        have hx : xs[k]? = some xs[k] := List.getElem?_eq_getElem hlx
        generalize xs[k] = x at hx
        have c0 : wr.cell? ⟨b2, o2 + (k * 2 + 0), none⟩ = some (.int .i64 x.tick) := (hO2.2.cell (p := ⟨b2, o2 + (k * 2 + 0), none⟩) hbl2).trans (hcell _ _ ((flat_get encMarked 2 encMarked_len xs k 0 x hx (by omega)).trans rfl))
        simp only [Nat.add_zero] at c0
        have hc' := (hO2.2.cell (p := ⟨b, o + k, none⟩) hbl).trans hc
        have hbs : w.heap.size ≤ wr.heap.size := hO2.2.size
        have hsu := waitTo_succ ht hx
        have hfit := sent_at h2 ht hx
        have hxb := (arr_at h1 hx).1
        have hlo : (waitTo xs ss k).length ≤ 1000 := by unfold waitTo; have := List.length_take_le k (List.zipWith wait1 ss xs); omega
        generalize waitTo xs ss k = l at hO2 hsu hlo
        have HSU := Lib.hid hsu
        have HLO := Lib.hid hlo
        clear ht hx hcell hc hsu hlo
        by_cases ht1 : t = -1
        · subst ht1
          clear hfit
          have HWV := Lib.hid (show wait1 (-1) x = -1 by simp [wait1])
          go_wp2_with (at_builtin; refine wpList_append_own _ rfl (.tmp 35) (.tmp 37) 22 rfl w.heap.size 3 i0 (.int .i64 0) 1 8 Try.underlying22 hi hz0 hz1 hz2 rfl (by decide) _ _ _ rfl (hO2.1.alloc _) ⟨wr.heap.size, 0, none⟩ 1 1 [.int .i64 (-1)] rfl rfl ?p1 ?p2 ?p3 ?p4 ?p5 ?_)
          case p1 => exact cell_one_new _ _ _
          case p2 => simp [Value.oneCell']
          case p3 => have := HLO.out; unfold maxLen; omega
          case p4 => have := HLO.out; omega
          case p5 => simp; omega
          intro v' w3 hown1 hg1 _
          have hO3 := ownL_push hO2 hown1 hg1
          have HO3 := Lib.hid hO3
          clear hO3 hown1 hg1
          go_wp2_with fail
          go_roundw
          case rel => first | exact ⟨k + 1, by omega, by go_num, by rw [HSU.out, HWV.out]; exact HO3.out⟩ | ((repeat apply Exists.intro); exact ⟨⟨k + 1, by omega, by go_num, by rw [HSU.out, HWV.out]; exact HO3.out⟩, rfl⟩)
          case measure => simp [intOf]; omega
        · have g1 : (t != -1) = true := by simpa using ht1
          have hb4 : x.tick ≤ t ∧ t ≤ 200000 := by rcases hfit with hf | hf; exact absurd hf ht1; exact hf
          have HWV := Lib.hid (show wait1 t x = t - x.tick by simp [wait1, ht1])
          have t0 : 0 ≤ t := by omega
          clear hfit ht1
          go_wp2_with (at_builtin; refine wpList_append_own _ rfl (.tmp 35) (.tmp 37) 22 rfl w.heap.size 3 i0 (.int .i64 0) 1 8 Try.underlying22 hi hz0 hz1 hz2 rfl (by decide) _ _ _ rfl (hO2.1.alloc _) ⟨wr.heap.size, 0, none⟩ 1 1 [.int .i64 (t - x.tick)] rfl rfl ?q1 ?q2 ?q3 ?q4 ?q5 ?_)
          case q1 => exact cell_one_new _ _ _
          case q2 => simp [Value.oneCell']
          case q3 => have := HLO.out; unfold maxLen; omega
          case q4 => have := HLO.out; omega
          case q5 => simp; omega
          intro v' w3 hown1 hg1 _
          have hO3 := ownL_push hO2 hown1 hg1
          have HO3 := Lib.hid hO3
          clear hO3 hown1 hg1
          go_wp2_with fail
          go_roundw
          case rel => first | exact ⟨k + 1, by omega, by go_num, by rw [HSU.out, HWV.out]; exact HO3.out⟩ | ((repeat apply Exists.intro); exact ⟨⟨k + 1, by omega, by go_num, by rw [HSU.out, HWV.out]; exact HO3.out⟩, rfl⟩)
          case measure => simp [intOf]; omega
      · go_wp2_with fail
        go_ret2
        have hk2 : k = m := by omega
        subst hk2
        rw [waitTo_full (by rw [HLC.out]; omega)] at hO2
        exact ownL_ret hO2

set_option maxHeartbeats 4000000 in
theorem walkWaitsIn (Axs : Option Addr) (nxs cxs : Nat) (xs : List Marked) (hnxs : nxs ≤ 9223372036854775807) (Ass : Option Addr) (nss css : Nat) (ss : List Int) (hnss : nss ≤ 9223372036854775807) (w : World) (hrxs : Rd w 2 Axs nxs (xs.flatMap encMarked)) (hrss : Rd w 1 Ass nss (ss.flatMap encInt)) :
    Calls Try.prog 7 #[.slice Axs nxs cxs, .slice Ass nss css] w fun e w' => e = .returned (.bool true) ∧ Below w.heap.size w w' := by
  rw [map_flat] at hrss
  by_cases hbigss : 1048576 < nss
  · go_enter Try.func7, Try.ntmps7
    go_wp2_with (first | (go_at_call 24; refine (szMarkedS_any Axs nxs cxs _ _ hnxs (by omega) (by omega)).mono ?_; rintro e w1 ⟨rfl, rfl⟩; have hsxs : (if (1048576 : Int) < (nxs : Int) then (-1 : Int) else 1048576 - nxs) = 1048576 - nxs := by {{ split <;> omega }}; rw [hsxs]; clear hsxs) | fail)
    go_ret
    exact ⟨rfl, ext_refl w⟩
  have hmss : nss ≤ 1048576 := by omega
  by_cases hbigxs : 1048576 < nxs
  · go_enter Try.func7, Try.ntmps7
    go_wp2_with (first | (go_at_call 24; refine (szMarkedS_any Axs nxs cxs _ _ hnxs (by omega) (by omega)).mono ?_; rintro e w1 ⟨rfl, rfl⟩; have hsxs : (if (1048576 : Int) < (nxs : Int) then (-1 : Int) else 1048576 - nxs) = -1 := by {{ split <;> omega }}; rw [hsxs]; clear hsxs) | fail)
    go_ret
    exact ⟨rfl, ext_refl w⟩
  have hmxs : nxs ≤ 1048576 := by omega
  have hR : (waitsR xs ss).length ≤ 1048576 := by have := waitsR_len xs ss; omega
  have z0 : Below w.heap.size w w := ext_refl w
  go_enter Try.func7, Try.ntmps7
  go_wp2_with fail
  refine (szMarkedS_any Axs nxs cxs _ _ hnxs (by omega) (by omega)).mono ?_; rintro e w' ⟨rfl, rfl⟩
  have hsxs : (if (1048576 : Int) < (nxs : Int) then (-1 : Int) else 1048576 - nxs) = 1048576 - nxs := by { split <;> omega }
  rw [hsxs]
  clear hsxs
  go_wp2_with fail
  refine (toMarkedS_any Axs nxs cxs xs _ hmxs (hrxs.below z0)).mono ?_; rintro e w1 ⟨gt1, rfl, owt1, hb1⟩
  have ot11 := own_base owt1 z0.size
  have z1 := ext_trans z0 hb1
  go_wp2_with fail
  refine (toIntS_any Ass nss css ss _ hmss (hrss.below z1)).mono ?_; rintro e w2 ⟨gt2, rfl, owt2, hb2⟩
  have apt2t1 := apart_before ot11.lt owt2.lt
  have ot12 := own_ext ot11 hb2
  have ot22 := own_base owt2 z1.size
  have z2 := ext_trans z1 hb2
  go_wp2_with fail
  refine (specWaitsIn_any _ nxs _ xs _ nss _ ss _ hmxs (Rd.of_own ot12) hmss (Rd.of_own ot22)).mono ?_; rintro e w3 ⟨Aw, Cw, rfl, oww, hb3⟩
  have apwt1 := apart_before ot12.lt oww.lt
  have ot13 := own_ext ot12 hb3
  have apwt2 := apart_before ot22.lt oww.lt
  have ot23 := own_ext ot22 hb3
  have ow3 := own_base oww z2.size
  have z3 := ext_trans z2 hb3
  go_wp2_with fail
  refine (toMarkedS_any Axs nxs cxs xs _ hmxs (hrxs.below z3)).mono ?_; rintro e w4 ⟨gxxs, rfl, owxxs, hb4⟩
  have apxxst1 := apart_before ot13.lt owxxs.lt
  have ot14 := own_ext ot13 hb4
  have apxxst2 := apart_before ot23.lt owxxs.lt
  have ot24 := own_ext ot23 hb4
  have apxxsw := apart_before ow3.lt owxxs.lt
  have ow4 := own_ext ow3 hb4
  have oxxs4 := own_base owxxs z3.size
  have z4 := ext_trans z3 hb4
  go_wp2_with fail
  refine (toIntS_any Ass nss css ss _ hmss (hrss.below z4)).mono ?_; rintro e w5 ⟨gxss, rfl, owxss, hb5⟩
  have apxsst1 := apart_before ot14.lt owxss.lt
  have ot15 := own_ext ot14 hb5
  have apxsst2 := apart_before ot24.lt owxss.lt
  have ot25 := own_ext ot24 hb5
  have apxssw := apart_before ow4.lt owxss.lt
  have ow5 := own_ext ow4 hb5
  have apxssxxs := apart_before oxxs4.lt owxss.lt
  have oxxs5 := own_ext oxxs4 hb5
  have oxss5 := own_base owxss z4.size
  have z5 := ext_trans z4 hb5
  go_wp2_with fail
  refine (implWaitsIn_any _ nxs _ xs _ nss _ ss _ hmxs (Rd.of_own oxxs5) hmss (Rd.of_own oxss5)).mono ?_; rintro e w6 ⟨Ag, Cg, rfl, owg, hb6⟩
  have apgt1 := apart_before ot15.lt owg.lt
  have ot16 := own_ext ot15 hb6
  have apgt2 := apart_before ot25.lt owg.lt
  have ot26 := own_ext ot25 hb6
  have apgw := apart_before ow5.lt owg.lt
  have ow6 := own_ext ow5 hb6
  have apgxxs := apart_before oxxs5.lt owg.lt
  have oxxs6 := own_ext oxxs5 hb6
  have apgxss := apart_before oxss5.lt owg.lt
  have oxss6 := own_ext oxss5 hb6
  have og6 := own_base owg z5.size
  have z6 := ext_trans z5 hb6
  go_wp2_with fail
  refine (eqIntS_same _ _ (waitsR xs ss).length _ _ (waitsR xs ss) _ hR (Rd.of_own og6) (Rd.of_own ow6)).mono ?_; rintro e w7 ⟨rfl, hb7⟩
  have ot17 := own_ext ot16 hb7
  have ot27 := own_ext ot26 hb7
  have ow7 := own_ext ow6 hb7
  have oxxs7 := own_ext oxxs6 hb7
  have oxss7 := own_ext oxss6 hb7
  have og7 := own_ext og6 hb7
  have z7 := ext_trans z6 hb7
  go_wp2_with fail
  refine (toMarkedS_any Axs nxs cxs xs _ hmxs (hrxs.below z7)).mono ?_; rintro e w8 ⟨gt5, rfl, owt5, hb8⟩
  have apt5t1 := apart_before ot17.lt owt5.lt
  have ot18 := own_ext ot17 hb8
  have apt5t2 := apart_before ot27.lt owt5.lt
  have ot28 := own_ext ot27 hb8
  have apt5w := apart_before ow7.lt owt5.lt
  have ow8 := own_ext ow7 hb8
  have apt5xxs := apart_before oxxs7.lt owt5.lt
  have oxxs8 := own_ext oxxs7 hb8
  have apt5xss := apart_before oxss7.lt owt5.lt
  have oxss8 := own_ext oxss7 hb8
  have apt5g := apart_before og7.lt owt5.lt
  have og8 := own_ext og7 hb8
  have ot58 := own_base owt5 z7.size
  have z8 := ext_trans z7 hb8
  go_wp2_with fail
  refine (eqMarkedS_same _ _ nxs _ _ xs _ hmxs (Rd.of_own oxxs8) (Rd.of_own ot58)).mono ?_; rintro e w9 ⟨rfl, hb9⟩
  have ot19 := own_ext ot18 hb9
  have ot29 := own_ext ot28 hb9
  have ow9 := own_ext ow8 hb9
  have oxxs9 := own_ext oxxs8 hb9
  have oxss9 := own_ext oxss8 hb9
  have og9 := own_ext og8 hb9
  have ot59 := own_ext ot58 hb9
  have z9 := ext_trans z8 hb9
  go_wp2_with fail
  refine (toIntS_any Ass nss css ss _ hmss (hrss.below z9)).mono ?_; rintro e w10 ⟨gt6, rfl, owt6, hb10⟩
  have apt6t1 := apart_before ot19.lt owt6.lt
  have ot110 := own_ext ot19 hb10
  have apt6t2 := apart_before ot29.lt owt6.lt
  have ot210 := own_ext ot29 hb10
  have apt6w := apart_before ow9.lt owt6.lt
  have ow10 := own_ext ow9 hb10
  have apt6xxs := apart_before oxxs9.lt owt6.lt
  have oxxs10 := own_ext oxxs9 hb10
  have apt6xss := apart_before oxss9.lt owt6.lt
  have oxss10 := own_ext oxss9 hb10
  have apt6g := apart_before og9.lt owt6.lt
  have og10 := own_ext og9 hb10
  have ot610 := own_base owt6 z9.size
  have z10 := ext_trans z9 hb10
  go_wp2_with fail
  refine (eqIntS_same _ _ nss _ _ ss _ hmss (Rd.of_own oxss10) (Rd.of_own ot610)).mono ?_; rintro e w11 ⟨rfl, hb11⟩
  have ot111 := own_ext ot110 hb11
  have ot211 := own_ext ot210 hb11
  have ow11 := own_ext ow10 hb11
  have oxxs11 := own_ext oxxs10 hb11
  have oxss11 := own_ext oxss10 hb11
  have og11 := own_ext og10 hb11
  have ot611 := own_ext ot610 hb11
  have z11 := ext_trans z10 hb11
  go_wp2_with fail
  refine (markMarkedS_own _ nxs _ _ _ _ _ hmxs (by omega) (by omega) oxxs11).mono ?_; rintro e w12 ⟨rfl, oxxs12, hg12⟩
  have z12 := below_marked z11 oxxs11 (Nat.le_refl _) hg12
  have ot112 := ot111.kept hg12 apxxst1.1
  have ot212 := ot211.kept hg12 apxxst2.1
  have ow12 := ow11.kept hg12 apxxsw.1
  have oxss12 := oxss11.kept hg12 apxssxxs.2
  have og12 := og11.kept hg12 apgxxs.2
  go_wp2_with fail
  refine (markIntS_own _ nss _ _ _ _ _ hmss (by omega) (by omega) oxss12).mono ?_; rintro e w13 ⟨rfl, oxss13, hg13⟩
  have z13 := below_marked z12 oxss12 (Nat.le_refl _) hg13
  have ot113 := ot112.kept hg13 apxsst1.1
  have ot213 := ot212.kept hg13 apxsst2.1
  have ow13 := ow12.kept hg13 apxssw.1
  have oxxs13 := oxxs12.kept hg13 apxssxxs.1
  have og13 := og12.kept hg13 apgxss.2
  go_wp2_with fail
  refine (eqIntS_same _ _ (waitsR xs ss).length _ _ (waitsR xs ss) _ hR (Rd.of_own og13) (Rd.of_own ow13)).mono ?_; rintro e w14 ⟨rfl, hb14⟩
  have ot114 := own_ext ot113 hb14
  have ot214 := own_ext ot213 hb14
  have ow14 := own_ext ow13 hb14
  have oxxs14 := own_ext oxxs13 hb14
  have oxss14 := own_ext oxss13 hb14
  have og14 := own_ext og13 hb14
  have z14 := ext_trans z13 hb14
  go_wp2_with fail
  refine (markIntS_own _ (waitsR xs ss).length _ _ _ 1 _ hR (by omega) (by omega) og14).mono ?_; rintro e w15 ⟨rfl, og15, hg15⟩
  have z15 := below_marked z14 og14 (Nat.le_refl _) hg15
  have ot115 := ot114.kept hg15 apgt1.1
  have ot215 := ot214.kept hg15 apgt2.1
  have ow15 := ow14.kept hg15 apgw.1
  have oxxs15 := oxxs14.kept hg15 apgxxs.1
  have oxss15 := oxss14.kept hg15 apgxss.1
  go_wp2_with fail
  refine (heldIntS_any _ (waitsR xs ss).length _ 1 _ hR (by omega) (by omega) (Rd.of_own og15)).mono ?_; rintro e w16 ⟨rfl, rfl⟩
  go_wp2_with fail
  refine (toMarkedS_any Axs nxs cxs xs _ hmxs (hrxs.below z15)).mono ?_; rintro e w17 ⟨gt7, rfl, owt7, hb17⟩
  have apt7t1 := apart_before ot115.lt owt7.lt
  have ot117 := own_ext ot115 hb17
  have apt7t2 := apart_before ot215.lt owt7.lt
  have ot217 := own_ext ot215 hb17
  have apt7w := apart_before ow15.lt owt7.lt
  have ow17 := own_ext ow15 hb17
  have apt7g := apart_before og15.lt owt7.lt
  have og17 := own_ext og15 hb17
  have ot717 := own_base owt7 z15.size
  have z17 := ext_trans z15 hb17
  go_wp2_with fail
  refine (toIntS_any Ass nss css ss _ hmss (hrss.below z17)).mono ?_; rintro e w18 ⟨gt8, rfl, owt8, hb18⟩
  have apt8t1 := apart_before ot117.lt owt8.lt
  have ot118 := own_ext ot117 hb18
  have apt8t2 := apart_before ot217.lt owt8.lt
  have ot218 := own_ext ot217 hb18
  have apt8w := apart_before ow17.lt owt8.lt
  have ow18 := own_ext ow17 hb18
  have apt8g := apart_before og17.lt owt8.lt
  have og18 := own_ext og17 hb18
  have apt8t7 := apart_before ot717.lt owt8.lt
  have ot718 := own_ext ot717 hb18
  have ot818 := own_base owt8 z17.size
  have z18 := ext_trans z17 hb18
  go_wp2_with fail
  refine (implWaitsIn_any _ nxs _ xs _ nss _ ss _ hmxs (Rd.of_own ot718) hmss (Rd.of_own ot818)).mono ?_; rintro e w19 ⟨Ah, Ch, rfl, owh, hb19⟩
  have apht1 := apart_before ot118.lt owh.lt
  have ot119 := own_ext ot118 hb19
  have apht2 := apart_before ot218.lt owh.lt
  have ot219 := own_ext ot218 hb19
  have aphw := apart_before ow18.lt owh.lt
  have ow19 := own_ext ow18 hb19
  have aphg := apart_before og18.lt owh.lt
  have og19 := own_ext og18 hb19
  have apht7 := apart_before ot718.lt owh.lt
  have ot719 := own_ext ot718 hb19
  have apht8 := apart_before ot818.lt owh.lt
  have ot819 := own_ext ot818 hb19
  have oh19 := own_base owh z18.size
  have z19 := ext_trans z18 hb19
  go_wp2_with fail
  refine (eqIntS_same _ _ (waitsR xs ss).length _ _ (waitsR xs ss) _ hR (Rd.of_own oh19) (Rd.of_own ow19)).mono ?_; rintro e w20 ⟨rfl, hb20⟩
  have ot120 := own_ext ot119 hb20
  have ot220 := own_ext ot219 hb20
  have ow20 := own_ext ow19 hb20
  have og20 := own_ext og19 hb20
  have ot720 := own_ext ot719 hb20
  have ot820 := own_ext ot819 hb20
  have oh20 := own_ext oh19 hb20
  have z20 := ext_trans z19 hb20
  go_wp2_with fail
  refine (heldIntS_any _ (waitsR xs ss).length _ 1 _ hR (by omega) (by omega) (Rd.of_own og20)).mono ?_; rintro e w21 ⟨rfl, rfl⟩
  go_wp2_with fail
  go_ret
  exact ⟨rfl, z20⟩

end Go.Proofs.Ytgdccclpibbbeaa