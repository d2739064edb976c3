/- StillWaiting and SentBetween: contracts of the program's and the reference's; the laws' walks. -/
import Derived.Test.YtooodokpkmfbiaaEvE
namespace Go.Proofs.Ytooodokpkmfbiaa
open Go.RowKit

/-! ### Packets that still wait -/
def stillP (l : List Event) (e : Event) : Bool := (e.kind == 1) && !sentOf l e.packet
def stillTo (l : List Event) (k : Nat) : List Int := ((l.take k).filter (stillP l)).map Event.packet
theorem stillTo_yes {l : List Event} {k : Nat} {e : Event} (he : l[k]? = some e) (h : stillP l e = true) : stillTo l (k + 1) = stillTo l k ++ [e.packet] := by
  unfold stillTo; rw [take_snoc he, List.filter_append, List.map_append]; simp [h]
theorem stillTo_no {l : List Event} {k : Nat} {e : Event} (he : l[k]? = some e) (h : stillP l e = false) : stillTo l (k + 1) = stillTo l k := by
  unfold stillTo; rw [take_snoc he, List.filter_append, List.map_append]; simp [h]
theorem stillTo_len (l : List Event) (k : Nat) : (stillTo l k).length ≤ k := by
  unfold stillTo; rw [List.length_map]
  exact Nat.le_trans (List.length_filter_le _ _) (List.length_take_le _ _)
def stillR (l : List Event) : List Int := if eventsB l then stillTo l l.length else []
theorem stillR_len (l : List Event) : (stillR l).length ≤ 80 := by
  unfold stillR
  split
  · rename_i h
    have := events_len h
    have := stillTo_len l l.length
    omega
  · simp
def SlS (w : World) (n : Nat) (l : List Event) (out i : Value) (wr : World) : Prop := ∃ k : Nat, k ≤ n ∧ i = .int .i64 k ∧ OwnL w 3 out (sentL (l.take k)) wr
def SlM (w : World) (n : Nat) (l : List Event) (bs : Nat) (i : Value) (wr : World) : Prop := ∃ k : Nat, k ≤ n ∧ i = .int .i64 k ∧ (∃ m, m ≤ k ∧ OwnM wr Try.prog 3 bs m (sentM l k)) ∧ Below w.heap.size w wr
def StW (w : World) (n : Nat) (l : List Event) (out i : Value) (wr : World) : Prop := ∃ k : Nat, k ≤ n ∧ i = .int .i64 k ∧ OwnL w 3 out (stillTo l k) wr

set_option maxRecDepth 100000 in
set_option maxHeartbeats 8000000 in
theorem specStillWaiting_any (A : Option Addr) (n c : Nat) (l : List Event) (w : World) (hn : n ≤ 1048576) (hr : Rd w 5 A n (l.flatMap encEvent)) :
    Calls Try.prog 20 #[.slice A n c] w (RetInts 3 w (stillR l) (eventsB l)) := by
  obtain ⟨i0, hi, hz0, hz1, hz2⟩ := info_parts infoIntB
  cases h : eventsB l with
  | false =>
    have hR : stillR l = [] := by simp [stillR, h]
    rw [hR]
    clear hR
    go_enter Try.func20, Try.ntmps20
    go_wp2_with (go_at_call 22; refine (tcGood_any A n _ l _ hn hr).mono ?_; rintro e' w1 ⟨rfl, hb1⟩)
    go_ret2
    exact retInts_nil hb1
  | true =>
    have hR : stillR l = stillTo l n := by simp only [stillR, h, if_true]; congr 1; have h1 := hr.1; rw [flat_len encEvent 5 encEvent_len] at h1; omega
    rw [hR]
    clear hR
    have hl : l.length = n := by have h1 := hr.1; rw [flat_len encEvent 5 encEvent_len] at h1; omega
    have h80 : n ≤ 80 := by have := events_len h; omega
    have HL := Lib.hid hl
    have HE := Lib.hid h
    clear hl
    go_enter Try.func20, Try.ntmps20
    go_wp2_with (go_at_call 22; refine (tcGood_any A n _ l _ hn hr).mono ?_; rintro e' w1 ⟨rfl, hb1⟩)
    clear h
    go_loopw [4, 15] (SlS w n l) (fun _ i _ => n - (intOf i).toNat)
    case atStart => exact ⟨0, Nat.zero_le _, rfl, ownL_nil hb1⟩
    case round =>
      obtain ⟨k, hk, rfl, hO⟩ := hrel
      have hlo := sentL_len l k
      by_cases hlt : k < n
      · have hb := hO.2
        obtain ⟨b, o, rfl, hblb, hcellb⟩ := hr.2 (by omega)
        have hblrbe : b < wr.heap.size := Nat.lt_of_lt_of_le hblb hb.size
        have hlxe : k < l.length := by rw [HL.out]; omega
        have hxe : l[k]? = some l[k] := List.getElem?_eq_getElem hlxe
        generalize l[k] = e at hxe
        have c0 : wr.cell? ⟨b, o + (k * 5 + 0), none⟩ = some (.int .i64 e.tick) := (hb.cell (p := ⟨b, o + (k * 5 + 0), none⟩) hblb).trans (hcellb _ _ ((flat_get encEvent 5 encEvent_len l k 0 e hxe (by omega)).trans rfl))
        have c1 : wr.cell? ⟨b, o + (k * 5 + 1), none⟩ = some (.int .i64 e.kind) := (hb.cell (p := ⟨b, o + (k * 5 + 1), none⟩) hblb).trans (hcellb _ _ ((flat_get encEvent 5 encEvent_len l k 1 e hxe (by omega)).trans rfl))
        have c2 : wr.cell? ⟨b, o + (k * 5 + 2), none⟩ = some (.int .i64 e.cls) := (hb.cell (p := ⟨b, o + (k * 5 + 2), none⟩) hblb).trans (hcellb _ _ ((flat_get encEvent 5 encEvent_len l k 2 e hxe (by omega)).trans rfl))
        have c3 : wr.cell? ⟨b, o + (k * 5 + 3), none⟩ = some (.int .i64 e.packet) := (hb.cell (p := ⟨b, o + (k * 5 + 3), none⟩) hblb).trans (hcellb _ _ ((flat_get encEvent 5 encEvent_len l k 3 e hxe (by omega)).trans rfl))
        have c4 : wr.cell? ⟨b, o + (k * 5 + 4), none⟩ = some (.int .i64 e.size) := (hb.cell (p := ⟨b, o + (k * 5 + 4), none⟩) hblb).trans (hcellb _ _ ((flat_get encEvent 5 encEvent_len l k 4 e hxe (by omega)).trans rfl))
        simp only [Nat.add_zero, ← Nat.add_assoc] at c0 c1 c2 c3 c4
        have HX := Lib.hid hxe
        clear hxe hlxe hcellb
        generalize hwl : sentL (l.take k) = wl at hO hlo
        have HWL := Lib.hid hwl
        clear hwl
        cases h4 : (e.kind == 4) with
        | false =>
          go_wp2_with fail
          go_roundw
          case rel => exact ⟨k + 1, by omega, by go_num, by rw [sentL_arr HX.out h4, HWL.out]; exact ownL_alloc hO _⟩
          case measure => simp [intOf]; omega
        | true =>
          have O0 := ownL_alloc hO (.cells (List.toArray [.int .i64 e.tick, .int .i64 e.kind, .int .i64 e.cls, .int .i64 e.packet, .int .i64 e.size]) 39)
          go_wp2_with (at_builtin; refine wpList_append_own _ rfl (.tmp 22) (.tmp 25) 32 rfl w.heap.size 3 i0 (.int .i64 0) 1 8 Try.underlying32 hi hz0 hz1 hz2 rfl (by decide) _ _ _ rfl (O0.1.alloc _) ⟨wr.heap.size + 1, 0, none⟩ 1 1 [.int .i64 (e.packet)] rfl rfl ?c1 ?c2 ?c3 ?c4 ?c5 ?_)
          case c1 => have h := cell_one_new (wr.alloc (.cells (List.toArray [.int .i64 e.tick, .int .i64 e.kind, .int .i64 e.cls, .int .i64 e.packet, .int .i64 e.size]) 39)) (.int .i64 (e.packet)) 3; rw [World.size_alloc] at h; exact h
          case c2 => simp [Value.oneCell']
          case c3 => unfold maxLen; omega
          case c4 => omega
          case c5 => have := hO.2.size; simp; omega
          intro v' w3 hown1 hg1 _
          have hO3 := ownL_push O0 hown1 hg1
          have HO3 := Lib.hid hO3
          clear hO3 hown1 hg1 O0
          go_wp2_with fail
          go_roundw
          case rel => first | exact ⟨k + 1, by omega, by go_num, by rw [sentL_out HX.out h4, HWL.out]; exact HO3.out⟩ | ((repeat apply Exists.intro); exact ⟨⟨k + 1, by omega, by go_num, by rw [sentL_out HX.out h4, HWL.out]; exact HO3.out⟩, rfl⟩)
          case measure => simp [intOf]; omega
      · have hkn : n = k := by omega
        subst hkn
        generalize hsl : sentL (l.take n) = sl at hO hlo
        have HSL := Lib.hid hsl
        clear hsl
        obtain ⟨A1, c1, rfl⟩ := own_shape hO.1
        obtain ⟨wm, rfl⟩ : ∃ wm : World, wm = wr := ⟨_, rfl⟩
        have HZ := Lib.hid hO.2
        have hS := hO
        have hszm := hO.2.size
        clear hO hlt hk
        go_wp2_with fail
        go_loopw [5, 30] (StW wm n l) (fun _ i _ => n - (intOf i).toNat)
        case atStart => exact ⟨0, Nat.zero_le _, rfl, ownL_nil (ext_refl wm)⟩
        case round =>
          obtain ⟨k, hk, rfl, hO⟩ := hrel
          have hlo := stillTo_len l k
          by_cases hlt : k < n
          · have hb := ext_trans HZ.out hO.2
            obtain ⟨b, o, rfl, hblb, hcellb⟩ := hr.2 (by omega)
            have hblrbe : b < wr.heap.size := Nat.lt_of_lt_of_le hblb hb.size
            have hlxe : k < l.length := by rw [HL.out]; omega
            have hxe : l[k]? = some l[k] := List.getElem?_eq_getElem hlxe
            generalize l[k] = e at hxe
            have c0 : wr.cell? ⟨b, o + (k * 5 + 0), none⟩ = some (.int .i64 e.tick) := (hb.cell (p := ⟨b, o + (k * 5 + 0), none⟩) hblb).trans (hcellb _ _ ((flat_get encEvent 5 encEvent_len l k 0 e hxe (by omega)).trans rfl))
            have c1 : wr.cell? ⟨b, o + (k * 5 + 1), none⟩ = some (.int .i64 e.kind) := (hb.cell (p := ⟨b, o + (k * 5 + 1), none⟩) hblb).trans (hcellb _ _ ((flat_get encEvent 5 encEvent_len l k 1 e hxe (by omega)).trans rfl))
            have c2 : wr.cell? ⟨b, o + (k * 5 + 2), none⟩ = some (.int .i64 e.cls) := (hb.cell (p := ⟨b, o + (k * 5 + 2), none⟩) hblb).trans (hcellb _ _ ((flat_get encEvent 5 encEvent_len l k 2 e hxe (by omega)).trans rfl))
            have c3 : wr.cell? ⟨b, o + (k * 5 + 3), none⟩ = some (.int .i64 e.packet) := (hb.cell (p := ⟨b, o + (k * 5 + 3), none⟩) hblb).trans (hcellb _ _ ((flat_get encEvent 5 encEvent_len l k 3 e hxe (by omega)).trans rfl))
            have c4 : wr.cell? ⟨b, o + (k * 5 + 4), none⟩ = some (.int .i64 e.size) := (hb.cell (p := ⟨b, o + (k * 5 + 4), none⟩) hblb).trans (hcellb _ _ ((flat_get encEvent 5 encEvent_len l k 4 e hxe (by omega)).trans rfl))
            simp only [Nat.add_zero, ← Nat.add_assoc] at c0 c1 c2 c3 c4
            have HX := Lib.hid hxe
            clear hxe hlxe hcellb
            have heb := ev_bd HE.out HX.out
            generalize hwl : stillTo l k = wl at hO hlo
            have HWL := Lib.hid hwl
            clear hwl
            cases h1 : (e.kind == 1) with
            | false =>
              have HP := Lib.hid (show stillP l e = false by unfold stillP; rw [h1]; rfl)
              go_wp2_with (go_at_call 32; refine (l1Has_any _ _ _ sl _ _ (by omega) ((Rd.of_own hS.1).below (ext_alloc hO.2 (.cells (List.toArray [.int .i64 e.tick, .int .i64 e.kind, .int .i64 e.cls, .int .i64 e.packet, .int .i64 e.size]) 39)))).mono ?_; rintro e' w' ⟨rfl, rfl⟩; rw [HSV.out])
              go_roundw
              case rel => exact ⟨k + 1, by omega, by go_num, by rw [stillTo_no HX.out HP.out, HWL.out]; exact ownL_alloc hO _⟩
              case measure => simp [intOf]; omega
            | true =>
              cases hsv : sentOf l e.packet with
              | true =>
                have HP := Lib.hid (show stillP l e = false by unfold stillP; rw [h1, hsv]; rfl)
                have HSV := Lib.hid (show hasB sl e.packet = true by rw [← HSL.out, List.take_of_length_le (by rw [HL.out]; omega), has_sent]; exact hsv)
                clear hsv
                go_wp2_with (go_at_call 32; refine (l1Has_any _ _ _ sl _ _ (by omega) ((Rd.of_own hS.1).below (ext_alloc hO.2 (.cells (List.toArray [.int .i64 e.tick, .int .i64 e.kind, .int .i64 e.cls, .int .i64 e.packet, .int .i64 e.size]) 39)))).mono ?_; rintro e' w' ⟨rfl, rfl⟩; rw [HSV.out])
                go_roundw
                case rel => exact ⟨k + 1, by omega, by go_num, by rw [stillTo_no HX.out HP.out, HWL.out]; exact ownL_alloc hO _⟩
                case measure => simp [intOf]; omega
              | false =>
                have HP := Lib.hid (show stillP l e = true by unfold stillP; rw [h1, hsv]; rfl)
                have HSV := Lib.hid (show hasB sl e.packet = false by rw [← HSL.out, List.take_of_length_le (by rw [HL.out]; omega), has_sent]; exact hsv)
                clear hsv
                have O0 := ownL_alloc hO (.cells (List.toArray [.int .i64 e.tick, .int .i64 e.kind, .int .i64 e.cls, .int .i64 e.packet, .int .i64 e.size]) 39)
                go_wp2_with (first | (go_at_call 32; refine (l1Has_any _ _ _ sl _ _ (by omega) ((Rd.of_own hS.1).below (ext_alloc hO.2 (.cells (List.toArray [.int .i64 e.tick, .int .i64 e.kind, .int .i64 e.cls, .int .i64 e.packet, .int .i64 e.size]) 39)))).mono ?_; rintro e' w' ⟨rfl, rfl⟩; rw [HSV.out]) | (at_builtin; refine wpList_append_own _ rfl (.tmp 44) (.tmp 47) 32 rfl wm.heap.size 3 i0 (.int .i64 0) 1 8 Try.underlying32 hi hz0 hz1 hz2 rfl (by decide) _ _ _ rfl (O0.1.alloc _) ⟨wr.heap.size + 1, 0, none⟩ 1 1 [.int .i64 (e.packet)] rfl rfl ?c1 ?c2 ?c3 ?c4 ?c5 ?_))
                case c1 => have h := cell_one_new (wr.alloc (.cells (List.toArray [.int .i64 e.tick, .int .i64 e.kind, .int .i64 e.cls, .int .i64 e.packet, .int .i64 e.size]) 39)) (.int .i64 (e.packet)) 3; rw [World.size_alloc] at h; exact h
                case c2 => simp [Value.oneCell']
                case c3 => unfold maxLen; omega
                case c4 => omega
                case c5 => have := hO.2.size; simp; omega
                intro v' w3 hown1 hg1 _
                have hO3 := ownL_push O0 hown1 hg1
                have HO3 := Lib.hid hO3
                clear hO3 hown1 hg1 O0
                go_wp2_with fail
                go_roundw
                case rel => first | exact ⟨k + 1, by omega, by go_num, by rw [stillTo_yes HX.out HP.out, HWL.out]; exact HO3.out⟩ | ((repeat apply Exists.intro); exact ⟨⟨k + 1, by omega, by go_num, by rw [stillTo_yes HX.out HP.out, HWL.out]; exact HO3.out⟩, rfl⟩)
                case measure => simp [intOf]; omega
          · obtain rfl : k = n := by omega
            go_wp2_with fail
            go_ret2
            exact ownL_ret (ownL_up hO HZ.out)

set_option maxRecDepth 100000 in
set_option maxHeartbeats 8000000 in
theorem implStillWaiting_any (A : Option Addr) (n c : Nat) (l : List Event) (w : World) (hn : n ≤ 1048576) (hr : Rd w 5 A n (l.flatMap encEvent)) :
    Calls Try.prog 21 #[.slice A n c] w (RetInts 3 w (stillR l) (eventsB l)) := by
  obtain ⟨i0, hi, hz0, hz1, hz2⟩ := info_parts infoIntB
  cases h : eventsB l with
  | false =>
    have hR : stillR l = [] := by simp [stillR, h]
    rw [hR]
    clear hR
    go_enter Try.func21, Try.ntmps21
    go_wp2_with (go_at_call 10; refine (implAreEvents_any A n _ l _ hn hr).mono ?_; rintro e' w1 ⟨rfl, hb1⟩)
    go_ret2
    exact retInts_nil hb1
  | true =>
    have hR : stillR l = stillTo l n := by simp only [stillR, h, if_true]; congr 1; have h1 := hr.1; rw [flat_len encEvent 5 encEvent_len] at h1; omega
    rw [hR]
    clear hR
    have hl : l.length = n := by have h1 := hr.1; rw [flat_len encEvent 5 encEvent_len] at h1; omega
    have h80 : n ≤ 80 := by have := events_len h; omega
    have HL := Lib.hid hl
    have HE := Lib.hid h
    clear hl
    have hmm := @run_makeMap Try.prog
    go_enter Try.func21, Try.ntmps21
    go_wp2_with (go_at_call 10; refine (implAreEvents_any A n _ l _ hn hr).mono ?_; rintro e' w1 ⟨rfl, hb1⟩)
    clear hmm h
    have hs1 := hb1.size
    go_loopw [16] (SlM w n l w1.heap.size) (fun i _ => n - (intOf i).toNat)
    case atStart => exact ⟨0, Nat.zero_le _, rfl, ⟨0, Nat.le_refl _, ownM_made w1 _ _⟩, ext_alloc hb1 _⟩
    case round =>
      obtain ⟨k, hk, rfl, ⟨m, hm, HM⟩, hb⟩ := hrel
      by_cases hlt : k < n
      ·
        obtain ⟨b, o, rfl, hblb, hcellb⟩ := hr.2 (by omega)
        have hblrbe : b < wr.heap.size := Nat.lt_of_lt_of_le hblb hb.size
        have hlxe : k < l.length := by rw [HL.out]; omega
        have hxe : l[k]? = some l[k] := List.getElem?_eq_getElem hlxe
        generalize l[k] = e at hxe
        have c0 : wr.cell? ⟨b, o + (k * 5 + 0), none⟩ = some (.int .i64 e.tick) := (hb.cell (p := ⟨b, o + (k * 5 + 0), none⟩) hblb).trans (hcellb _ _ ((flat_get encEvent 5 encEvent_len l k 0 e hxe (by omega)).trans rfl))
        have c1 : wr.cell? ⟨b, o + (k * 5 + 1), none⟩ = some (.int .i64 e.kind) := (hb.cell (p := ⟨b, o + (k * 5 + 1), none⟩) hblb).trans (hcellb _ _ ((flat_get encEvent 5 encEvent_len l k 1 e hxe (by omega)).trans rfl))
        have c2 : wr.cell? ⟨b, o + (k * 5 + 2), none⟩ = some (.int .i64 e.cls) := (hb.cell (p := ⟨b, o + (k * 5 + 2), none⟩) hblb).trans (hcellb _ _ ((flat_get encEvent 5 encEvent_len l k 2 e hxe (by omega)).trans rfl))
        have c3 : wr.cell? ⟨b, o + (k * 5 + 3), none⟩ = some (.int .i64 e.packet) := (hb.cell (p := ⟨b, o + (k * 5 + 3), none⟩) hblb).trans (hcellb _ _ ((flat_get encEvent 5 encEvent_len l k 3 e hxe (by omega)).trans rfl))
        have c4 : wr.cell? ⟨b, o + (k * 5 + 4), none⟩ = some (.int .i64 e.size) := (hb.cell (p := ⟨b, o + (k * 5 + 4), none⟩) hblb).trans (hcellb _ _ ((flat_get encEvent 5 encEvent_len l k 4 e hxe (by omega)).trans rfl))
        simp only [Nat.add_zero, ← Nat.add_assoc] at c0 c1 c2 c3 c4
        have HX := Lib.hid hxe
        clear hxe hlxe hcellb
        have heb := ev_bd HE.out HX.out
        cases h4 : (e.kind == 4) with
        | false =>
          go_wp2_with fail
          go_roundw
          case rel => exact ⟨k + 1, by omega, by go_num, ⟨m, by omega, by rw [sentM_arr HX.out h4]; exact HM.alloc _⟩, ext_alloc hb _⟩
          case measure => simp [intOf]; omega
        | true =>
          obtain ⟨w5, hrun, C5, hg5⟩ := (HM.alloc (.cells (List.toArray [.int .i64 e.tick, .int .i64 e.kind, .int .i64 e.cls, .int .i64 e.packet, .int .i64 e.size]) 39)).update (t := 43) Try.underlying3 Try.underlying43 (by unfold maxLen; omega) heb.2.1 (.bool true)
          have z5 := (ext_alloc hb (.cells (List.toArray [.int .i64 e.tick, .int .i64 e.kind, .int .i64 e.cls, .int .i64 e.packet, .int .i64 e.size]) 39)).grown hg5 (ext_alloc hb (.cells (List.toArray [.int .i64 e.tick, .int .i64 e.kind, .int .i64 e.cls, .int .i64 e.packet, .int .i64 e.size]) 39)).size (fun q hq => by simp at hq; omega)
          clear hg5
          go_wp2_with fail
          go_roundw
          case rel => exact ⟨k + 1, by omega, by go_num, ⟨m + 1, by omega, by rw [sentM_out HX.out h4]; exact C5⟩, z5⟩
          case measure => simp [intOf]; omega
      · have hkn : n = k := by omega
        subst hkn
        obtain ⟨wm, rfl⟩ : ∃ wm : World, wm = wr := ⟨_, rfl⟩
        have HZ := Lib.hid hb
        have hszm := hb.size
        clear hb hlt hk
        go_wp2_with fail
        go_loopw [7, 30] (StW wm n l) (fun _ i _ => n - (intOf i).toNat)
        case atStart => exact ⟨0, Nat.zero_le _, rfl, by have h := ownL_empty (t := 3) (ext_refl wm); exact h⟩
        case round =>
          obtain ⟨k, hk, rfl, hO⟩ := hrel
          have hlo := stillTo_len l k
          by_cases hlt : k < n
          · have hb := ext_trans HZ.out hO.2
            obtain ⟨b, o, rfl, hblb, hcellb⟩ := hr.2 (by omega)
            have hblrbe : b < wr.heap.size := Nat.lt_of_lt_of_le hblb hb.size
            have hlxe : k < l.length := by rw [HL.out]; omega
            have hxe : l[k]? = some l[k] := List.getElem?_eq_getElem hlxe
            generalize l[k] = e at hxe
            have c0 : wr.cell? ⟨b, o + (k * 5 + 0), none⟩ = some (.int .i64 e.tick) := (hb.cell (p := ⟨b, o + (k * 5 + 0), none⟩) hblb).trans (hcellb _ _ ((flat_get encEvent 5 encEvent_len l k 0 e hxe (by omega)).trans rfl))
            have c1 : wr.cell? ⟨b, o + (k * 5 + 1), none⟩ = some (.int .i64 e.kind) := (hb.cell (p := ⟨b, o + (k * 5 + 1), none⟩) hblb).trans (hcellb _ _ ((flat_get encEvent 5 encEvent_len l k 1 e hxe (by omega)).trans rfl))
            have c2 : wr.cell? ⟨b, o + (k * 5 + 2), none⟩ = some (.int .i64 e.cls) := (hb.cell (p := ⟨b, o + (k * 5 + 2), none⟩) hblb).trans (hcellb _ _ ((flat_get encEvent 5 encEvent_len l k 2 e hxe (by omega)).trans rfl))
            have c3 : wr.cell? ⟨b, o + (k * 5 + 3), none⟩ = some (.int .i64 e.packet) := (hb.cell (p := ⟨b, o + (k * 5 + 3), none⟩) hblb).trans (hcellb _ _ ((flat_get encEvent 5 encEvent_len l k 3 e hxe (by omega)).trans rfl))
            have c4 : wr.cell? ⟨b, o + (k * 5 + 4), none⟩ = some (.int .i64 e.size) := (hb.cell (p := ⟨b, o + (k * 5 + 4), none⟩) hblb).trans (hcellb _ _ ((flat_get encEvent 5 encEvent_len l k 4 e hxe (by omega)).trans rfl))
            simp only [Nat.add_zero, ← Nat.add_assoc] at c0 c1 c2 c3 c4
            have HX := Lib.hid hxe
            clear hxe hlxe hcellb
            have heb := ev_bd HE.out HX.out
            generalize hwl : stillTo l k = wl at hO hlo
            have HWL := Lib.hid hwl
            clear hwl
            cases h1 : (e.kind == 1) with
            | false =>
              have HP := Lib.hid (show stillP l e = false by unfold stillP; rw [h1]; rfl)
              go_wp2_with fail
              go_roundw
              case rel => exact ⟨k + 1, by omega, by go_num, by rw [stillTo_no HX.out HP.out, HWL.out]; exact ownL_alloc hO _⟩
              case measure => simp [intOf]; omega
            | true =>
              cases hsv : sentOf l e.packet with
              | true =>
                have HP := Lib.hid (show stillP l e = false by unfold stillP; rw [h1, hsv]; rfl)
                have lk : (Instr.lookup 43 (.map (some w1.heap.size)) (.int .i64 e.packet) false).run Try.prog (wr.alloc (.cells (List.toArray [.int .i64 e.tick, .int .i64 e.kind, .int .i64 e.cls, .int .i64 e.packet, .int .i64 e.size]) 39)) = .ok (.bool true) (wr.alloc (.cells (List.toArray [.int .i64 e.tick, .int .i64 e.kind, .int .i64 e.cls, .int .i64 e.packet, .int .i64 e.size]) 39)) := by
                  have h := ((HM.below hO.2).alloc (.cells (List.toArray [.int .i64 e.tick, .int .i64 e.kind, .int .i64 e.cls, .int .i64 e.packet, .int .i64 e.size]) 39)).look (t := 43) Try.underlying3 Try.underlying43 (zeroB _) heb.2.1
                  rw [sentM_get, List.take_of_length_le (by rw [HL.out]; omega), hsv] at h; exact h
                clear hsv
                go_wp2_with fail
                go_roundw
                case rel => exact ⟨k + 1, by omega, by go_num, by rw [stillTo_no HX.out HP.out, HWL.out]; exact ownL_alloc hO _⟩
                case measure => simp [intOf]; omega
              | false =>
                have HP := Lib.hid (show stillP l e = true by unfold stillP; rw [h1, hsv]; rfl)
                have lk : (Instr.lookup 43 (.map (some w1.heap.size)) (.int .i64 e.packet) false).run Try.prog (wr.alloc (.cells (List.toArray [.int .i64 e.tick, .int .i64 e.kind, .int .i64 e.cls, .int .i64 e.packet, .int .i64 e.size]) 39)) = .ok (.bool false) (wr.alloc (.cells (List.toArray [.int .i64 e.tick, .int .i64 e.kind, .int .i64 e.cls, .int .i64 e.packet, .int .i64 e.size]) 39)) := by
                  have h := ((HM.below hO.2).alloc (.cells (List.toArray [.int .i64 e.tick, .int .i64 e.kind, .int .i64 e.cls, .int .i64 e.packet, .int .i64 e.size]) 39)).look (t := 43) Try.underlying3 Try.underlying43 (zeroB _) heb.2.1
                  rw [sentM_get, List.take_of_length_le (by rw [HL.out]; omega), hsv] at h; exact h
                clear hsv
                have O0 := ownL_alloc hO (.cells (List.toArray [.int .i64 e.tick, .int .i64 e.kind, .int .i64 e.cls, .int .i64 e.packet, .int .i64 e.size]) 39)
                go_wp2_with (at_builtin; refine wpList_append_own _ rfl (.tmp 44) (.tmp 47) 32 rfl wm.heap.size 3 i0 (.int .i64 0) 1 8 Try.underlying32 hi hz0 hz1 hz2 rfl (by decide) _ _ _ rfl (O0.1.alloc _) ⟨wr.heap.size + 1, 0, none⟩ 1 1 [.int .i64 (e.packet)] rfl rfl ?c1 ?c2 ?c3 ?c4 ?c5 ?_)
                case c1 => have h := cell_one_new (wr.alloc (.cells (List.toArray [.int .i64 e.tick, .int .i64 e.kind, .int .i64 e.cls, .int .i64 e.packet, .int .i64 e.size]) 39)) (.int .i64 (e.packet)) 3; rw [World.size_alloc] at h; exact h
                case c2 => simp [Value.oneCell']
                case c3 => unfold maxLen; omega
                case c4 => omega
                case c5 => have := hO.2.size; simp; omega
                intro v' w3 hown1 hg1 _
                have hO3 := ownL_push O0 hown1 hg1
                have HO3 := Lib.hid hO3
                clear hO3 hown1 hg1 O0
                go_wp2_with fail
                go_roundw
                case rel => first | exact ⟨k + 1, by omega, by go_num, by rw [stillTo_yes HX.out HP.out, HWL.out]; exact HO3.out⟩ | ((repeat apply Exists.intro); exact ⟨⟨k + 1, by omega, by go_num, by rw [stillTo_yes HX.out HP.out, HWL.out]; exact HO3.out⟩, rfl⟩)
                case measure => simp [intOf]; omega
          · obtain rfl : k = n := by omega
            go_wp2_with fail
            go_ret2
            exact ownL_ret (ownL_up hO HZ.out)

set_option maxHeartbeats 4000000 in
theorem walkStillWaiting (Al : Option Addr) (nl cl : Nat) (l : List Event) (hnl : nl ≤ 9223372036854775807) (w : World) (hrl : Rd w 5 Al nl (l.flatMap encEvent)) :
    Calls Try.prog 6 #[.slice Al nl cl] w fun e w' => e = .returned (.bool true) ∧ Below w.heap.size w w' := by
  by_cases hbigl : 1048576 < nl
  · go_enter Try.func6, Try.ntmps6
    go_wp2_with (first | (go_at_call 7; refine (szEventS_any Al nl cl _ _ hnl (by omega) (by omega)).mono ?_; rintro e w1 ⟨rfl, rfl⟩; have hsl : (if (1048576 : Int) < (nl : Int) then (-1 : Int) else 1048576 - nl) = -1 := by {{ split <;> omega }}; rw [hsl]; clear hsl) | fail)
    go_ret
    exact ⟨rfl, ext_refl w⟩
  have hml : nl ≤ 1048576 := by omega
  have hR : (stillR l).length ≤ 1048576 := by have := stillR_len l; omega
  have z0 : Below w.heap.size w w := ext_refl w
  go_enter Try.func6, Try.ntmps6
  go_wp2_with fail
  refine (szEventS_any Al nl cl _ _ hnl (by omega) (by omega)).mono ?_; rintro e w' ⟨rfl, rfl⟩
  have hsl : (if (1048576 : Int) < (nl : Int) then (-1 : Int) else 1048576 - nl) = 1048576 - nl := by { split <;> omega }
  rw [hsl]
  clear hsl
  go_wp2_with fail
  refine (toEventS_any Al nl cl l _ hml (hrl.below z0)).mono ?_; rintro e w1 ⟨gt1, rfl, owt1, hb1⟩
  have ot11 := own_base owt1 z0.size
  have z1 := ext_trans z0 hb1
  go_wp2_with fail
  refine (specStillWaiting_any _ nl _ l _ hml (Rd.of_own ot11)).mono ?_; rintro e w2 ⟨Aw, Cw, rfl, oww, hb2⟩
  have apwt1 := apart_before ot11.lt oww.lt
  have ot12 := own_ext ot11 hb2
  have ow2 := own_base oww z1.size
  have z2 := ext_trans z1 hb2
  go_wp2_with fail
  refine (toEventS_any Al nl cl l _ hml (hrl.below z2)).mono ?_; rintro e w3 ⟨gxl, rfl, owxl, hb3⟩
  have apxlt1 := apart_before ot12.lt owxl.lt
  have ot13 := own_ext ot12 hb3
  have apxlw := apart_before ow2.lt owxl.lt
  have ow3 := own_ext ow2 hb3
  have oxl3 := own_base owxl z2.size
  have z3 := ext_trans z2 hb3
  go_wp2_with fail
  refine (implStillWaiting_any _ nl _ l _ hml (Rd.of_own oxl3)).mono ?_; rintro e w4 ⟨Ag, Cg, rfl, owg, hb4⟩
  have apgt1 := apart_before ot13.lt owg.lt
  have ot14 := own_ext ot13 hb4
  have apgw := apart_before ow3.lt owg.lt
  have ow4 := own_ext ow3 hb4
  have apgxl := apart_before oxl3.lt owg.lt
  have oxl4 := own_ext oxl3 hb4
  have og4 := own_base owg z3.size
  have z4 := ext_trans z3 hb4
  go_wp2_with fail
  refine (eqIntS_same _ _ (stillR l).length _ _ (stillR l) _ hR (Rd.of_own og4) (Rd.of_own ow4)).mono ?_; rintro e w5 ⟨rfl, hb5⟩
  have ot15 := own_ext ot14 hb5
  have ow5 := own_ext ow4 hb5
  have oxl5 := own_ext oxl4 hb5
  have og5 := own_ext og4 hb5
  have z5 := ext_trans z4 hb5
  go_wp2_with fail
  refine (toEventS_any Al nl cl l _ hml (hrl.below z5)).mono ?_; rintro e w6 ⟨gt3, rfl, owt3, hb6⟩
  have apt3t1 := apart_before ot15.lt owt3.lt
  have ot16 := own_ext ot15 hb6
  have apt3w := apart_before ow5.lt owt3.lt
  have ow6 := own_ext ow5 hb6
  have apt3xl := apart_before oxl5.lt owt3.lt
  have oxl6 := own_ext oxl5 hb6
  have apt3g := apart_before og5.lt owt3.lt
  have og6 := own_ext og5 hb6
  have ot36 := own_base owt3 z5.size
  have z6 := ext_trans z5 hb6
  go_wp2_with fail
  refine (eqEventS_same _ _ nl _ _ l _ hml (Rd.of_own oxl6) (Rd.of_own ot36)).mono ?_; rintro e w7 ⟨rfl, hb7⟩
  have ot17 := own_ext ot16 hb7
  have ow7 := own_ext ow6 hb7
  have oxl7 := own_ext oxl6 hb7
  have og7 := own_ext og6 hb7
  have ot37 := own_ext ot36 hb7
  have z7 := ext_trans z6 hb7
  go_wp2_with fail
  refine (markEventS_own _ nl _ _ _ _ _ hml (by omega) (by omega) oxl7).mono ?_; rintro e w8 ⟨rfl, oxl8, hg8⟩
  have z8 := below_marked z7 oxl7 (Nat.le_refl _) hg8
  have ot18 := ot17.kept hg8 apxlt1.1
  have ow8 := ow7.kept hg8 apxlw.1
  have og8 := og7.kept hg8 apgxl.2
  go_wp2_with fail
  refine (eqIntS_same _ _ (stillR l).length _ _ (stillR l) _ hR (Rd.of_own og8) (Rd.of_own ow8)).mono ?_; rintro e w9 ⟨rfl, hb9⟩
  have ot19 := own_ext ot18 hb9
  have ow9 := own_ext ow8 hb9
  have oxl9 := own_ext oxl8 hb9
  have og9 := own_ext og8 hb9
  have z9 := ext_trans z8 hb9
  go_wp2_with fail
  refine (markIntS_own _ (stillR l).length _ _ _ 1 _ hR (by omega) (by omega) og9).mono ?_; rintro e w10 ⟨rfl, og10, hg10⟩
  have z10 := below_marked z9 og9 (Nat.le_refl _) hg10
  have ot110 := ot19.kept hg10 apgt1.1
  have ow10 := ow9.kept hg10 apgw.1
  have oxl10 := oxl9.kept hg10 apgxl.1
  go_wp2_with fail
  refine (heldIntS_any _ (stillR l).length _ 1 _ hR (by omega) (by omega) (Rd.of_own og10)).mono ?_; rintro e w11 ⟨rfl, rfl⟩
  go_wp2_with fail
  refine (toEventS_any Al nl cl l _ hml (hrl.below z10)).mono ?_; rintro e w12 ⟨gt4, rfl, owt4, hb12⟩
  have apt4t1 := apart_before ot110.lt owt4.lt
  have ot112 := own_ext ot110 hb12
  have apt4w := apart_before ow10.lt owt4.lt
  have ow12 := own_ext ow10 hb12
  have apt4g := apart_before og10.lt owt4.lt
  have og12 := own_ext og10 hb12
  have ot412 := own_base owt4 z10.size
  have z12 := ext_trans z10 hb12
  go_wp2_with fail
  refine (implStillWaiting_any _ nl _ l _ hml (Rd.of_own ot412)).mono ?_; rintro e w13 ⟨Ah, Ch, rfl, owh, hb13⟩
  have apht1 := apart_before ot112.lt owh.lt
  have ot113 := own_ext ot112 hb13
  have aphw := apart_before ow12.lt owh.lt
  have ow13 := own_ext ow12 hb13
  have aphg := apart_before og12.lt owh.lt
  have og13 := own_ext og12 hb13
  have apht4 := apart_before ot412.lt owh.lt
  have ot413 := own_ext ot412 hb13
  have oh13 := own_base owh z12.size
  have z13 := ext_trans z12 hb13
  go_wp2_with fail
  refine (eqIntS_same _ _ (stillR l).length _ _ (stillR l) _ hR (Rd.of_own oh13) (Rd.of_own ow13)).mono ?_; rintro e w14 ⟨rfl, hb14⟩
  have ot114 := own_ext ot113 hb14
  have ow14 := own_ext ow13 hb14
  have og14 := own_ext og13 hb14
  have ot414 := own_ext ot413 hb14
  have oh14 := own_ext oh13 hb14
  have z14 := ext_trans z13 hb14
  go_wp2_with fail
  refine (heldIntS_any _ (stillR l).length _ 1 _ hR (by omega) (by omega) (Rd.of_own og14)).mono ?_; rintro e w15 ⟨rfl, rfl⟩
  go_wp2_with fail
  go_ret
  exact ⟨rfl, z14⟩

end Go.Proofs.Ytooodokpkmfbiaa