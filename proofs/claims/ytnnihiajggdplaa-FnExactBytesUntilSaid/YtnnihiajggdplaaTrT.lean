/- Timed packets: contracts of areTimed and tfTimed. -/
import Derived.Test.YtnnihiajggdplaaTrS
import Derived.Test.YtnnihiajggdplaaReg
namespace Go.Proofs.Ytnnihiajggdplaa
open Go.RowKit

set_option maxRecDepth 100000 in
set_option maxHeartbeats 4000000 in
theorem areTimed_any (A : Option Addr) (n c : Nat) (xs : List Timed) (w : World) (hn : n ≤ 1048576) (hr : Rd w 7 A n (xs.flatMap encTimed)) :
    Calls Try.prog 74 #[.slice A n c] w fun e w' => e = .returned (.bool (timedB xs)) ∧ Below w.heap.size w w' := by
  have hl : xs.length = n := by have h1 := hr.1; rw [flat_len encTimed 7 encTimed_len] at h1; omega
  have HL := Lib.hid hl
  clear hl
  go_enter Try.func74, Try.ntmps74
  go_wp2_with fail
  go_loopw [7] (ChainRel w n timedOk Timed.tick xs) (fun i _ => n - (intOf i).toNat)
  case atStart => exact ⟨0, Nat.zero_le _, rfl, fun j hj => by omega, ext_refl w⟩
  case round =>
    obtain ⟨k, hk, rfl, hch, hb⟩ := hrel
    have HC := Lib.hid hch
    clear hch
    by_cases hlt : k < n
    · have hlxk : k < xs.length := by rw [HL.out]; exact hlt
      obtain ⟨b, o, rfl, hblb, hcellb⟩ := hr.2 (by omega)
      have hblrbx : b < wr.heap.size := Nat.lt_of_lt_of_le hblb hb.size
      have hlxx : k < xs.length := by rw [HL.out]; omega
      have hxx : xs[k]? = some xs[k] := List.getElem?_eq_getElem hlxx
      generalize xs[k] = x at hxx
      have c0 : wr.cell? ⟨b, o + (k * 7 + 0), none⟩ = some (.int .i64 x.tick) := (hb.cell (p := ⟨b, o + (k * 7 + 0), none⟩) hblb).trans (hcellb _ _ ((flat_get encTimed 7 encTimed_len xs k 0 x hxx (by omega)).trans rfl))
      have c1 : wr.cell? ⟨b, o + (k * 7 + 1), none⟩ = some (.int .i64 x.packet.id) := (hb.cell (p := ⟨b, o + (k * 7 + 1), none⟩) hblb).trans (hcellb _ _ ((flat_get encTimed 7 encTimed_len xs k 1 x hxx (by omega)).trans rfl))
      have c2 : wr.cell? ⟨b, o + (k * 7 + 2), none⟩ = some (.int .i64 x.packet.source) := (hb.cell (p := ⟨b, o + (k * 7 + 2), none⟩) hblb).trans (hcellb _ _ ((flat_get encTimed 7 encTimed_len xs k 2 x hxx (by omega)).trans rfl))
      have c3 : wr.cell? ⟨b, o + (k * 7 + 3), none⟩ = some (.int .i64 x.packet.dest) := (hb.cell (p := ⟨b, o + (k * 7 + 3), none⟩) hblb).trans (hcellb _ _ ((flat_get encTimed 7 encTimed_len xs k 3 x hxx (by omega)).trans rfl))
      have c4 : wr.cell? ⟨b, o + (k * 7 + 4), none⟩ = some (.int .i64 x.packet.port) := (hb.cell (p := ⟨b, o + (k * 7 + 4), none⟩) hblb).trans (hcellb _ _ ((flat_get encTimed 7 encTimed_len xs k 4 x hxx (by omega)).trans rfl))
      have c5 : wr.cell? ⟨b, o + (k * 7 + 5), none⟩ = some (.int .i64 x.packet.mark) := (hb.cell (p := ⟨b, o + (k * 7 + 5), none⟩) hblb).trans (hcellb _ _ ((flat_get encTimed 7 encTimed_len xs k 5 x hxx (by omega)).trans rfl))
      have c6 : wr.cell? ⟨b, o + (k * 7 + 6), none⟩ = some (.int .i64 x.packet.size) := (hb.cell (p := ⟨b, o + (k * 7 + 6), none⟩) hblb).trans (hcellb _ _ ((flat_get encTimed 7 encTimed_len xs k 6 x hxx (by omega)).trans rfl))
      simp only [Nat.add_zero, ← Nat.add_assoc] at c0 c1 c2 c3 c4 c5 c6
      have HX := Lib.hid hxx
      clear hxx hlxx
      have HCELL := Lib.hid hcellb
      clear hcellb
      have XB := Blk.new wr 58 [.int .i64 x.tick, .int .i64 x.packet.id, .int .i64 x.packet.source, .int .i64 x.packet.dest, .int .i64 x.packet.port, .int .i64 x.packet.mark, .int .i64 x.packet.size]
      have zB := ext_alloc hb (.cells (List.toArray [.int .i64 x.tick, .int .i64 x.packet.id, .int .i64 x.packet.source, .int .i64 x.packet.dest, .int .i64 x.packet.port, .int .i64 x.packet.mark, .int .i64 x.packet.size]) 58)
      cases h1 : inB x.tick 0 100000 with
      | false =>
        go_wp2_with fail
        refine wp_region_grow (by kernel_rfl) (by kernel_rfl) ?_
        intro S hne hk ho
        have s0 : ∀ s : InC S, s.W.cell? ⟨wr.heap.size, 0, none⟩ = some (.int .i64 x.tick) := fun s => (XB.below (ho s)).cell 0
        have s1 : ∀ s : InC S, s.W.cell? ⟨wr.heap.size, 1, none⟩ = some (.int .i64 x.packet.id) := fun s => (XB.below (ho s)).cell 1
        have s2 : ∀ s : InC S, s.W.cell? ⟨wr.heap.size, 2, none⟩ = some (.int .i64 x.packet.source) := fun s => (XB.below (ho s)).cell 2
        have s3 : ∀ s : InC S, s.W.cell? ⟨wr.heap.size, 3, none⟩ = some (.int .i64 x.packet.dest) := fun s => (XB.below (ho s)).cell 3
        have s4 : ∀ s : InC S, s.W.cell? ⟨wr.heap.size, 4, none⟩ = some (.int .i64 x.packet.port) := fun s => (XB.below (ho s)).cell 4
        have s5 : ∀ s : InC S, s.W.cell? ⟨wr.heap.size, 5, none⟩ = some (.int .i64 x.packet.mark) := fun s => (XB.below (ho s)).cell 5
        have s6 : ∀ s : InC S, s.W.cell? ⟨wr.heap.size, 6, none⟩ = some (.int .i64 x.packet.size) := fun s => (XB.below (ho s)).cell 6
        repeat (go_big_quiet_step ((go_at_call 59; exact grow_same (isTicks_any _ _) (bool_is h1))))
        refine wpQuiet_nil ?_
        rintro _ ⟨s, rfl⟩
        have z1 := ext_trans zB (ho s)
        clear s0 s1 s2 s3 s4 s5 s6 ho hk hne
        go_wp2_with fail
        go_ret
        exact ⟨ret_bool (by rw [timedB, chain_false hlxk (step_bad HX.out (timedOk_bad1 h1))]; rfl), z1⟩
      | true =>
        cases h2 : packOk x.packet with
        | false =>
          go_wp2_with fail
          refine wp_region_grow (by kernel_rfl) (by kernel_rfl) ?_
          intro S hne hk ho
          have s0 : ∀ s : InC S, s.W.cell? ⟨wr.heap.size, 0, none⟩ = some (.int .i64 x.tick) := fun s => (XB.below (ho s)).cell 0
          have s1 : ∀ s : InC S, s.W.cell? ⟨wr.heap.size, 1, none⟩ = some (.int .i64 x.packet.id) := fun s => (XB.below (ho s)).cell 1
          have s2 : ∀ s : InC S, s.W.cell? ⟨wr.heap.size, 2, none⟩ = some (.int .i64 x.packet.source) := fun s => (XB.below (ho s)).cell 2
          have s3 : ∀ s : InC S, s.W.cell? ⟨wr.heap.size, 3, none⟩ = some (.int .i64 x.packet.dest) := fun s => (XB.below (ho s)).cell 3
          have s4 : ∀ s : InC S, s.W.cell? ⟨wr.heap.size, 4, none⟩ = some (.int .i64 x.packet.port) := fun s => (XB.below (ho s)).cell 4
          have s5 : ∀ s : InC S, s.W.cell? ⟨wr.heap.size, 5, none⟩ = some (.int .i64 x.packet.mark) := fun s => (XB.below (ho s)).cell 5
          have s6 : ∀ s : InC S, s.W.cell? ⟨wr.heap.size, 6, none⟩ = some (.int .i64 x.packet.size) := fun s => (XB.below (ho s)).cell 6
          repeat (go_big_quiet_step ((first | (go_at_call 59; exact grow_same (isTicks_any _ _) (bool_is h1)) | (go_at_call 82; exact grow_call hk (isPacket_any x.packet _) (bool_is h2)))))
          refine wpQuiet_nil ?_
          rintro _ ⟨s, rfl⟩
          have z1 := ext_trans zB (ho s)
          clear s0 s1 s2 s3 s4 s5 s6 ho hk hne
          go_wp2_with fail
          go_ret
          exact ⟨ret_bool (by rw [timedB, chain_false hlxk (step_bad HX.out (timedOk_bad2 h2))]; rfl), z1⟩
        | true =>
          have HOK := Lib.hid (timedOk_mk h1 h2)
          by_cases hk0 : k = 0
          · have g0 : decide (0 < k) = false := by simp; omega
            have HK := Lib.hid hk0
            clear hk0
            go_wp2_with fail
            refine wp_region_grow (by kernel_rfl) (by kernel_rfl) ?_
            intro S hne hk ho
            have s0 : ∀ s : InC S, s.W.cell? ⟨wr.heap.size, 0, none⟩ = some (.int .i64 x.tick) := fun s => (XB.below (ho s)).cell 0
            have s1 : ∀ s : InC S, s.W.cell? ⟨wr.heap.size, 1, none⟩ = some (.int .i64 x.packet.id) := fun s => (XB.below (ho s)).cell 1
            have s2 : ∀ s : InC S, s.W.cell? ⟨wr.heap.size, 2, none⟩ = some (.int .i64 x.packet.source) := fun s => (XB.below (ho s)).cell 2
            have s3 : ∀ s : InC S, s.W.cell? ⟨wr.heap.size, 3, none⟩ = some (.int .i64 x.packet.dest) := fun s => (XB.below (ho s)).cell 3
            have s4 : ∀ s : InC S, s.W.cell? ⟨wr.heap.size, 4, none⟩ = some (.int .i64 x.packet.port) := fun s => (XB.below (ho s)).cell 4
            have s5 : ∀ s : InC S, s.W.cell? ⟨wr.heap.size, 5, none⟩ = some (.int .i64 x.packet.mark) := fun s => (XB.below (ho s)).cell 5
            have s6 : ∀ s : InC S, s.W.cell? ⟨wr.heap.size, 6, none⟩ = some (.int .i64 x.packet.size) := fun s => (XB.below (ho s)).cell 6
            repeat (go_big_quiet_step ((first | (go_at_call 59; exact grow_same (isTicks_any _ _) (bool_is h1)) | (go_at_call 82; exact grow_call hk (isPacket_any x.packet _) (bool_is h2)))))
            refine wpQuiet_nil ?_
            rintro _ ⟨s, rfl⟩
            have z1 := ext_trans zB (ho s)
            clear s0 s1 s2 s3 s4 s5 s6 ho hk hne
            go_wp2_with fail
            go_roundw
            case rel => exact chainRel_zero HK.out HX.out HOK.out hlt z1
            case measure => simp [intOf]; omega
          · have g0 : decide (0 < k) = true := by simp; omega
            have hkj : k = (k - 1) + 1 := by omega
            have hly : k - 1 < xs.length := by omega
            have hy : xs[k - 1]? = some xs[k - 1] := List.getElem?_eq_getElem hly
            generalize xs[k - 1] = y at hy
            have e0 : w.cell? ⟨b, o + ((k - 1) * 7 + 0), none⟩ = some (.int .i64 y.tick) := HCELL.out _ _ ((flat_get encTimed 7 encTimed_len xs (k - 1) 0 y hy (by omega)).trans rfl)
            simp only [Nat.add_zero] at e0
            have HY := Lib.hid hy
            have HKJ := Lib.hid hkj
            have HE0 := Lib.hid e0
            clear hy hkj hly e0
            have i0 : (0 : Int) ≤ (k : Int) - 1 := by omega
            have i1 : (1 : Int) ≤ (k : Int) := by omega
            have i2 : ((k : Int) - 1).toNat = k - 1 := by omega
            have i3 : (k : Int) - 1 < (n : Int) := by omega
            have hwk := wrap_in ((k : Int) - 1) (by omega) (by omega)
            clear hk0
            cases g1 : decide (x.tick < y.tick) with
            | false =>
              have hle : y.tick ≤ x.tick := by have := of_decide_eq_false g1; omega
              go_wp2_with fail
              refine wp_region_grow (by kernel_rfl) (by kernel_rfl) ?_
              intro S hne hk ho
              have s0 : ∀ s : InC S, s.W.cell? ⟨wr.heap.size, 0, none⟩ = some (.int .i64 x.tick) := fun s => (XB.below (ho s)).cell 0
              have s1 : ∀ s : InC S, s.W.cell? ⟨wr.heap.size, 1, none⟩ = some (.int .i64 x.packet.id) := fun s => (XB.below (ho s)).cell 1
              have s2 : ∀ s : InC S, s.W.cell? ⟨wr.heap.size, 2, none⟩ = some (.int .i64 x.packet.source) := fun s => (XB.below (ho s)).cell 2
              have s3 : ∀ s : InC S, s.W.cell? ⟨wr.heap.size, 3, none⟩ = some (.int .i64 x.packet.dest) := fun s => (XB.below (ho s)).cell 3
              have s4 : ∀ s : InC S, s.W.cell? ⟨wr.heap.size, 4, none⟩ = some (.int .i64 x.packet.port) := fun s => (XB.below (ho s)).cell 4
              have s5 : ∀ s : InC S, s.W.cell? ⟨wr.heap.size, 5, none⟩ = some (.int .i64 x.packet.mark) := fun s => (XB.below (ho s)).cell 5
              have s6 : ∀ s : InC S, s.W.cell? ⟨wr.heap.size, 6, none⟩ = some (.int .i64 x.packet.size) := fun s => (XB.below (ho s)).cell 6
              have s7 : ∀ s : InC S, s.W.cell? ⟨b, o + (k - 1) * 7, none⟩ = some (.int .i64 y.tick) := fun s => ((ext_trans zB (ho s)).cell (p := ⟨b, o + (k - 1) * 7, none⟩) hblb).trans HE0.out
              repeat (go_big_quiet_step ((first | (go_at_call 59; exact grow_same (isTicks_any _ _) (bool_is h1)) | (go_at_call 82; exact grow_call hk (isPacket_any x.packet _) (bool_is h2)))))
              refine wpQuiet_nil ?_
              rintro _ ⟨s, rfl⟩
              have z1 := ext_trans zB (ho s)
              clear s0 s1 s2 s3 s4 s5 s6 s7 ho hk hne
              go_wp2_with fail
              go_roundw
              case rel => exact chainRel_succ HKJ.out HX.out HY.out HOK.out hle HC.out hlt z1
              case measure => simp [intOf]; omega
            | true =>
              have hgt : x.tick < y.tick := by have := of_decide_eq_true g1; omega
              have HG := Lib.hid hgt
              go_wp2_with fail
              refine wp_region_grow (by kernel_rfl) (by kernel_rfl) ?_
              intro S hne hk ho
              have s0 : ∀ s : InC S, s.W.cell? ⟨wr.heap.size, 0, none⟩ = some (.int .i64 x.tick) := fun s => (XB.below (ho s)).cell 0
              have s1 : ∀ s : InC S, s.W.cell? ⟨wr.heap.size, 1, none⟩ = some (.int .i64 x.packet.id) := fun s => (XB.below (ho s)).cell 1
              have s2 : ∀ s : InC S, s.W.cell? ⟨wr.heap.size, 2, none⟩ = some (.int .i64 x.packet.source) := fun s => (XB.below (ho s)).cell 2
              have s3 : ∀ s : InC S, s.W.cell? ⟨wr.heap.size, 3, none⟩ = some (.int .i64 x.packet.dest) := fun s => (XB.below (ho s)).cell 3
              have s4 : ∀ s : InC S, s.W.cell? ⟨wr.heap.size, 4, none⟩ = some (.int .i64 x.packet.port) := fun s => (XB.below (ho s)).cell 4
              have s5 : ∀ s : InC S, s.W.cell? ⟨wr.heap.size, 5, none⟩ = some (.int .i64 x.packet.mark) := fun s => (XB.below (ho s)).cell 5
              have s6 : ∀ s : InC S, s.W.cell? ⟨wr.heap.size, 6, none⟩ = some (.int .i64 x.packet.size) := fun s => (XB.below (ho s)).cell 6
              have s7 : ∀ s : InC S, s.W.cell? ⟨b, o + (k - 1) * 7, none⟩ = some (.int .i64 y.tick) := fun s => ((ext_trans zB (ho s)).cell (p := ⟨b, o + (k - 1) * 7, none⟩) hblb).trans HE0.out
              repeat (go_big_quiet_step ((first | (go_at_call 59; exact grow_same (isTicks_any _ _) (bool_is h1)) | (go_at_call 82; exact grow_call hk (isPacket_any x.packet _) (bool_is h2)))))
              refine wpQuiet_nil ?_
              rintro _ ⟨s, rfl⟩
              have z1 := ext_trans zB (ho s)
              clear s0 s1 s2 s3 s4 s5 s6 s7 ho hk hne
              go_wp2_with fail
              go_ret
              exact ⟨ret_bool (by rw [timedB, chain_false hlxk (step_down (key := Timed.tick) HKJ.out HX.out HY.out HG.out)]; rfl), z1⟩
    · go_wp2_with fail
      go_ret
      exact ⟨ret_bool (by rw [timedB, chain_true (fun j hj => HC.out j (by rw [HL.out] at hj; omega)), HL.out, Bool.true_and, Bool.eq_iff_iff]; simp; omega), hb⟩

set_option maxRecDepth 100000 in
set_option maxHeartbeats 4000000 in
theorem tfTimed_any (A : Option Addr) (n c : Nat) (xs : List Timed) (w : World) (hn : n ≤ 1048576) (hr : Rd w 7 A n (xs.flatMap encTimed)) :
    Calls Try.prog 72 #[.slice A n c] w fun e w' => e = .returned (.bool (timedB xs)) ∧ Below w.heap.size w w' := by
  have hl : xs.length = n := by have h1 := hr.1; rw [flat_len encTimed 7 encTimed_len] at h1; omega
  have HL := Lib.hid hl
  clear hl
  go_enter Try.func72, Try.ntmps72
  go_wp2_with fail
  go_loopw [7] (ChainRel w n timedOk Timed.tick xs) (fun i _ => n - (intOf i).toNat)
  case atStart => exact ⟨0, Nat.zero_le _, rfl, fun j hj => by omega, ext_refl w⟩
  case round =>
    obtain ⟨k, hk, rfl, hch, hb⟩ := hrel
    have HC := Lib.hid hch
    clear hch
    by_cases hlt : k < n
    · have hlxk : k < xs.length := by rw [HL.out]; exact hlt
      obtain ⟨b, o, rfl, hblb, hcellb⟩ := hr.2 (by omega)
      have hblrbx : b < wr.heap.size := Nat.lt_of_lt_of_le hblb hb.size
      have hlxx : k < xs.length := by rw [HL.out]; omega
      have hxx : xs[k]? = some xs[k] := List.getElem?_eq_getElem hlxx
      generalize xs[k] = x at hxx
      have c0 : wr.cell? ⟨b, o + (k * 7 + 0), none⟩ = some (.int .i64 x.tick) := (hb.cell (p := ⟨b, o + (k * 7 + 0), none⟩) hblb).trans (hcellb _ _ ((flat_get encTimed 7 encTimed_len xs k 0 x hxx (by omega)).trans rfl))
      have c1 : wr.cell? ⟨b, o + (k * 7 + 1), none⟩ = some (.int .i64 x.packet.id) := (hb.cell (p := ⟨b, o + (k * 7 + 1), none⟩) hblb).trans (hcellb _ _ ((flat_get encTimed 7 encTimed_len xs k 1 x hxx (by omega)).trans rfl))
      have c2 : wr.cell? ⟨b, o + (k * 7 + 2), none⟩ = some (.int .i64 x.packet.source) := (hb.cell (p := ⟨b, o + (k * 7 + 2), none⟩) hblb).trans (hcellb _ _ ((flat_get encTimed 7 encTimed_len xs k 2 x hxx (by omega)).trans rfl))
      have c3 : wr.cell? ⟨b, o + (k * 7 + 3), none⟩ = some (.int .i64 x.packet.dest) := (hb.cell (p := ⟨b, o + (k * 7 + 3), none⟩) hblb).trans (hcellb _ _ ((flat_get encTimed 7 encTimed_len xs k 3 x hxx (by omega)).trans rfl))
      have c4 : wr.cell? ⟨b, o + (k * 7 + 4), none⟩ = some (.int .i64 x.packet.port) := (hb.cell (p := ⟨b, o + (k * 7 + 4), none⟩) hblb).trans (hcellb _ _ ((flat_get encTimed 7 encTimed_len xs k 4 x hxx (by omega)).trans rfl))
      have c5 : wr.cell? ⟨b, o + (k * 7 + 5), none⟩ = some (.int .i64 x.packet.mark) := (hb.cell (p := ⟨b, o + (k * 7 + 5), none⟩) hblb).trans (hcellb _ _ ((flat_get encTimed 7 encTimed_len xs k 5 x hxx (by omega)).trans rfl))
      have c6 : wr.cell? ⟨b, o + (k * 7 + 6), none⟩ = some (.int .i64 x.packet.size) := (hb.cell (p := ⟨b, o + (k * 7 + 6), none⟩) hblb).trans (hcellb _ _ ((flat_get encTimed 7 encTimed_len xs k 6 x hxx (by omega)).trans rfl))
      simp only [Nat.add_zero, ← Nat.add_assoc] at c0 c1 c2 c3 c4 c5 c6
      have HX := Lib.hid hxx
      clear hxx hlxx
      have HCELL := Lib.hid hcellb
      clear hcellb
      have XB := Blk.new wr 58 [.int .i64 x.tick, .int .i64 x.packet.id, .int .i64 x.packet.source, .int .i64 x.packet.dest, .int .i64 x.packet.port, .int .i64 x.packet.mark, .int .i64 x.packet.size]
      have zB := ext_alloc hb (.cells (List.toArray [.int .i64 x.tick, .int .i64 x.packet.id, .int .i64 x.packet.source, .int .i64 x.packet.dest, .int .i64 x.packet.port, .int .i64 x.packet.mark, .int .i64 x.packet.size]) 58)
      cases h1 : inB x.tick 0 100000 with
      | false =>
        go_wp2_with fail
        refine wp_region_grow (by kernel_rfl) (by kernel_rfl) ?_
        intro S hne hk ho
        have s0 : ∀ s : InC S, s.W.cell? ⟨wr.heap.size, 0, none⟩ = some (.int .i64 x.tick) := fun s => (XB.below (ho s)).cell 0
        have s1 : ∀ s : InC S, s.W.cell? ⟨wr.heap.size, 1, none⟩ = some (.int .i64 x.packet.id) := fun s => (XB.below (ho s)).cell 1
        have s2 : ∀ s : InC S, s.W.cell? ⟨wr.heap.size, 2, none⟩ = some (.int .i64 x.packet.source) := fun s => (XB.below (ho s)).cell 2
        have s3 : ∀ s : InC S, s.W.cell? ⟨wr.heap.size, 3, none⟩ = some (.int .i64 x.packet.dest) := fun s => (XB.below (ho s)).cell 3
        have s4 : ∀ s : InC S, s.W.cell? ⟨wr.heap.size, 4, none⟩ = some (.int .i64 x.packet.port) := fun s => (XB.below (ho s)).cell 4
        have s5 : ∀ s : InC S, s.W.cell? ⟨wr.heap.size, 5, none⟩ = some (.int .i64 x.packet.mark) := fun s => (XB.below (ho s)).cell 5
        have s6 : ∀ s : InC S, s.W.cell? ⟨wr.heap.size, 6, none⟩ = some (.int .i64 x.packet.size) := fun s => (XB.below (ho s)).cell 6
        repeat (go_big_quiet_step ((go_at_call 58; exact grow_same (tfTick_any _ _) (bool_is h1))))
        refine wpQuiet_nil ?_
        rintro _ ⟨s, rfl⟩
        have z1 := ext_trans zB (ho s)
        clear s0 s1 s2 s3 s4 s5 s6 ho hk hne
        go_wp2_with fail
        go_ret
        exact ⟨ret_bool (by rw [timedB, chain_false hlxk (step_bad HX.out (timedOk_bad1 h1))]; rfl), z1⟩
      | true =>
        cases h2 : packOk x.packet with
        | false =>
          go_wp2_with fail
          refine wp_region_grow (by kernel_rfl) (by kernel_rfl) ?_
          intro S hne hk ho
          have s0 : ∀ s : InC S, s.W.cell? ⟨wr.heap.size, 0, none⟩ = some (.int .i64 x.tick) := fun s => (XB.below (ho s)).cell 0
          have s1 : ∀ s : InC S, s.W.cell? ⟨wr.heap.size, 1, none⟩ = some (.int .i64 x.packet.id) := fun s => (XB.below (ho s)).cell 1
          have s2 : ∀ s : InC S, s.W.cell? ⟨wr.heap.size, 2, none⟩ = some (.int .i64 x.packet.source) := fun s => (XB.below (ho s)).cell 2
          have s3 : ∀ s : InC S, s.W.cell? ⟨wr.heap.size, 3, none⟩ = some (.int .i64 x.packet.dest) := fun s => (XB.below (ho s)).cell 3
          have s4 : ∀ s : InC S, s.W.cell? ⟨wr.heap.size, 4, none⟩ = some (.int .i64 x.packet.port) := fun s => (XB.below (ho s)).cell 4
          have s5 : ∀ s : InC S, s.W.cell? ⟨wr.heap.size, 5, none⟩ = some (.int .i64 x.packet.mark) := fun s => (XB.below (ho s)).cell 5
          have s6 : ∀ s : InC S, s.W.cell? ⟨wr.heap.size, 6, none⟩ = some (.int .i64 x.packet.size) := fun s => (XB.below (ho s)).cell 6
          repeat (go_big_quiet_step ((first | (go_at_call 58; exact grow_same (tfTick_any _ _) (bool_is h1)) | (go_at_call 80; exact grow_call hk (pkGood_any x.packet _) (bool_is h2)))))
          refine wpQuiet_nil ?_
          rintro _ ⟨s, rfl⟩
          have z1 := ext_trans zB (ho s)
          clear s0 s1 s2 s3 s4 s5 s6 ho hk hne
          go_wp2_with fail
          go_ret
          exact ⟨ret_bool (by rw [timedB, chain_false hlxk (step_bad HX.out (timedOk_bad2 h2))]; rfl), z1⟩
        | true =>
          have HOK := Lib.hid (timedOk_mk h1 h2)
          by_cases hk0 : k = 0
          · have g0 : decide (0 < k) = false := by simp; omega
            have HK := Lib.hid hk0
            clear hk0
            go_wp2_with fail
            refine wp_region_grow (by kernel_rfl) (by kernel_rfl) ?_
            intro S hne hk ho
            have s0 : ∀ s : InC S, s.W.cell? ⟨wr.heap.size, 0, none⟩ = some (.int .i64 x.tick) := fun s => (XB.below (ho s)).cell 0
            have s1 : ∀ s : InC S, s.W.cell? ⟨wr.heap.size, 1, none⟩ = some (.int .i64 x.packet.id) := fun s => (XB.below (ho s)).cell 1
            have s2 : ∀ s : InC S, s.W.cell? ⟨wr.heap.size, 2, none⟩ = some (.int .i64 x.packet.source) := fun s => (XB.below (ho s)).cell 2
            have s3 : ∀ s : InC S, s.W.cell? ⟨wr.heap.size, 3, none⟩ = some (.int .i64 x.packet.dest) := fun s => (XB.below (ho s)).cell 3
            have s4 : ∀ s : InC S, s.W.cell? ⟨wr.heap.size, 4, none⟩ = some (.int .i64 x.packet.port) := fun s => (XB.below (ho s)).cell 4
            have s5 : ∀ s : InC S, s.W.cell? ⟨wr.heap.size, 5, none⟩ = some (.int .i64 x.packet.mark) := fun s => (XB.below (ho s)).cell 5
            have s6 : ∀ s : InC S, s.W.cell? ⟨wr.heap.size, 6, none⟩ = some (.int .i64 x.packet.size) := fun s => (XB.below (ho s)).cell 6
            repeat (go_big_quiet_step ((first | (go_at_call 58; exact grow_same (tfTick_any _ _) (bool_is h1)) | (go_at_call 80; exact grow_call hk (pkGood_any x.packet _) (bool_is h2)))))
            refine wpQuiet_nil ?_
            rintro _ ⟨s, rfl⟩
            have z1 := ext_trans zB (ho s)
            clear s0 s1 s2 s3 s4 s5 s6 ho hk hne
            go_wp2_with fail
            go_roundw
            case rel => exact chainRel_zero HK.out HX.out HOK.out hlt z1
            case measure => simp [intOf]; omega
          · have g0 : decide (0 < k) = true := by simp; omega
            have hkj : k = (k - 1) + 1 := by omega
            have hly : k - 1 < xs.length := by omega
            have hy : xs[k - 1]? = some xs[k - 1] := List.getElem?_eq_getElem hly
            generalize xs[k - 1] = y at hy
            have e0 : w.cell? ⟨b, o + ((k - 1) * 7 + 0), none⟩ = some (.int .i64 y.tick) := HCELL.out _ _ ((flat_get encTimed 7 encTimed_len xs (k - 1) 0 y hy (by omega)).trans rfl)
            simp only [Nat.add_zero] at e0
            have HY := Lib.hid hy
            have HKJ := Lib.hid hkj
            have HE0 := Lib.hid e0
            clear hy hkj hly e0
            have i0 : (0 : Int) ≤ (k : Int) - 1 := by omega
            have i1 : (1 : Int) ≤ (k : Int) := by omega
            have i2 : ((k : Int) - 1).toNat = k - 1 := by omega
            have i3 : (k : Int) - 1 < (n : Int) := by omega
            have hwk := wrap_in ((k : Int) - 1) (by omega) (by omega)
            clear hk0
            cases g1 : decide (x.tick < y.tick) with
            | false =>
              have hle : y.tick ≤ x.tick := by have := of_decide_eq_false g1; omega
              go_wp2_with fail
              refine wp_region_grow (by kernel_rfl) (by kernel_rfl) ?_
              intro S hne hk ho
              have s0 : ∀ s : InC S, s.W.cell? ⟨wr.heap.size, 0, none⟩ = some (.int .i64 x.tick) := fun s => (XB.below (ho s)).cell 0
              have s1 : ∀ s : InC S, s.W.cell? ⟨wr.heap.size, 1, none⟩ = some (.int .i64 x.packet.id) := fun s => (XB.below (ho s)).cell 1
              have s2 : ∀ s : InC S, s.W.cell? ⟨wr.heap.size, 2, none⟩ = some (.int .i64 x.packet.source) := fun s => (XB.below (ho s)).cell 2
              have s3 : ∀ s : InC S, s.W.cell? ⟨wr.heap.size, 3, none⟩ = some (.int .i64 x.packet.dest) := fun s => (XB.below (ho s)).cell 3
              have s4 : ∀ s : InC S, s.W.cell? ⟨wr.heap.size, 4, none⟩ = some (.int .i64 x.packet.port) := fun s => (XB.below (ho s)).cell 4
              have s5 : ∀ s : InC S, s.W.cell? ⟨wr.heap.size, 5, none⟩ = some (.int .i64 x.packet.mark) := fun s => (XB.below (ho s)).cell 5
              have s6 : ∀ s : InC S, s.W.cell? ⟨wr.heap.size, 6, none⟩ = some (.int .i64 x.packet.size) := fun s => (XB.below (ho s)).cell 6
              have s7 : ∀ s : InC S, s.W.cell? ⟨b, o + (k - 1) * 7, none⟩ = some (.int .i64 y.tick) := fun s => ((ext_trans zB (ho s)).cell (p := ⟨b, o + (k - 1) * 7, none⟩) hblb).trans HE0.out
              repeat (go_big_quiet_step ((first | (go_at_call 58; exact grow_same (tfTick_any _ _) (bool_is h1)) | (go_at_call 80; exact grow_call hk (pkGood_any x.packet _) (bool_is h2)))))
              refine wpQuiet_nil ?_
              rintro _ ⟨s, rfl⟩
              have z1 := ext_trans zB (ho s)
              clear s0 s1 s2 s3 s4 s5 s6 s7 ho hk hne
              go_wp2_with fail
              go_roundw
              case rel => exact chainRel_succ HKJ.out HX.out HY.out HOK.out hle HC.out hlt z1
              case measure => simp [intOf]; omega
            | true =>
              have hgt : x.tick < y.tick := by have := of_decide_eq_true g1; omega
              have HG := Lib.hid hgt
              go_wp2_with fail
              refine wp_region_grow (by kernel_rfl) (by kernel_rfl) ?_
              intro S hne hk ho
              have s0 : ∀ s : InC S, s.W.cell? ⟨wr.heap.size, 0, none⟩ = some (.int .i64 x.tick) := fun s => (XB.below (ho s)).cell 0
              have s1 : ∀ s : InC S, s.W.cell? ⟨wr.heap.size, 1, none⟩ = some (.int .i64 x.packet.id) := fun s => (XB.below (ho s)).cell 1
              have s2 : ∀ s : InC S, s.W.cell? ⟨wr.heap.size, 2, none⟩ = some (.int .i64 x.packet.source) := fun s => (XB.below (ho s)).cell 2
              have s3 : ∀ s : InC S, s.W.cell? ⟨wr.heap.size, 3, none⟩ = some (.int .i64 x.packet.dest) := fun s => (XB.below (ho s)).cell 3
              have s4 : ∀ s : InC S, s.W.cell? ⟨wr.heap.size, 4, none⟩ = some (.int .i64 x.packet.port) := fun s => (XB.below (ho s)).cell 4
              have s5 : ∀ s : InC S, s.W.cell? ⟨wr.heap.size, 5, none⟩ = some (.int .i64 x.packet.mark) := fun s => (XB.below (ho s)).cell 5
              have s6 : ∀ s : InC S, s.W.cell? ⟨wr.heap.size, 6, none⟩ = some (.int .i64 x.packet.size) := fun s => (XB.below (ho s)).cell 6
              have s7 : ∀ s : InC S, s.W.cell? ⟨b, o + (k - 1) * 7, none⟩ = some (.int .i64 y.tick) := fun s => ((ext_trans zB (ho s)).cell (p := ⟨b, o + (k - 1) * 7, none⟩) hblb).trans HE0.out
              repeat (go_big_quiet_step ((first | (go_at_call 58; exact grow_same (tfTick_any _ _) (bool_is h1)) | (go_at_call 80; exact grow_call hk (pkGood_any x.packet _) (bool_is h2)))))
              refine wpQuiet_nil ?_
              rintro _ ⟨s, rfl⟩
              have z1 := ext_trans zB (ho s)
              clear s0 s1 s2 s3 s4 s5 s6 s7 ho hk hne
              go_wp2_with fail
              go_ret
              exact ⟨ret_bool (by rw [timedB, chain_false hlxk (step_down (key := Timed.tick) HKJ.out HX.out HY.out HG.out)]; rfl), z1⟩
    · go_wp2_with fail
      go_ret
      exact ⟨ret_bool (by rw [timedB, chain_true (fun j hj => HC.out j (by rw [HL.out] at hj; omega)), HL.out, Bool.true_and, Bool.eq_iff_iff]; simp; omega), hb⟩

end Go.Proofs.Ytnnihiajggdplaa