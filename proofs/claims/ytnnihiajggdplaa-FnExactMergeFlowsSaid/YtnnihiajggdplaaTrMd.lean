/- MergeFlows: contract of the reference's. No condition. -/
import Derived.Test.YtnnihiajggdplaaTrMc
namespace Go.Proofs.Ytnnihiajggdplaa
open Go.RowKit Go.Sort

def SgRel (w : World) (n : Nat) (xs : List Flow) (i : Value) (wr : World) : Prop := ∃ k : Nat, k ≤ n ∧ i = .int .i64 k ∧ (xs.take k).all flowOk = true ∧ Below w.heap.size w wr

set_option maxRecDepth 100000 in
set_option maxHeartbeats 4000000 in
theorem specMerge_any (A : Option Addr) (n c : Nat) (xs : List Flow) (t : Int) (w : World) (hn : n ≤ 1048576) (hl : xs.length = n) (hr : Rd w 9 A n (xs.flatMap encFlow)) :
    Calls Try.prog 26 #[.slice A n c, .int .i64 t] w (RetTB 58 w (mgR xs t) (mgB xs t)) := by
  have HL := Lib.hid hl
  clear hl
  go_enter Try.func26, Try.ntmps26
  go_wp2_with fail
  go_loopw [10] (SgRel w n xs) (fun i _ => n - (intOf i).toNat)
  case atStart => exact ⟨0, Nat.zero_le _, rfl, rfl, ext_refl w⟩
  case round =>
    obtain ⟨k, hk, rfl, hall, hb⟩ := hrel
    have HALL := Lib.hid hall
    clear hall
    by_cases hlt : k < n
    · have kz : (k : Int) < (n : Int) := by omega
      obtain ⟨b, o, rfl, hblb, hcellb⟩ := hr.2 (by omega)
      have hblrbf : b < wr.heap.size := Nat.lt_of_lt_of_le hblb hb.size
      have hlxf : k < xs.length := by rw [HL.out]; omega
      have hxf : xs[k]? = some xs[k] := List.getElem?_eq_getElem hlxf
      generalize xs[k] = f at hxf
      have fc0 : wr.cell? ⟨b, o + (k * 9 + 0), none⟩ = some (.int .i64 f.key) := (hb.cell (p := ⟨b, o + (k * 9 + 0), none⟩) hblb).trans (hcellb _ _ ((flat_get encFlow 9 encFlow_len xs k 0 f hxf (by omega)).trans rfl))
      have fc1 : wr.cell? ⟨b, o + (k * 9 + 1), none⟩ = some (.int .i64 f.source) := (hb.cell (p := ⟨b, o + (k * 9 + 1), none⟩) hblb).trans (hcellb _ _ ((flat_get encFlow 9 encFlow_len xs k 1 f hxf (by omega)).trans rfl))
      have fc2 : wr.cell? ⟨b, o + (k * 9 + 2), none⟩ = some (.int .i64 f.dest) := (hb.cell (p := ⟨b, o + (k * 9 + 2), none⟩) hblb).trans (hcellb _ _ ((flat_get encFlow 9 encFlow_len xs k 2 f hxf (by omega)).trans rfl))
      have fc3 : wr.cell? ⟨b, o + (k * 9 + 3), none⟩ = some (.int .i64 f.port) := (hb.cell (p := ⟨b, o + (k * 9 + 3), none⟩) hblb).trans (hcellb _ _ ((flat_get encFlow 9 encFlow_len xs k 3 f hxf (by omega)).trans rfl))
      have fc4 : wr.cell? ⟨b, o + (k * 9 + 4), none⟩ = some (.int .i64 f.mark) := (hb.cell (p := ⟨b, o + (k * 9 + 4), none⟩) hblb).trans (hcellb _ _ ((flat_get encFlow 9 encFlow_len xs k 4 f hxf (by omega)).trans rfl))
      have fc5 : wr.cell? ⟨b, o + (k * 9 + 5), none⟩ = some (.int .i64 f.start) := (hb.cell (p := ⟨b, o + (k * 9 + 5), none⟩) hblb).trans (hcellb _ _ ((flat_get encFlow 9 encFlow_len xs k 5 f hxf (by omega)).trans rfl))
      have fc6 : wr.cell? ⟨b, o + (k * 9 + 6), none⟩ = some (.int .i64 f.gap) := (hb.cell (p := ⟨b, o + (k * 9 + 6), none⟩) hblb).trans (hcellb _ _ ((flat_get encFlow 9 encFlow_len xs k 6 f hxf (by omega)).trans rfl))
      have fc7 : wr.cell? ⟨b, o + (k * 9 + 7), none⟩ = some (.int .i64 f.burst) := (hb.cell (p := ⟨b, o + (k * 9 + 7), none⟩) hblb).trans (hcellb _ _ ((flat_get encFlow 9 encFlow_len xs k 7 f hxf (by omega)).trans rfl))
      have fc8 : wr.cell? ⟨b, o + (k * 9 + 8), none⟩ = some (.int .i64 f.size) := (hb.cell (p := ⟨b, o + (k * 9 + 8), none⟩) hblb).trans (hcellb _ _ ((flat_get encFlow 9 encFlow_len xs k 8 f hxf (by omega)).trans rfl))
      simp only [Nat.add_zero, ← Nat.add_assoc] at fc0 fc1 fc2 fc3 fc4 fc5 fc6 fc7 fc8
      have HX := Lib.hid hxf
      clear hxf hlxf hcellb
      have z0 := ext_alloc hb (.cells (List.toArray [.int .i64 f.key, .int .i64 f.source, .int .i64 f.dest, .int .i64 f.port, .int .i64 f.mark, .int .i64 f.start, .int .i64 f.gap, .int .i64 f.burst, .int .i64 f.size]) 25)
      cases h1 : flowOk f with
      | false =>
        have hbb : mgB xs t = false := by unfold mgB; rw [flows_false HX.out h1]; simp
        have HBB := Lib.hid hbb
        have H1 := Lib.hid (show flowB f.key f.source f.dest f.port f.mark f.start f.gap f.burst f.size = false from h1)
        clear hbb h1
        go_wp2_with fail
        refine (tfGood_any f.key f.source f.dest f.port f.mark f.start f.gap f.burst f.size _).mono ?_; rintro e w1 ⟨rfl, hb1⟩
        rw [H1.out]
        have z1 := ext_trans z0 hb1
        go_wp2_with fail
        go_ret2
        rw [mg_bad HBB.out, HBB.out]
        exact retTB_nil z1
      | true =>
        have H1 := Lib.hid (show flowB f.key f.source f.dest f.port f.mark f.start f.gap f.burst f.size = true from h1)
        have HAL := Lib.hid (all_take HX.out HALL.out h1)
        clear h1
        go_wp2_with fail
        refine (tfGood_any f.key f.source f.dest f.port f.mark f.start f.gap f.burst f.size _).mono ?_; rintro e w1 ⟨rfl, hb1⟩
        rw [H1.out]
        have z1 := Lib.hid (ext_trans z0 hb1)
        clear z0 hb1 hb fc0 fc1 fc2 fc3 fc4 fc5 fc6 fc7 fc8
        go_wp2_with fail
        go_roundw
        case rel =>
          have hr2 : SgRel w n xs (.int .i64 ((k : Int) + 1)) w1 := ⟨k + 1, by omega, by simp, HAL.out, z1.out⟩
          first | exact hr2 | ((repeat apply Exists.intro); exact ⟨hr2, rfl⟩)
        case measure => simp [intOf]; omega
    · obtain rfl : k = n := by omega
      have kz : ¬ (k : Int) < (k : Int) := by omega
      have hall := HALL.out
      rw [List.take_of_length_le (by rw [HL.out]; exact Nat.le_refl _)] at hall
      have HA2 := Lib.hid hall
      clear hall HALL
      by_cases h6 : 6 < k
      · have hbb : mgB xs t = false := by unfold mgB; rw [HL.out]; simp; omega
        have HBB := Lib.hid hbb
        have h6z : (6 : Int) < (k : Int) := by omega
        clear hbb
        go_wp2_with (go_at_call 58; refine (tfTick_any _ _).mono ?_; rintro e w' ⟨rfl, rfl⟩)
        go_ret2
        rw [mg_bad HBB.out, HBB.out]
        exact retTB_nil hb
      · have h6z : ¬ (6 : Int) < (k : Int) := by omega
        cases h2 : inB t 0 100000 with
        | false =>
          have hbb : mgB xs t = false := by unfold mgB; rw [h2]; simp
          have HBB := Lib.hid hbb
          clear hbb
          go_wp2_with (go_at_call 58; refine (tfTick_any _ _).mono ?_; rintro e w' ⟨rfl, rfl⟩)
          go_ret2
          rw [mg_bad HBB.out, HBB.out]
          exact retTB_nil hb
        | true =>
          have hbb : mgB xs t = true := by unfold mgB; rw [HA2.out, h2, HL.out, decide_eq_true (Nat.not_lt.1 h6)]; rfl
          have HBB := Lib.hid hbb
          have hc := tfMergeLoop_any A k c xs t wr (by omega) HL.out HA2.out (hr.below hb)
          clear hbb
          go_wp2_with (first | (go_at_call 58; refine (tfTick_any _ _).mono ?_; rintro e w' ⟨rfl, rfl⟩) | (go_at_call 60; refine hc.mono ?_; rintro e w2 ⟨A2, c2, rfl, ow, hb2⟩))
          go_ret2
          rw [mg_good HBB.out, HBB.out]
          exact ⟨A2, c2, rfl, own_base ow hb.size, ext_trans hb hb2⟩
end Go.Proofs.Ytnnihiajggdplaa
