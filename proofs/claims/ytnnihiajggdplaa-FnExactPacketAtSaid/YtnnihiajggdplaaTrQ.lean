/- PacketAt: contracts of the program's and the reference's; the law's walk. -/
import Derived.Test.YtnnihiajggdplaaTrP
import Derived.Deep.RegionHeld3
namespace Go.Proofs.Ytnnihiajggdplaa
open Go.RowKit

def pkB (f : Flow) (n : Int) : Bool := flowOk f && inB n 0 59

theorem pk_false {f : Flow} {n : Int} (h : pkB f n = false) : Ending.returned (.tuple #[.agg #[.int .i64 0, .int .i64 0, .int .i64 0, .int .i64 0, .int .i64 0, .int .i64 0, .int .i64 0], .bool false]) = .returned (.tuple #[.agg #[.int .i64 (fp (pkB f n) (pktTick f n)), .int .i64 (fp (pkB f n) (n + 1)), .int .i64 (fp (pkB f n) f.source), .int .i64 (fp (pkB f n) f.dest), .int .i64 (fp (pkB f n) f.port), .int .i64 (fp (pkB f n) f.mark), .int .i64 (fp (pkB f n) (pktSize f n))], .bool (pkB f n)]) := by simp [h, fp]
theorem pk_true {f : Flow} {n : Int} (h : pkB f n = true) : Ending.returned (.tuple #[.agg #[.int .i64 (pktTick f n), .int .i64 (n + 1), .int .i64 f.source, .int .i64 f.dest, .int .i64 f.port, .int .i64 f.mark, .int .i64 (pktSize f n)], .bool true]) = .returned (.tuple #[.agg #[.int .i64 (fp (pkB f n) (pktTick f n)), .int .i64 (fp (pkB f n) (n + 1)), .int .i64 (fp (pkB f n) f.source), .int .i64 (fp (pkB f n) f.dest), .int .i64 (fp (pkB f n) f.port), .int .i64 (fp (pkB f n) f.mark), .int .i64 (fp (pkB f n) (pktSize f n))], .bool (pkB f n)]) := by simp [h, fp]

set_option maxRecDepth 100000 in
set_option maxHeartbeats 2000000 in
theorem specPacketAt_any (f : Flow) (n : Int) (w : World) :
    Calls Try.prog 38 #[.agg #[.int .i64 f.key, .int .i64 f.source, .int .i64 f.dest, .int .i64 f.port, .int .i64 f.mark, .int .i64 f.start, .int .i64 f.gap, .int .i64 f.burst, .int .i64 f.size], .int .i64 n] w fun e w' => e = .returned (.tuple #[.agg #[.int .i64 (fp (pkB f n) (pktTick f n)), .int .i64 (fp (pkB f n) (n + 1)), .int .i64 (fp (pkB f n) f.source), .int .i64 (fp (pkB f n) f.dest), .int .i64 (fp (pkB f n) f.port), .int .i64 (fp (pkB f n) f.mark), .int .i64 (fp (pkB f n) (pktSize f n))], .bool (pkB f n)]) ∧ Below w.heap.size w w' := by
  have B0 : Blk ((w.alloc (.cells (List.toArray [.int .i64 f.key, .int .i64 f.source, .int .i64 f.dest, .int .i64 f.port, .int .i64 f.mark, .int .i64 f.start, .int .i64 f.gap, .int .i64 f.burst, .int .i64 f.size]) 25)).alloc (.cells (List.toArray [.int .i64 0, .int .i64 0, .int .i64 0, .int .i64 0, .int .i64 0, .int .i64 0, .int .i64 0]) 58)) w.heap.size 25 [.int .i64 f.key, .int .i64 f.source, .int .i64 f.dest, .int .i64 f.port, .int .i64 f.mark, .int .i64 f.start, .int .i64 f.gap, .int .i64 f.burst, .int .i64 f.size] := (Blk.new w 25 [.int .i64 f.key, .int .i64 f.source, .int .i64 f.dest, .int .i64 f.port, .int .i64 f.mark, .int .i64 f.start, .int .i64 f.gap, .int .i64 f.burst, .int .i64 f.size]).alloc _
  have B1 : Blk ((w.alloc (.cells (List.toArray [.int .i64 f.key, .int .i64 f.source, .int .i64 f.dest, .int .i64 f.port, .int .i64 f.mark, .int .i64 f.start, .int .i64 f.gap, .int .i64 f.burst, .int .i64 f.size]) 25)).alloc (.cells (List.toArray [.int .i64 0, .int .i64 0, .int .i64 0, .int .i64 0, .int .i64 0, .int .i64 0, .int .i64 0]) 58)) (w.heap.size + 1) 58 [.int .i64 0, .int .i64 0, .int .i64 0, .int .i64 0, .int .i64 0, .int .i64 0, .int .i64 0] := by have h := Blk.new (w.alloc (.cells (List.toArray [.int .i64 f.key, .int .i64 f.source, .int .i64 f.dest, .int .i64 f.port, .int .i64 f.mark, .int .i64 f.start, .int .i64 f.gap, .int .i64 f.burst, .int .i64 f.size]) 25)) 58 [.int .i64 0, .int .i64 0, .int .i64 0, .int .i64 0, .int .i64 0, .int .i64 0, .int .i64 0]; rwa [World.size_alloc] at h
  have z0 : Below w.heap.size w ((w.alloc (.cells (List.toArray [.int .i64 f.key, .int .i64 f.source, .int .i64 f.dest, .int .i64 f.port, .int .i64 f.mark, .int .i64 f.start, .int .i64 f.gap, .int .i64 f.burst, .int .i64 f.size]) 25)).alloc (.cells (List.toArray [.int .i64 0, .int .i64 0, .int .i64 0, .int .i64 0, .int .i64 0, .int .i64 0, .int .i64 0]) 58)) := ext_alloc (ext_alloc (ext_refl w) _) _
  cases h1 : flowOk f with
  | false =>
    have HF := Lib.hid (show pkB f n = false by simp [pkB, h1])
    have H1 := Lib.hid (show flowB f.key f.source f.dest f.port f.mark f.start f.gap f.burst f.size = false from h1)
    clear h1
    go_enter Try.func38, Try.ntmps38
    go_wp2_with fail
    refine (tfGood_any f.key f.source f.dest f.port f.mark f.start f.gap f.burst f.size _).mono ?_; rintro e w1 ⟨rfl, hb1⟩
    rw [H1.out]
    have D0 := B0.below hb1
    have D1 := B1.below hb1
    have z1 := ext_trans z0 hb1
    clear hb1 B0 B1 z0
    obtain ⟨y0, x0, d0, f0⟩ := D0.nine
    obtain ⟨y1, x1, d1, f1⟩ := D1.seven
    go_wp2_with (go_at_call 55; refine (l1In_any _ _ _ _).mono ?_; rintro e w' ⟨rfl, rfl⟩)
    all_goals first | exact (show False by omega).elim | exact bodyPost_ret (v := .tuple #[.agg #[.int .i64 0, .int .i64 0, .int .i64 0, .int .i64 0, .int .i64 0, .int .i64 0, .int .i64 0], .bool false]) (res_cell2 Try.results38 _ rfl (((((((D1.set_ 0 (.int .i64 0)).set_ 1 (.int .i64 0)).set_ 2 (.int .i64 0)).set_ 3 (.int .i64 0)).set_ 4 (.int .i64 0)).set_ 5 (.int .i64 0)).set_ 6 (.int .i64 0)) Try.underlying58 rfl (by kernel_rfl)) rfl ⟨pk_false HF.out, (((((((z1.setCell (p := ⟨w.heap.size + 1, 0, none⟩) (by simp) (.int .i64 0)).setCell (p := ⟨w.heap.size + 1, 1, none⟩) (by simp) (.int .i64 0)).setCell (p := ⟨w.heap.size + 1, 2, none⟩) (by simp) (.int .i64 0)).setCell (p := ⟨w.heap.size + 1, 3, none⟩) (by simp) (.int .i64 0)).setCell (p := ⟨w.heap.size + 1, 4, none⟩) (by simp) (.int .i64 0)).setCell (p := ⟨w.heap.size + 1, 5, none⟩) (by simp) (.int .i64 0)).setCell (p := ⟨w.heap.size + 1, 6, none⟩) (by simp) (.int .i64 0))⟩

  | true =>
    have H1 := Lib.hid (show flowB f.key f.source f.dest f.port f.mark f.start f.gap f.burst f.size = true from h1)
    have HFL := Lib.hid h1
    cases h2 : inB n 0 59 with
    | false =>
      have HF := Lib.hid (show pkB f n = false by simp [pkB, h2])
      have h3 := inB_not h2
      clear h1
      by_cases h4 : n < 0
      · go_enter Try.func38, Try.ntmps38
        go_wp2_with fail
        refine (tfGood_any f.key f.source f.dest f.port f.mark f.start f.gap f.burst f.size _).mono ?_; rintro e w1 ⟨rfl, hb1⟩
        rw [H1.out]
        have D0 := B0.below hb1
        have D1 := B1.below hb1
        have z1 := ext_trans z0 hb1
        clear hb1 B0 B1 z0
        obtain ⟨y0, x0, d0, f0⟩ := D0.nine
        obtain ⟨y1, x1, d1, f1⟩ := D1.seven
        go_wp2_with (go_at_call 55; refine (l1In_any _ _ _ _).mono ?_; rintro e w' ⟨rfl, rfl⟩)
        all_goals first | exact (show False by omega).elim | exact bodyPost_ret (v := .tuple #[.agg #[.int .i64 0, .int .i64 0, .int .i64 0, .int .i64 0, .int .i64 0, .int .i64 0, .int .i64 0], .bool false]) (res_cell2 Try.results38 _ rfl (((((((D1.set_ 0 (.int .i64 0)).set_ 1 (.int .i64 0)).set_ 2 (.int .i64 0)).set_ 3 (.int .i64 0)).set_ 4 (.int .i64 0)).set_ 5 (.int .i64 0)).set_ 6 (.int .i64 0)) Try.underlying58 rfl (by kernel_rfl)) rfl ⟨pk_false HF.out, (((((((z1.setCell (p := ⟨w.heap.size + 1, 0, none⟩) (by simp) (.int .i64 0)).setCell (p := ⟨w.heap.size + 1, 1, none⟩) (by simp) (.int .i64 0)).setCell (p := ⟨w.heap.size + 1, 2, none⟩) (by simp) (.int .i64 0)).setCell (p := ⟨w.heap.size + 1, 3, none⟩) (by simp) (.int .i64 0)).setCell (p := ⟨w.heap.size + 1, 4, none⟩) (by simp) (.int .i64 0)).setCell (p := ⟨w.heap.size + 1, 5, none⟩) (by simp) (.int .i64 0)).setCell (p := ⟨w.heap.size + 1, 6, none⟩) (by simp) (.int .i64 0))⟩

      · go_enter Try.func38, Try.ntmps38
        go_wp2_with fail
        refine (tfGood_any f.key f.source f.dest f.port f.mark f.start f.gap f.burst f.size _).mono ?_; rintro e w1 ⟨rfl, hb1⟩
        rw [H1.out]
        have D0 := B0.below hb1
        have D1 := B1.below hb1
        have z1 := ext_trans z0 hb1
        clear hb1 B0 B1 z0
        obtain ⟨y0, x0, d0, f0⟩ := D0.nine
        obtain ⟨y1, x1, d1, f1⟩ := D1.seven
        go_wp2_with (go_at_call 55; refine (l1In_any _ _ _ _).mono ?_; rintro e w' ⟨rfl, rfl⟩)
        all_goals first | exact (show False by omega).elim | exact bodyPost_ret (v := .tuple #[.agg #[.int .i64 0, .int .i64 0, .int .i64 0, .int .i64 0, .int .i64 0, .int .i64 0, .int .i64 0], .bool false]) (res_cell2 Try.results38 _ rfl (((((((D1.set_ 0 (.int .i64 0)).set_ 1 (.int .i64 0)).set_ 2 (.int .i64 0)).set_ 3 (.int .i64 0)).set_ 4 (.int .i64 0)).set_ 5 (.int .i64 0)).set_ 6 (.int .i64 0)) Try.underlying58 rfl (by kernel_rfl)) rfl ⟨pk_false HF.out, (((((((z1.setCell (p := ⟨w.heap.size + 1, 0, none⟩) (by simp) (.int .i64 0)).setCell (p := ⟨w.heap.size + 1, 1, none⟩) (by simp) (.int .i64 0)).setCell (p := ⟨w.heap.size + 1, 2, none⟩) (by simp) (.int .i64 0)).setCell (p := ⟨w.heap.size + 1, 3, none⟩) (by simp) (.int .i64 0)).setCell (p := ⟨w.heap.size + 1, 4, none⟩) (by simp) (.int .i64 0)).setCell (p := ⟨w.heap.size + 1, 5, none⟩) (by simp) (.int .i64 0)).setCell (p := ⟨w.heap.size + 1, 6, none⟩) (by simp) (.int .i64 0))⟩

    | true =>
      have HT := Lib.hid (show pkB f n = true by simp [pkB, h1, h2])
      have hn := inB_iff.1 h2
      clear h1
      go_enter Try.func38, Try.ntmps38
      go_wp2_with fail
      refine (tfGood_any f.key f.source f.dest f.port f.mark f.start f.gap f.burst f.size _).mono ?_; rintro e w1 ⟨rfl, hb1⟩
      rw [H1.out]
      have D0 := B0.below hb1
      have D1 := B1.below hb1
      have z1 := ext_trans z0 hb1
      clear hb1 B0 B1 z0
      obtain ⟨y0, x0, d0, f0⟩ := D0.nine
      obtain ⟨y1, x1, d1, f1⟩ := D1.seven
      go_wp2_with (go_at_call 55; refine (l1In_any _ _ _ _).mono ?_; rintro e w' ⟨rfl, rfl⟩)
      refine (tfPacket_any f n _ HFL.out (by omega)).mono ?_; rintro e w2 ⟨rfl, hb2⟩
      have E1 := D1.below hb2
      have z2 := ext_trans z1 hb2
      clear hb2 y0 x0 d0 f0 y1 x1 d1 f1
      obtain ⟨y1, x1, d1, f1⟩ := E1.seven
      go_wp2_with fail
      exact bodyPost_ret (v := .tuple #[.agg #[.int .i64 (pktTick f n), .int .i64 (n + 1), .int .i64 f.source, .int .i64 f.dest, .int .i64 f.port, .int .i64 f.mark, .int .i64 (pktSize f n)], .bool true]) (res_cell2 Try.results38 _ rfl (((((((E1.set_ 0 (.int .i64 (pktTick f n))).set_ 1 (.int .i64 (n + 1))).set_ 2 (.int .i64 f.source)).set_ 3 (.int .i64 f.dest)).set_ 4 (.int .i64 f.port)).set_ 5 (.int .i64 f.mark)).set_ 6 (.int .i64 (pktSize f n))) Try.underlying58 rfl (by kernel_rfl)) rfl ⟨pk_true HT.out, (((((((z2.setCell (p := ⟨w.heap.size + 1, 0, none⟩) (by simp) (.int .i64 (pktTick f n))).setCell (p := ⟨w.heap.size + 1, 1, none⟩) (by simp) (.int .i64 (n + 1))).setCell (p := ⟨w.heap.size + 1, 2, none⟩) (by simp) (.int .i64 f.source)).setCell (p := ⟨w.heap.size + 1, 3, none⟩) (by simp) (.int .i64 f.dest)).setCell (p := ⟨w.heap.size + 1, 4, none⟩) (by simp) (.int .i64 f.port)).setCell (p := ⟨w.heap.size + 1, 5, none⟩) (by simp) (.int .i64 f.mark)).setCell (p := ⟨w.heap.size + 1, 6, none⟩) (by simp) (.int .i64 (pktSize f n)))⟩

set_option maxRecDepth 100000 in
set_option maxHeartbeats 2000000 in
theorem implPacketAt_any (f : Flow) (n : Int) (w : World) :
    Calls Try.prog 39 #[.agg #[.int .i64 f.key, .int .i64 f.source, .int .i64 f.dest, .int .i64 f.port, .int .i64 f.mark, .int .i64 f.start, .int .i64 f.gap, .int .i64 f.burst, .int .i64 f.size], .int .i64 n] w fun e w' => e = .returned (.tuple #[.agg #[.int .i64 (fp (pkB f n) (pktTick f n)), .int .i64 (fp (pkB f n) (n + 1)), .int .i64 (fp (pkB f n) f.source), .int .i64 (fp (pkB f n) f.dest), .int .i64 (fp (pkB f n) f.port), .int .i64 (fp (pkB f n) f.mark), .int .i64 (fp (pkB f n) (pktSize f n))], .bool (pkB f n)]) ∧ Below w.heap.size w w' := by
  have B0 : Blk ((w.alloc (.cells (List.toArray [.int .i64 f.key, .int .i64 f.source, .int .i64 f.dest, .int .i64 f.port, .int .i64 f.mark, .int .i64 f.start, .int .i64 f.gap, .int .i64 f.burst, .int .i64 f.size]) 25)).alloc (.cells (List.toArray [.int .i64 0, .int .i64 0, .int .i64 0, .int .i64 0, .int .i64 0, .int .i64 0, .int .i64 0]) 58)) w.heap.size 25 [.int .i64 f.key, .int .i64 f.source, .int .i64 f.dest, .int .i64 f.port, .int .i64 f.mark, .int .i64 f.start, .int .i64 f.gap, .int .i64 f.burst, .int .i64 f.size] := (Blk.new w 25 [.int .i64 f.key, .int .i64 f.source, .int .i64 f.dest, .int .i64 f.port, .int .i64 f.mark, .int .i64 f.start, .int .i64 f.gap, .int .i64 f.burst, .int .i64 f.size]).alloc _
  have B1 : Blk ((w.alloc (.cells (List.toArray [.int .i64 f.key, .int .i64 f.source, .int .i64 f.dest, .int .i64 f.port, .int .i64 f.mark, .int .i64 f.start, .int .i64 f.gap, .int .i64 f.burst, .int .i64 f.size]) 25)).alloc (.cells (List.toArray [.int .i64 0, .int .i64 0, .int .i64 0, .int .i64 0, .int .i64 0, .int .i64 0, .int .i64 0]) 58)) (w.heap.size + 1) 58 [.int .i64 0, .int .i64 0, .int .i64 0, .int .i64 0, .int .i64 0, .int .i64 0, .int .i64 0] := by have h := Blk.new (w.alloc (.cells (List.toArray [.int .i64 f.key, .int .i64 f.source, .int .i64 f.dest, .int .i64 f.port, .int .i64 f.mark, .int .i64 f.start, .int .i64 f.gap, .int .i64 f.burst, .int .i64 f.size]) 25)) 58 [.int .i64 0, .int .i64 0, .int .i64 0, .int .i64 0, .int .i64 0, .int .i64 0, .int .i64 0]; rwa [World.size_alloc] at h
  have z0 : Below w.heap.size w ((w.alloc (.cells (List.toArray [.int .i64 f.key, .int .i64 f.source, .int .i64 f.dest, .int .i64 f.port, .int .i64 f.mark, .int .i64 f.start, .int .i64 f.gap, .int .i64 f.burst, .int .i64 f.size]) 25)).alloc (.cells (List.toArray [.int .i64 0, .int .i64 0, .int .i64 0, .int .i64 0, .int .i64 0, .int .i64 0, .int .i64 0]) 58)) := ext_alloc (ext_alloc (ext_refl w) _) _
  cases h1 : flowOk f with
  | false =>
    have HF := Lib.hid (show pkB f n = false by simp [pkB, h1])
    have H1 := Lib.hid (show flowB f.key f.source f.dest f.port f.mark f.start f.gap f.burst f.size = false from h1)
    clear h1
    go_enter Try.func39, Try.ntmps39
    go_wp2_with fail
    refine (implIsFlow_any f.key f.source f.dest f.port f.mark f.start f.gap f.burst f.size _).mono ?_; rintro e w1 ⟨rfl, hb1⟩
    rw [H1.out]
    have D0 := B0.below hb1
    have D1 := B1.below hb1
    have z1 := ext_trans z0 hb1
    clear hb1 B0 B1 z0
    obtain ⟨y0, x0, d0, f0⟩ := D0.nine
    obtain ⟨y1, x1, d1, f1⟩ := D1.seven
    go_wp2_with fail
    all_goals first | exact (show False by omega).elim | exact bodyPost_ret (v := .tuple #[.agg #[.int .i64 0, .int .i64 0, .int .i64 0, .int .i64 0, .int .i64 0, .int .i64 0, .int .i64 0], .bool false]) (res_cell2 Try.results39 _ rfl (((((((D1.set_ 0 (.int .i64 0)).set_ 1 (.int .i64 0)).set_ 2 (.int .i64 0)).set_ 3 (.int .i64 0)).set_ 4 (.int .i64 0)).set_ 5 (.int .i64 0)).set_ 6 (.int .i64 0)) Try.underlying58 rfl (by kernel_rfl)) rfl ⟨pk_false HF.out, (((((((z1.setCell (p := ⟨w.heap.size + 1, 0, none⟩) (by simp) (.int .i64 0)).setCell (p := ⟨w.heap.size + 1, 1, none⟩) (by simp) (.int .i64 0)).setCell (p := ⟨w.heap.size + 1, 2, none⟩) (by simp) (.int .i64 0)).setCell (p := ⟨w.heap.size + 1, 3, none⟩) (by simp) (.int .i64 0)).setCell (p := ⟨w.heap.size + 1, 4, none⟩) (by simp) (.int .i64 0)).setCell (p := ⟨w.heap.size + 1, 5, none⟩) (by simp) (.int .i64 0)).setCell (p := ⟨w.heap.size + 1, 6, none⟩) (by simp) (.int .i64 0))⟩

  | true =>
    have H1 := Lib.hid (show flowB f.key f.source f.dest f.port f.mark f.start f.gap f.burst f.size = true from h1)
    have HFL := Lib.hid h1
    cases h2 : inB n 0 59 with
    | false =>
      have HF := Lib.hid (show pkB f n = false by simp [pkB, h2])
      have h3 := inB_not h2
      clear h1
      by_cases h4 : n < 0
      · go_enter Try.func39, Try.ntmps39
        go_wp2_with fail
        refine (implIsFlow_any f.key f.source f.dest f.port f.mark f.start f.gap f.burst f.size _).mono ?_; rintro e w1 ⟨rfl, hb1⟩
        rw [H1.out]
        have D0 := B0.below hb1
        have D1 := B1.below hb1
        have z1 := ext_trans z0 hb1
        clear hb1 B0 B1 z0
        obtain ⟨y0, x0, d0, f0⟩ := D0.nine
        obtain ⟨y1, x1, d1, f1⟩ := D1.seven
        go_wp2_with fail
        all_goals first | exact (show False by omega).elim | exact bodyPost_ret (v := .tuple #[.agg #[.int .i64 0, .int .i64 0, .int .i64 0, .int .i64 0, .int .i64 0, .int .i64 0, .int .i64 0], .bool false]) (res_cell2 Try.results39 _ rfl (((((((D1.set_ 0 (.int .i64 0)).set_ 1 (.int .i64 0)).set_ 2 (.int .i64 0)).set_ 3 (.int .i64 0)).set_ 4 (.int .i64 0)).set_ 5 (.int .i64 0)).set_ 6 (.int .i64 0)) Try.underlying58 rfl (by kernel_rfl)) rfl ⟨pk_false HF.out, (((((((z1.setCell (p := ⟨w.heap.size + 1, 0, none⟩) (by simp) (.int .i64 0)).setCell (p := ⟨w.heap.size + 1, 1, none⟩) (by simp) (.int .i64 0)).setCell (p := ⟨w.heap.size + 1, 2, none⟩) (by simp) (.int .i64 0)).setCell (p := ⟨w.heap.size + 1, 3, none⟩) (by simp) (.int .i64 0)).setCell (p := ⟨w.heap.size + 1, 4, none⟩) (by simp) (.int .i64 0)).setCell (p := ⟨w.heap.size + 1, 5, none⟩) (by simp) (.int .i64 0)).setCell (p := ⟨w.heap.size + 1, 6, none⟩) (by simp) (.int .i64 0))⟩

      · go_enter Try.func39, Try.ntmps39
        go_wp2_with fail
        refine (implIsFlow_any f.key f.source f.dest f.port f.mark f.start f.gap f.burst f.size _).mono ?_; rintro e w1 ⟨rfl, hb1⟩
        rw [H1.out]
        have D0 := B0.below hb1
        have D1 := B1.below hb1
        have z1 := ext_trans z0 hb1
        clear hb1 B0 B1 z0
        obtain ⟨y0, x0, d0, f0⟩ := D0.nine
        obtain ⟨y1, x1, d1, f1⟩ := D1.seven
        go_wp2_with fail
        all_goals first | exact (show False by omega).elim | exact bodyPost_ret (v := .tuple #[.agg #[.int .i64 0, .int .i64 0, .int .i64 0, .int .i64 0, .int .i64 0, .int .i64 0, .int .i64 0], .bool false]) (res_cell2 Try.results39 _ rfl (((((((D1.set_ 0 (.int .i64 0)).set_ 1 (.int .i64 0)).set_ 2 (.int .i64 0)).set_ 3 (.int .i64 0)).set_ 4 (.int .i64 0)).set_ 5 (.int .i64 0)).set_ 6 (.int .i64 0)) Try.underlying58 rfl (by kernel_rfl)) rfl ⟨pk_false HF.out, (((((((z1.setCell (p := ⟨w.heap.size + 1, 0, none⟩) (by simp) (.int .i64 0)).setCell (p := ⟨w.heap.size + 1, 1, none⟩) (by simp) (.int .i64 0)).setCell (p := ⟨w.heap.size + 1, 2, none⟩) (by simp) (.int .i64 0)).setCell (p := ⟨w.heap.size + 1, 3, none⟩) (by simp) (.int .i64 0)).setCell (p := ⟨w.heap.size + 1, 4, none⟩) (by simp) (.int .i64 0)).setCell (p := ⟨w.heap.size + 1, 5, none⟩) (by simp) (.int .i64 0)).setCell (p := ⟨w.heap.size + 1, 6, none⟩) (by simp) (.int .i64 0))⟩

    | true =>
      have HT := Lib.hid (show pkB f n = true by simp [pkB, h1, h2])
      have hn := inB_iff.1 h2
      clear h1
      go_enter Try.func39, Try.ntmps39
      go_wp2_with fail
      refine (implIsFlow_any f.key f.source f.dest f.port f.mark f.start f.gap f.burst f.size _).mono ?_; rintro e w1 ⟨rfl, hb1⟩
      rw [H1.out]
      have D0 := B0.below hb1
      have D1 := B1.below hb1
      have z1 := ext_trans z0 hb1
      clear hb1 B0 B1 z0
      obtain ⟨y0, x0, d0, f0⟩ := D0.nine
      obtain ⟨y1, x1, d1, f1⟩ := D1.seven
      go_wp2_with fail
      refine (packetAt_any f n _ HFL.out (by omega)).mono ?_; rintro e w2 ⟨rfl, hb2⟩
      have E1 := D1.below hb2
      have z2 := ext_trans z1 hb2
      clear hb2 y0 x0 d0 f0 y1 x1 d1 f1
      obtain ⟨y1, x1, d1, f1⟩ := E1.seven
      go_wp2_with fail
      exact bodyPost_ret (v := .tuple #[.agg #[.int .i64 (pktTick f n), .int .i64 (n + 1), .int .i64 f.source, .int .i64 f.dest, .int .i64 f.port, .int .i64 f.mark, .int .i64 (pktSize f n)], .bool true]) (res_cell2 Try.results39 _ rfl (((((((E1.set_ 0 (.int .i64 (pktTick f n))).set_ 1 (.int .i64 (n + 1))).set_ 2 (.int .i64 f.source)).set_ 3 (.int .i64 f.dest)).set_ 4 (.int .i64 f.port)).set_ 5 (.int .i64 f.mark)).set_ 6 (.int .i64 (pktSize f n))) Try.underlying58 rfl (by kernel_rfl)) rfl ⟨pk_true HT.out, (((((((z2.setCell (p := ⟨w.heap.size + 1, 0, none⟩) (by simp) (.int .i64 (pktTick f n))).setCell (p := ⟨w.heap.size + 1, 1, none⟩) (by simp) (.int .i64 (n + 1))).setCell (p := ⟨w.heap.size + 1, 2, none⟩) (by simp) (.int .i64 f.source)).setCell (p := ⟨w.heap.size + 1, 3, none⟩) (by simp) (.int .i64 f.dest)).setCell (p := ⟨w.heap.size + 1, 4, none⟩) (by simp) (.int .i64 f.port)).setCell (p := ⟨w.heap.size + 1, 5, none⟩) (by simp) (.int .i64 f.mark)).setCell (p := ⟨w.heap.size + 1, 6, none⟩) (by simp) (.int .i64 (pktSize f n)))⟩

theorem specPacketAt9_any (key source dest port mark start gap burst size n : Int) (w : World) :
    Calls Try.prog 38 #[.agg #[.int .i64 key, .int .i64 source, .int .i64 dest, .int .i64 port, .int .i64 mark, .int .i64 start, .int .i64 gap, .int .i64 burst, .int .i64 size], .int .i64 n] w fun e w' => e = .returned (.tuple #[.agg #[.int .i64 (fp (pkB ⟨key, source, dest, port, mark, start, gap, burst, size⟩ n) (pktTick ⟨key, source, dest, port, mark, start, gap, burst, size⟩ n)), .int .i64 (fp (pkB ⟨key, source, dest, port, mark, start, gap, burst, size⟩ n) (n + 1)), .int .i64 (fp (pkB ⟨key, source, dest, port, mark, start, gap, burst, size⟩ n) source), .int .i64 (fp (pkB ⟨key, source, dest, port, mark, start, gap, burst, size⟩ n) dest), .int .i64 (fp (pkB ⟨key, source, dest, port, mark, start, gap, burst, size⟩ n) port), .int .i64 (fp (pkB ⟨key, source, dest, port, mark, start, gap, burst, size⟩ n) mark), .int .i64 (fp (pkB ⟨key, source, dest, port, mark, start, gap, burst, size⟩ n) (pktSize ⟨key, source, dest, port, mark, start, gap, burst, size⟩ n))], .bool (pkB ⟨key, source, dest, port, mark, start, gap, burst, size⟩ n)]) ∧ Below w.heap.size w w' := specPacketAt_any ⟨key, source, dest, port, mark, start, gap, burst, size⟩ n w

theorem implPacketAt9_any (key source dest port mark start gap burst size n : Int) (w : World) :
    Calls Try.prog 39 #[.agg #[.int .i64 key, .int .i64 source, .int .i64 dest, .int .i64 port, .int .i64 mark, .int .i64 start, .int .i64 gap, .int .i64 burst, .int .i64 size], .int .i64 n] w fun e w' => e = .returned (.tuple #[.agg #[.int .i64 (fp (pkB ⟨key, source, dest, port, mark, start, gap, burst, size⟩ n) (pktTick ⟨key, source, dest, port, mark, start, gap, burst, size⟩ n)), .int .i64 (fp (pkB ⟨key, source, dest, port, mark, start, gap, burst, size⟩ n) (n + 1)), .int .i64 (fp (pkB ⟨key, source, dest, port, mark, start, gap, burst, size⟩ n) source), .int .i64 (fp (pkB ⟨key, source, dest, port, mark, start, gap, burst, size⟩ n) dest), .int .i64 (fp (pkB ⟨key, source, dest, port, mark, start, gap, burst, size⟩ n) port), .int .i64 (fp (pkB ⟨key, source, dest, port, mark, start, gap, burst, size⟩ n) mark), .int .i64 (fp (pkB ⟨key, source, dest, port, mark, start, gap, burst, size⟩ n) (pktSize ⟨key, source, dest, port, mark, start, gap, burst, size⟩ n))], .bool (pkB ⟨key, source, dest, port, mark, start, gap, burst, size⟩ n)]) ∧ Below w.heap.size w w' := implPacketAt_any ⟨key, source, dest, port, mark, start, gap, burst, size⟩ n w

set_option maxRecDepth 100000 in
set_option maxHeartbeats 2000000 in
theorem walkPacketAt (key source dest port mark start gap burst size n : Int) (w : World) :
    Calls Try.prog 9 #[.agg #[.int .i64 key, .int .i64 source, .int .i64 dest, .int .i64 port, .int .i64 mark, .int .i64 start, .int .i64 gap, .int .i64 burst, .int .i64 size], .int .i64 n] w fun e w' => e = .returned (.bool true) ∧ Below w.heap.size w w' := by
  have b0 := Blk.new w 23 [.int .i64 key, .int .i64 source, .int .i64 dest, .int .i64 port, .int .i64 mark, .int .i64 start, .int .i64 gap, .int .i64 burst, .int .i64 size]
  have z0 := ext_alloc (ext_refl w) (.cells (List.toArray [.int .i64 key, .int .i64 source, .int .i64 dest, .int .i64 port, .int .i64 mark, .int .i64 start, .int .i64 gap, .int .i64 burst, .int .i64 size]) 23)
  go_enter Try.func9, Try.ntmps9
  go_wp2_with fail
  refine (toFlow_any _ _ _ _ _ _ _ _ _ _ ).mono ?_; rintro e w1 ⟨rfl, hb1⟩
  have b1 := b0.below hb1
  have z1 := ext_trans z0 hb1
  clear hb1 b0 z0
  go_wp2_with fail
  refine (specPacketAt9_any _ _ _ _ _ _ _ _ _ _ _).mono ?_; rintro e w2 ⟨rfl, hb2⟩
  have b2 := (b1.below hb2).alloc (.cells (List.toArray [.int .i64 (fp (pkB ⟨key, source, dest, port, mark, start, gap, burst, size⟩ n) (pktTick ⟨key, source, dest, port, mark, start, gap, burst, size⟩ n)), .int .i64 (fp (pkB ⟨key, source, dest, port, mark, start, gap, burst, size⟩ n) (n + 1)), .int .i64 (fp (pkB ⟨key, source, dest, port, mark, start, gap, burst, size⟩ n) source), .int .i64 (fp (pkB ⟨key, source, dest, port, mark, start, gap, burst, size⟩ n) dest), .int .i64 (fp (pkB ⟨key, source, dest, port, mark, start, gap, burst, size⟩ n) port), .int .i64 (fp (pkB ⟨key, source, dest, port, mark, start, gap, burst, size⟩ n) mark), .int .i64 (fp (pkB ⟨key, source, dest, port, mark, start, gap, burst, size⟩ n) (pktSize ⟨key, source, dest, port, mark, start, gap, burst, size⟩ n))]) 58)
  have D2 := Blk.new w2 58 [.int .i64 (fp (pkB ⟨key, source, dest, port, mark, start, gap, burst, size⟩ n) (pktTick ⟨key, source, dest, port, mark, start, gap, burst, size⟩ n)), .int .i64 (fp (pkB ⟨key, source, dest, port, mark, start, gap, burst, size⟩ n) (n + 1)), .int .i64 (fp (pkB ⟨key, source, dest, port, mark, start, gap, burst, size⟩ n) source), .int .i64 (fp (pkB ⟨key, source, dest, port, mark, start, gap, burst, size⟩ n) dest), .int .i64 (fp (pkB ⟨key, source, dest, port, mark, start, gap, burst, size⟩ n) port), .int .i64 (fp (pkB ⟨key, source, dest, port, mark, start, gap, burst, size⟩ n) mark), .int .i64 (fp (pkB ⟨key, source, dest, port, mark, start, gap, burst, size⟩ n) (pktSize ⟨key, source, dest, port, mark, start, gap, burst, size⟩ n))]
  have z2 := ext_alloc (ext_trans z1 hb2) (.cells (List.toArray [.int .i64 (fp (pkB ⟨key, source, dest, port, mark, start, gap, burst, size⟩ n) (pktTick ⟨key, source, dest, port, mark, start, gap, burst, size⟩ n)), .int .i64 (fp (pkB ⟨key, source, dest, port, mark, start, gap, burst, size⟩ n) (n + 1)), .int .i64 (fp (pkB ⟨key, source, dest, port, mark, start, gap, burst, size⟩ n) source), .int .i64 (fp (pkB ⟨key, source, dest, port, mark, start, gap, burst, size⟩ n) dest), .int .i64 (fp (pkB ⟨key, source, dest, port, mark, start, gap, burst, size⟩ n) port), .int .i64 (fp (pkB ⟨key, source, dest, port, mark, start, gap, burst, size⟩ n) mark), .int .i64 (fp (pkB ⟨key, source, dest, port, mark, start, gap, burst, size⟩ n) (pktSize ⟨key, source, dest, port, mark, start, gap, burst, size⟩ n))]) 58)
  obtain ⟨y0, x0, d0, f0⟩ := (b1.below hb2).nine
  clear hb2 b1 z1
  go_wp2_with fail
  refine (toFlow_any _ _ _ _ _ _ _ _ _ _ ).mono ?_; rintro e w3 ⟨rfl, hb3⟩
  have D3 := D2.below hb3
  have z3 := ext_trans z2 hb3
  clear hb3 D2 z2 b2 y0 x0 d0 f0
  go_wp2_with fail
  refine (implPacketAt9_any _ _ _ _ _ _ _ _ _ _ _).mono ?_; rintro e w4 ⟨rfl, hb4⟩
  have z4 := ext_alloc (ext_trans z3 hb4) (.cells (List.toArray [.int .i64 (fp (pkB ⟨key, source, dest, port, mark, start, gap, burst, size⟩ n) (pktTick ⟨key, source, dest, port, mark, start, gap, burst, size⟩ n)), .int .i64 (fp (pkB ⟨key, source, dest, port, mark, start, gap, burst, size⟩ n) (n + 1)), .int .i64 (fp (pkB ⟨key, source, dest, port, mark, start, gap, burst, size⟩ n) source), .int .i64 (fp (pkB ⟨key, source, dest, port, mark, start, gap, burst, size⟩ n) dest), .int .i64 (fp (pkB ⟨key, source, dest, port, mark, start, gap, burst, size⟩ n) port), .int .i64 (fp (pkB ⟨key, source, dest, port, mark, start, gap, burst, size⟩ n) mark), .int .i64 (fp (pkB ⟨key, source, dest, port, mark, start, gap, burst, size⟩ n) (pktSize ⟨key, source, dest, port, mark, start, gap, burst, size⟩ n))]) 58)
  obtain ⟨y4, x4, c4, f4⟩ := (D3.below hb4).seven
  clear hb4 z3 D3
  go_wp2_with fail
  refine (eqTimed_same _ _ _ _ _ _ _ _ ).mono ?_; rintro e w5 ⟨rfl, hb5⟩
  go_wp2_with fail
  go_ret
  exact ⟨rfl, ext_trans z4 hb5⟩

end Go.Proofs.Ytnnihiajggdplaa