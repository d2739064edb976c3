/- The walks of the laws IsFlow and ShiftFlow. -/
import Derived.Test.YtnnihiajggdplaaTrA
import Derived.Deep.RegionHeld3
namespace Go.Proofs.Ytnnihiajggdplaa
open Go.RowKit

set_option maxHeartbeats 1000000 in
theorem walkIsFlow (key src dst port mark start gap burst size : Int) (w : World) :
    Calls Try.prog 3 #[.agg #[.int .i64 key, .int .i64 src, .int .i64 dst, .int .i64 port, .int .i64 mark, .int .i64 start, .int .i64 gap, .int .i64 burst, .int .i64 size]] w fun e w' => e = .returned (.bool true) ∧ Below w.heap.size w w' := by
  have b0 := Blk.new w 23 [.int .i64 key, .int .i64 src, .int .i64 dst, .int .i64 port, .int .i64 mark, .int .i64 start, .int .i64 gap, .int .i64 burst, .int .i64 size]
  go_enter Try.func3, Try.ntmps3
  go_wp2_with fail
  refine (toFlow_any _ _ _ _ _ _ _ _ _ _ ).mono ?_; rintro e w1 ⟨rfl, hb1⟩
  have b1 := b0.below hb1
  go_wp2_with fail
  refine (specIsFlow_any _ _ _ _ _ _ _ _ _ _ ).mono ?_; rintro e w2 ⟨rfl, hb2⟩
  have b2 := b1.below hb2
  obtain ⟨y2, x2, c2, f2⟩ := b2.nine
  go_wp2_with fail
  refine (toFlow_any _ _ _ _ _ _ _ _ _ _ ).mono ?_; rintro e w3 ⟨rfl, hb3⟩
  go_wp2_with fail
  refine (implIsFlow_any _ _ _ _ _ _ _ _ _ _ ).mono ?_; rintro e w4 ⟨rfl, hb4⟩
  go_wp2_with fail
  go_ret
  exact ⟨rfl, ext_trans (ext_trans (ext_trans (ext_trans (ext_alloc (ext_refl w) _) hb1) hb2) hb3) hb4⟩

set_option maxHeartbeats 4000000 in
theorem walkShiftFlow (key src dst port mark start gap burst size t : Int) (w : World) :
    Calls Try.prog 6 #[.agg #[.int .i64 key, .int .i64 src, .int .i64 dst, .int .i64 port, .int .i64 mark, .int .i64 start, .int .i64 gap, .int .i64 burst, .int .i64 size], .int .i64 t] w fun e w' => e = .returned (.bool true) ∧ Below w.heap.size w w' := by
  have b0 := Blk.new w 23 [.int .i64 key, .int .i64 src, .int .i64 dst, .int .i64 port, .int .i64 mark, .int .i64 start, .int .i64 gap, .int .i64 burst, .int .i64 size]
  go_enter Try.func6, Try.ntmps6
  go_wp2_with fail
  refine (toFlow_any _ _ _ _ _ _ _ _ _ _ ).mono ?_; rintro e w1 ⟨rfl, hb1⟩
  go_wp2_with fail
  refine (specShiftFlow_any _ _ _ _ _ _ _ _ _ _  _).mono ?_; rintro e w2 ⟨rfl, hb2⟩
  have b2 := (b0.below hb1).below hb2
  have z2 := ext_alloc (ext_trans (ext_trans (ext_alloc (ext_refl w) _) hb1) hb2) (.cells (List.toArray [.int .i64 (fp (shiftB key src dst port mark start gap burst size t) key), .int .i64 (fp (shiftB key src dst port mark start gap burst size t) src), .int .i64 (fp (shiftB key src dst port mark start gap burst size t) dst), .int .i64 (fp (shiftB key src dst port mark start gap burst size t) port), .int .i64 (fp (shiftB key src dst port mark start gap burst size t) mark), .int .i64 (fp (shiftB key src dst port mark start gap burst size t) (start + t)), .int .i64 (fp (shiftB key src dst port mark start gap burst size t) gap), .int .i64 (fp (shiftB key src dst port mark start gap burst size t) burst), .int .i64 (fp (shiftB key src dst port mark start gap burst size t) size)]) 25)
  have d2 := Blk.new w2 25 [.int .i64 (fp (shiftB key src dst port mark start gap burst size t) key), .int .i64 (fp (shiftB key src dst port mark start gap burst size t) src), .int .i64 (fp (shiftB key src dst port mark start gap burst size t) dst), .int .i64 (fp (shiftB key src dst port mark start gap burst size t) port), .int .i64 (fp (shiftB key src dst port mark start gap burst size t) mark), .int .i64 (fp (shiftB key src dst port mark start gap burst size t) (start + t)), .int .i64 (fp (shiftB key src dst port mark start gap burst size t) gap), .int .i64 (fp (shiftB key src dst port mark start gap burst size t) burst), .int .i64 (fp (shiftB key src dst port mark start gap burst size t) size)]
  clear b0 hb1 hb2
  obtain ⟨y2, x2, c2, f2⟩ := b2.nine
  go_wp2_with fail
  refine (toFlow_any _ _ _ _ _ _ _ _ _ _ ).mono ?_; rintro e w3 ⟨rfl, hb3⟩
  go_wp2_with fail
  refine (implShiftFlow_any _ _ _ _ _ _ _ _ _ _  _).mono ?_; rintro e w4 ⟨rfl, hb4⟩
  have d4 := (d2.below hb3).below hb4
  have z4 := ext_alloc (ext_trans (ext_trans z2 hb3) hb4) (.cells (List.toArray [.int .i64 (fp (shiftB key src dst port mark start gap burst size t) key), .int .i64 (fp (shiftB key src dst port mark start gap burst size t) src), .int .i64 (fp (shiftB key src dst port mark start gap burst size t) dst), .int .i64 (fp (shiftB key src dst port mark start gap burst size t) port), .int .i64 (fp (shiftB key src dst port mark start gap burst size t) mark), .int .i64 (fp (shiftB key src dst port mark start gap burst size t) (start + t)), .int .i64 (fp (shiftB key src dst port mark start gap burst size t) gap), .int .i64 (fp (shiftB key src dst port mark start gap burst size t) burst), .int .i64 (fp (shiftB key src dst port mark start gap burst size t) size)]) 25)
  clear y2 x2 c2 f2 hb3 hb4
  obtain ⟨y4, x4, c4, f4⟩ := d4.nine
  go_wp2_with fail
  refine (eqFlow_same _ _ _ _ _ _ _ _ _ _ ).mono ?_; rintro e w5 ⟨rfl, hb5⟩
  go_wp2_with fail
  go_ret
  exact ⟨rfl, ext_trans z4 hb5⟩

end Go.Proofs.Ytnnihiajggdplaa