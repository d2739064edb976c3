/- The walk of the law GapsOf. -/
import Derived.Test.YtnnihiajggdplaaTrG
import Derived.Deep.RegionHeld3
namespace Go.Proofs.Ytnnihiajggdplaa
open Go.RowKit

theorem specGapsOf9_any (key source dest port mark start gap burst size m : Int) (w : World) :
    Calls Try.prog 34 #[.agg #[.int .i64 key, .int .i64 source, .int .i64 dest, .int .i64 port, .int .i64 mark, .int .i64 start, .int .i64 gap, .int .i64 burst, .int .i64 size], .int .i64 m] w (RetInts 3 w (gapsR ⟨key, source, dest, port, mark, start, gap, burst, size⟩ m) (gapsB ⟨key, source, dest, port, mark, start, gap, burst, size⟩ m)) := specGapsOf_any ⟨key, source, dest, port, mark, start, gap, burst, size⟩ m w

theorem implGapsOf9_any (key source dest port mark start gap burst size m : Int) (w : World) :
    Calls Try.prog 35 #[.agg #[.int .i64 key, .int .i64 source, .int .i64 dest, .int .i64 port, .int .i64 mark, .int .i64 start, .int .i64 gap, .int .i64 burst, .int .i64 size], .int .i64 m] w (RetInts 3 w (gapsR ⟨key, source, dest, port, mark, start, gap, burst, size⟩ m) (gapsB ⟨key, source, dest, port, mark, start, gap, burst, size⟩ m)) := implGapsOf_any ⟨key, source, dest, port, mark, start, gap, burst, size⟩ m w

set_option maxRecDepth 100000 in
set_option maxHeartbeats 4000000 in
theorem walkGapsOf (key source dest port mark start gap burst size : Int) (m : Int) (w : World)  :
    Calls Try.prog 8 #[.agg #[.int .i64 key, .int .i64 source, .int .i64 dest, .int .i64 port, .int .i64 mark, .int .i64 start, .int .i64 gap, .int .i64 burst, .int .i64 size], .int .i64 m] w fun e w' => e = .returned (.bool true) ∧ Below w.heap.size w w' := by
  have hR : (gapsR ⟨key, source, dest, port, mark, start, gap, burst, size⟩ m).length ≤ 1048576 := by have := gapsR_len ⟨key, source, dest, port, mark, start, gap, burst, size⟩ m; omega
  have bf0 := Blk.new w 23 [.int .i64 key, .int .i64 source, .int .i64 dest, .int .i64 port, .int .i64 mark, .int .i64 start, .int .i64 gap, .int .i64 burst, .int .i64 size]
  have z0 : Below w.heap.size w (w.alloc (.cells (List.toArray [.int .i64 key, .int .i64 source, .int .i64 dest, .int .i64 port, .int .i64 mark, .int .i64 start, .int .i64 gap, .int .i64 burst, .int .i64 size]) 23)) := ext_alloc (ext_refl w) _
  go_enter Try.func8, Try.ntmps8
  go_wp2_with fail
  refine (toFlow_any _ _ _ _ _ _ _ _ _ _ ).mono ?_; rintro e w1 ⟨rfl, hb1⟩
  have bf1 := bf0.below hb1
  have z1 := ext_trans z0 hb1
  go_wp2_with fail
  refine (specGapsOf9_any key source dest port mark start gap burst size m _ ).mono ?_; rintro e w2 ⟨Aw, Cw, rfl, oww, hb2⟩
  have bf2 := bf1.below hb2
  have ow2 := own_base oww z1.size
  have z2 := ext_trans z1 hb2
  obtain ⟨yf2, xf2, cf2, ff2⟩ := bf2.nine
  go_wp2_with fail
  refine (toFlow_any _ _ _ _ _ _ _ _ _ _ ).mono ?_; rintro e w3 ⟨rfl, hb3⟩
  have ow3 := own_ext ow2 hb3
  have bf3 := bf2.below hb3
  have z3 := ext_trans z2 hb3
  clear yf2 xf2 cf2 ff2
  go_wp2_with fail
  refine (implGapsOf9_any key source dest port mark start gap burst size m _ ).mono ?_; rintro e w4 ⟨Ag, Cg, rfl, owg, hb4⟩
  have apgw := apart_before ow3.lt owg.lt
  have ow4 := own_ext ow3 hb4
  have bf4 := bf3.below hb4
  have og4 := own_base owg z3.size
  have z4 := ext_trans z3 hb4
  go_wp2_with fail
  refine (eqIntS_same _ _ (gapsR ⟨key, source, dest, port, mark, start, gap, burst, size⟩ m).length _ _ (gapsR ⟨key, source, dest, port, mark, start, gap, burst, size⟩ m) _ hR (Rd.of_own og4) (Rd.of_own ow4)).mono ?_; rintro e w5 ⟨rfl, hb5⟩
  have ow5 := own_ext ow4 hb5
  have og5 := own_ext og4 hb5
  have bf5 := bf4.below hb5
  have z5 := ext_trans z4 hb5
  go_wp2_with fail
  refine (markIntS_own _ (gapsR ⟨key, source, dest, port, mark, start, gap, burst, size⟩ m).length _ _ _ 1 _ hR (by omega) (by omega) og5).mono ?_; rintro e w6 ⟨rfl, og6, hg6⟩
  have z6 := below_marked z5 og5 (Nat.le_refl _) hg6
  have ow6 := ow5.kept hg6 apgw.1
  have bf6 := bf5.grown hg6 (box_ne og5 bf5 (by decide))
  go_wp2_with fail
  refine (heldIntS_any _ (gapsR ⟨key, source, dest, port, mark, start, gap, burst, size⟩ m).length _ 1 _ hR (by omega) (by omega) (Rd.of_own og6)).mono ?_; rintro e w7 ⟨rfl, rfl⟩
  obtain ⟨yf7, xf7, cf7, ff7⟩ := bf6.nine
  go_wp2_with fail
  refine (toFlow_any _ _ _ _ _ _ _ _ _ _ ).mono ?_; rintro e w8 ⟨rfl, hb8⟩
  have ow8 := own_ext ow6 hb8
  have og8 := own_ext og6 hb8
  have bf8 := bf6.below hb8
  have z8 := ext_trans z6 hb8
  clear yf7 xf7 cf7 ff7
  go_wp2_with fail
  refine (implGapsOf9_any key source dest port mark start gap burst size m _ ).mono ?_; rintro e w9 ⟨Ah, Ch, rfl, owh, hb9⟩
  have aphw := apart_before ow8.lt owh.lt
  have ow9 := own_ext ow8 hb9
  have aphg := apart_before og8.lt owh.lt
  have og9 := own_ext og8 hb9
  have bf9 := bf8.below hb9
  have oh9 := own_base owh z8.size
  have z9 := ext_trans z8 hb9
  go_wp2_with fail
  refine (eqIntS_same _ _ (gapsR ⟨key, source, dest, port, mark, start, gap, burst, size⟩ m).length _ _ (gapsR ⟨key, source, dest, port, mark, start, gap, burst, size⟩ m) _ hR (Rd.of_own oh9) (Rd.of_own ow9)).mono ?_; rintro e w10 ⟨rfl, hb10⟩
  have ow10 := own_ext ow9 hb10
  have og10 := own_ext og9 hb10
  have oh10 := own_ext oh9 hb10
  have bf10 := bf9.below hb10
  have z10 := ext_trans z9 hb10
  go_wp2_with fail
  refine (heldIntS_any _ (gapsR ⟨key, source, dest, port, mark, start, gap, burst, size⟩ m).length _ 1 _ hR (by omega) (by omega) (Rd.of_own og10)).mono ?_; rintro e w11 ⟨rfl, rfl⟩
  go_wp2_with fail
  go_ret
  exact ⟨rfl, z10⟩

end Go.Proofs.Ytnnihiajggdplaa