/- The walks of the laws over policers by value. -/
import Derived.Test.YtdhojfkdbpghmaaPoD
import Derived.Deep.RegionHeld3
namespace Go.Proofs.Ytdhojfkdbpghmaa
open Go.RowKit

set_option maxHeartbeats 1000000 in
theorem walkIsPolicer (lr lc lt hr hc ht : Int) (w : World) :
    Calls Try.prog 3 #[.agg #[.int .i64 lr, .int .i64 lc, .int .i64 lt, .int .i64 hr, .int .i64 hc, .int .i64 ht]] w fun e w' => e = .returned (.bool true) ∧ Below w.heap.size w w' := by
  have b0 := Blk.new w 25 [.int .i64 lr, .int .i64 lc, .int .i64 lt, .int .i64 hr, .int .i64 hc, .int .i64 ht]
  go_enter Try.func3, Try.ntmps3
  go_wp2_with fail
  refine (toPolicer_any _ _ _ _ _ _ _ ).mono ?_; rintro e w1 ⟨rfl, hb1⟩
  have b1 := b0.below hb1
  go_wp2_with fail
  refine (specIsPolicer_any _ _ _ _ _ _ _ ).mono ?_; rintro e w2 ⟨rfl, hb2⟩
  have b2 := b1.below hb2
  obtain ⟨y2, x2, c2, f2⟩ := b2.six
  go_wp2_with fail
  refine (toPolicer_any _ _ _ _ _ _ _ ).mono ?_; rintro e w3 ⟨rfl, hb3⟩
  have b3 := b2.below hb3
  go_wp2_with fail
  refine (implIsPolicer_any _ _ _ _ _ _ _ ).mono ?_; rintro e w4 ⟨rfl, hb4⟩
  have b4 := b3.below hb4
  go_wp2_with fail
  go_ret
  exact ⟨rfl, ext_trans (ext_trans (ext_trans (ext_trans (ext_alloc (ext_refl w) _) hb1) hb2) hb3) hb4⟩

set_option maxHeartbeats 1000000 in
theorem walkGreenBound (lr lc lt hr hc ht n : Int) (w : World) :
    Calls Try.prog 4 #[.agg #[.int .i64 lr, .int .i64 lc, .int .i64 lt, .int .i64 hr, .int .i64 hc, .int .i64 ht], .int .i64 n] w fun e w' => e = .returned (.bool true) ∧ Below w.heap.size w w' := by
  have b0 := Blk.new w 25 [.int .i64 lr, .int .i64 lc, .int .i64 lt, .int .i64 hr, .int .i64 hc, .int .i64 ht]
  go_enter Try.func4, Try.ntmps4
  go_wp2_with fail
  refine (toPolicer_any _ _ _ _ _ _ _ ).mono ?_; rintro e w1 ⟨rfl, hb1⟩
  have b1 := b0.below hb1
  go_wp2_with fail
  refine (specGreenBound_any _ _ _ _ _ _ _ _ ).mono ?_; rintro e w2 ⟨rfl, hb2⟩
  have b2 := b1.below hb2
  obtain ⟨y2, x2, c2, f2⟩ := b2.six
  go_wp2_with fail
  refine (toPolicer_any _ _ _ _ _ _ _ ).mono ?_; rintro e w3 ⟨rfl, hb3⟩
  have b3 := b2.below hb3
  go_wp2_with fail
  refine (implGreenBound_any _ _ _ _ _ _ _ _ ).mono ?_; rintro e w4 ⟨rfl, hb4⟩
  have b4 := b3.below hb4
  go_wp2_with fail
  go_ret
  exact ⟨rfl, ext_trans (ext_trans (ext_trans (ext_trans (ext_alloc (ext_refl w) _) hb1) hb2) hb3) hb4⟩

set_option maxHeartbeats 1000000 in
theorem walkNotRedBound (lr lc lt hr hc ht n : Int) (w : World) :
    Calls Try.prog 5 #[.agg #[.int .i64 lr, .int .i64 lc, .int .i64 lt, .int .i64 hr, .int .i64 hc, .int .i64 ht], .int .i64 n] w fun e w' => e = .returned (.bool true) ∧ Below w.heap.size w w' := by
  have b0 := Blk.new w 25 [.int .i64 lr, .int .i64 lc, .int .i64 lt, .int .i64 hr, .int .i64 hc, .int .i64 ht]
  go_enter Try.func5, Try.ntmps5
  go_wp2_with fail
  refine (toPolicer_any _ _ _ _ _ _ _ ).mono ?_; rintro e w1 ⟨rfl, hb1⟩
  have b1 := b0.below hb1
  go_wp2_with fail
  refine (specNotRedBound_any _ _ _ _ _ _ _ _ ).mono ?_; rintro e w2 ⟨rfl, hb2⟩
  have b2 := b1.below hb2
  obtain ⟨y2, x2, c2, f2⟩ := b2.six
  go_wp2_with fail
  refine (toPolicer_any _ _ _ _ _ _ _ ).mono ?_; rintro e w3 ⟨rfl, hb3⟩
  have b3 := b2.below hb3
  go_wp2_with fail
  refine (implNotRedBound_any _ _ _ _ _ _ _ _ ).mono ?_; rintro e w4 ⟨rfl, hb4⟩
  have b4 := b3.below hb4
  go_wp2_with fail
  go_ret
  exact ⟨rfl, ext_trans (ext_trans (ext_trans (ext_trans (ext_alloc (ext_refl w) _) hb1) hb2) hb3) hb4⟩

set_option maxHeartbeats 1000000 in
theorem walkColourAware (lr lc lt hr hc ht size given : Int) (w : World) :
    Calls Try.prog 7 #[.agg #[.int .i64 lr, .int .i64 lc, .int .i64 lt, .int .i64 hr, .int .i64 hc, .int .i64 ht], .int .i64 size, .int .i64 given] w fun e w' => e = .returned (.bool true) ∧ Below w.heap.size w w' := by
  have b0 := Blk.new w 25 [.int .i64 lr, .int .i64 lc, .int .i64 lt, .int .i64 hr, .int .i64 hc, .int .i64 ht]
  go_enter Try.func7, Try.ntmps7
  go_wp2_with fail
  refine (toPolicer_any _ _ _ _ _ _ _ ).mono ?_; rintro e w1 ⟨rfl, hb1⟩
  have b1 := b0.below hb1
  go_wp2_with fail
  refine (specColourAware_any _ _ _ _ _ _ _ _ _ ).mono ?_; rintro e w2 ⟨rfl, hb2⟩
  have b2 := b1.below hb2
  obtain ⟨y2, x2, c2, f2⟩ := b2.six
  go_wp2_with fail
  refine (toPolicer_any _ _ _ _ _ _ _ ).mono ?_; rintro e w3 ⟨rfl, hb3⟩
  have b3 := b2.below hb3
  go_wp2_with fail
  refine (implColourAware_any _ _ _ _ _ _ _ _ _ ).mono ?_; rintro e w4 ⟨rfl, hb4⟩
  have b4 := b3.below hb4
  go_wp2_with fail
  go_ret
  exact ⟨rfl, ext_trans (ext_trans (ext_trans (ext_trans (ext_alloc (ext_refl w) _) hb1) hb2) hb3) hb4⟩

set_option maxHeartbeats 1000000 in
theorem walkColourOf (lr lc lt hr hc ht size : Int) (w : World) :
    Calls Try.prog 8 #[.agg #[.int .i64 lr, .int .i64 lc, .int .i64 lt, .int .i64 hr, .int .i64 hc, .int .i64 ht], .int .i64 size] w fun e w' => e = .returned (.bool true) ∧ Below w.heap.size w w' := by
  have b0 := Blk.new w 25 [.int .i64 lr, .int .i64 lc, .int .i64 lt, .int .i64 hr, .int .i64 hc, .int .i64 ht]
  go_enter Try.func8, Try.ntmps8
  go_wp2_with fail
  refine (toPolicer_any _ _ _ _ _ _ _ ).mono ?_; rintro e w1 ⟨rfl, hb1⟩
  have b1 := b0.below hb1
  go_wp2_with fail
  refine (specColourOf_any _ _ _ _ _ _ _ _ ).mono ?_; rintro e w2 ⟨rfl, hb2⟩
  have b2 := b1.below hb2
  obtain ⟨y2, x2, c2, f2⟩ := b2.six
  go_wp2_with fail
  refine (toPolicer_any _ _ _ _ _ _ _ ).mono ?_; rintro e w3 ⟨rfl, hb3⟩
  have b3 := b2.below hb3
  go_wp2_with fail
  refine (implColourOf_any _ _ _ _ _ _ _ _ ).mono ?_; rintro e w4 ⟨rfl, hb4⟩
  have b4 := b3.below hb4
  go_wp2_with fail
  go_ret
  exact ⟨rfl, ext_trans (ext_trans (ext_trans (ext_trans (ext_alloc (ext_refl w) _) hb1) hb2) hb3) hb4⟩

set_option maxHeartbeats 1000000 in
theorem walkFullPolicer (a b c d : Int) (w : World) :
    Calls Try.prog 6 #[.int .i64 a, .int .i64 b, .int .i64 c, .int .i64 d] w fun e w' => e = .returned (.bool true) ∧ Below w.heap.size w w' := by
  go_enter Try.func6, Try.ntmps6
  go_wp2_with fail
  refine (specFullPolicer_any _ _ _ _ _).mono ?_; rintro e w1 ⟨rfl, hb1⟩
  have d1 := Blk.new w1 29 [.int .i64 (fp (fullB a b c d) a), .int .i64 (fp (fullB a b c d) b), .int .i64 (fp (fullB a b c d) b), .int .i64 (fp (fullB a b c d) c), .int .i64 (fp (fullB a b c d) d), .int .i64 (fp (fullB a b c d) d)]
  have z1 := ext_alloc hb1 (.cells (List.toArray [.int .i64 (fp (fullB a b c d) a), .int .i64 (fp (fullB a b c d) b), .int .i64 (fp (fullB a b c d) b), .int .i64 (fp (fullB a b c d) c), .int .i64 (fp (fullB a b c d) d), .int .i64 (fp (fullB a b c d) d)]) 29)
  go_wp2_with fail
  refine (implFullPolicer_any _ _ _ _ _).mono ?_; rintro e w2 ⟨rfl, hb2⟩
  have d2 := d1.below hb2
  have z2 := ext_alloc (ext_trans z1 hb2) (.cells (List.toArray [.int .i64 (fp (fullB a b c d) a), .int .i64 (fp (fullB a b c d) b), .int .i64 (fp (fullB a b c d) b), .int .i64 (fp (fullB a b c d) c), .int .i64 (fp (fullB a b c d) d), .int .i64 (fp (fullB a b c d) d)]) 29)
  obtain ⟨y2, x2, c2, f2⟩ := d2.six
  go_wp2_with fail
  refine (eqPolicer_same _ _ _ _ _ _ _).mono ?_; rintro e w3 ⟨rfl, hb3⟩
  go_wp2_with fail
  go_ret
  exact ⟨rfl, ext_trans z2 hb3⟩

set_option maxHeartbeats 2000000 in
theorem walkPolicePacket (lr lc lt hr hc ht size given : Int) (w : World) :
    Calls Try.prog 10 #[.agg #[.int .i64 lr, .int .i64 lc, .int .i64 lt, .int .i64 hr, .int .i64 hc, .int .i64 ht], .int .i64 size, .int .i64 given] w fun e w' => e = .returned (.bool true) ∧ Below w.heap.size w w' := by
  have b0 := Blk.new w 25 [.int .i64 lr, .int .i64 lc, .int .i64 lt, .int .i64 hr, .int .i64 hc, .int .i64 ht]
  go_enter Try.func10, Try.ntmps10
  go_wp2_with fail
  refine (toPolicer_any _ _ _ _ _ _ _).mono ?_; rintro e w1 ⟨rfl, hb1⟩
  go_wp2_with fail
  refine (specPolicePacket_any _ _ _ _ _ _ _ _ _).mono ?_; rintro e w2 ⟨rfl, hb2⟩
  have b2 := (b0.below hb1).below hb2
  have z2 := ext_alloc (ext_trans (ext_trans (ext_alloc (ext_refl w) _) hb1) hb2) (.cells (List.toArray [.int .i64 (fp (awareB lr lc lt hr hc ht size given) lr), .int .i64 (fp (awareB lr lc lt hr hc ht size given) lc), .int .i64 (fp (awareB lr lc lt hr hc ht size given) (lowAfter lt size (colourI lt ht size given))), .int .i64 (fp (awareB lr lc lt hr hc ht size given) hr), .int .i64 (fp (awareB lr lc lt hr hc ht size given) hc), .int .i64 (fp (awareB lr lc lt hr hc ht size given) (highAfter ht size (colourI lt ht size given)))]) 29)
  have d2 := Blk.new w2 29 [.int .i64 (fp (awareB lr lc lt hr hc ht size given) lr), .int .i64 (fp (awareB lr lc lt hr hc ht size given) lc), .int .i64 (fp (awareB lr lc lt hr hc ht size given) (lowAfter lt size (colourI lt ht size given))), .int .i64 (fp (awareB lr lc lt hr hc ht size given) hr), .int .i64 (fp (awareB lr lc lt hr hc ht size given) hc), .int .i64 (fp (awareB lr lc lt hr hc ht size given) (highAfter ht size (colourI lt ht size given)))]
  clear b0 hb1 hb2
  obtain ⟨y2, x2, c2, f2⟩ := b2.six
  go_wp2_with fail
  refine (toPolicer_any _ _ _ _ _ _ _).mono ?_; rintro e w3 ⟨rfl, hb3⟩
  go_wp2_with fail
  refine (implPolicePacket_any _ _ _ _ _ _ _ _ _).mono ?_; rintro e w4 ⟨rfl, hb4⟩
  have d4 := (d2.below hb3).below hb4
  have z4 := ext_alloc (ext_trans (ext_trans z2 hb3) hb4) (.cells (List.toArray [.int .i64 (fp (awareB lr lc lt hr hc ht size given) lr), .int .i64 (fp (awareB lr lc lt hr hc ht size given) lc), .int .i64 (fp (awareB lr lc lt hr hc ht size given) (lowAfter lt size (colourI lt ht size given))), .int .i64 (fp (awareB lr lc lt hr hc ht size given) hr), .int .i64 (fp (awareB lr lc lt hr hc ht size given) hc), .int .i64 (fp (awareB lr lc lt hr hc ht size given) (highAfter ht size (colourI lt ht size given)))]) 29)
  clear y2 x2 c2 f2 hb3 hb4
  obtain ⟨y4, x4, c4, f4⟩ := d4.six
  go_wp2_with fail
  refine (eqPolicer_same _ _ _ _ _ _ _).mono ?_; rintro e w5 ⟨rfl, hb5⟩
  go_wp2_with fail
  go_ret
  exact ⟨rfl, ext_trans z4 hb5⟩

end Go.Proofs.Ytdhojfkdbpghmaa