/- The walks of the laws LeastBurst and ConformsTo. -/
import Derived.Test.YtmmelpgnfjjokaaBoT
import Derived.Deep.RegionHeld3
namespace Go.Proofs.Ytmmelpgnfjjokaa
open Go.RowKit

set_option maxHeartbeats 4000000 in
theorem walkLeastBurst (rate : Int) (Axs : Option Addr) (nxs cxs : Nat) (xs : List Arrived) (hnxs : nxs ≤ 9223372036854775807) (w : World) (hrxs : Rd w 2 Axs nxs (xs.flatMap encArrived)) :
    Calls Try.prog 12 #[.int .i64 rate, .slice Axs nxs cxs] w fun e w' => e = .returned (.bool true) ∧ Below w.heap.size w w' := by
  by_cases hbigxs : 1048576 < nxs
  · go_enter Try.func12, Try.ntmps12
    go_wp2_with (first | (go_at_call 44; refine (szArrivedS_any Axs nxs cxs _ _ hnxs (by omega) (by omega)).mono ?_; rintro e w1 ⟨rfl, rfl⟩; have hsxs : (if (1048576 : Int) < (nxs : Int) then (-1 : Int) else 1048576 - nxs) = -1 := by {{ split <;> omega }}; rw [hsxs]; clear hsxs) | fail)
    go_ret
    exact ⟨rfl, ext_refl w⟩
  have hmxs : nxs ≤ 1048576 := by omega
  have z0 : Below w.heap.size w w := ext_refl w
  go_enter Try.func12, Try.ntmps12
  go_wp2_with fail
  refine (szArrivedS_any Axs nxs cxs _ _ hnxs (by omega) (by omega)).mono ?_; rintro e w' ⟨rfl, rfl⟩
  have hsxs : (if (1048576 : Int) < (nxs : Int) then (-1 : Int) else 1048576 - nxs) = 1048576 - nxs := by { split <;> omega }
  rw [hsxs]
  clear hsxs
  go_wp2_with fail
  refine (toArrivedS_any Axs nxs cxs xs _ hmxs (hrxs.below z0)).mono ?_; rintro e w1 ⟨gt1, rfl, owt1, hb1⟩
  have ot11 := own_base owt1 z0.size
  have z1 := ext_trans z0 hb1
  go_wp2_with fail
  refine (specLeastBurst_any rate _ nxs xs _ hmxs (Rd.of_own ot11)).mono ?_; rintro e w2 ⟨rfl, hb2⟩
  have ot12 := own_ext ot11 hb2
  have z2 := ext_trans z1 hb2
  go_wp2_with fail
  refine (toArrivedS_any Axs nxs cxs xs _ hmxs (hrxs.below z2)).mono ?_; rintro e w3 ⟨gxxs, rfl, owxxs, hb3⟩
  have apxxst1 := apart_before ot12.lt owxxs.lt
  have ot13 := own_ext ot12 hb3
  have oxxs3 := own_base owxxs z2.size
  have z3 := ext_trans z2 hb3
  go_wp2_with fail
  refine (implLeastBurst_any rate _ nxs xs _ hmxs (Rd.of_own oxxs3)).mono ?_; rintro e w4 ⟨rfl, hb4⟩
  have ot14 := own_ext ot13 hb4
  have oxxs4 := own_ext oxxs3 hb4
  have z4 := ext_trans z3 hb4
  go_wp2_with fail
  refine (toArrivedS_any Axs nxs cxs xs _ hmxs (hrxs.below z4)).mono ?_; rintro e w5 ⟨gt3, rfl, owt3, hb5⟩
  have apt3t1 := apart_before ot14.lt owt3.lt
  have ot15 := own_ext ot14 hb5
  have apt3xxs := apart_before oxxs4.lt owt3.lt
  have oxxs5 := own_ext oxxs4 hb5
  have ot35 := own_base owt3 z4.size
  have z5 := ext_trans z4 hb5
  go_wp2_with fail
  refine (eqArrivedS_same _ _ nxs _ _ xs _ hmxs (Rd.of_own oxxs5) (Rd.of_own ot35)).mono ?_; rintro e w6 ⟨rfl, hb6⟩
  have ot16 := own_ext ot15 hb6
  have oxxs6 := own_ext oxxs5 hb6
  have ot36 := own_ext ot35 hb6
  have z6 := ext_trans z5 hb6
  go_wp2_with fail
  go_ret
  exact ⟨rfl, z6⟩

set_option maxHeartbeats 4000000 in
theorem walkConformsTo (b r : Int) (Axs : Option Addr) (nxs cxs : Nat) (xs : List Arrived) (hnxs : nxs ≤ 9223372036854775807) (w : World) (hrxs : Rd w 2 Axs nxs (xs.flatMap encArrived)) :
    Calls Try.prog 13 #[.agg #[.int .i64 b, .int .i64 r], .slice Axs nxs cxs] w fun e w' => e = .returned (.bool true) ∧ Below w.heap.size w w' := by
  by_cases hbigxs : 1048576 < nxs
  · go_enter Try.func13, Try.ntmps13
    go_wp2_with (first | (go_at_call 44; refine (szArrivedS_any Axs nxs cxs _ _ hnxs (by omega) (by omega)).mono ?_; rintro e w1 ⟨rfl, rfl⟩; have hsxs : (if (1048576 : Int) < (nxs : Int) then (-1 : Int) else 1048576 - nxs) = -1 := by {{ split <;> omega }}; rw [hsxs]; clear hsxs) | fail)
    go_ret
    exact ⟨rfl, ext_alloc (ext_refl w) _⟩
  have hmxs : nxs ≤ 1048576 := by omega
  have ba0 := Blk.new w 23 [.int .i64 b, .int .i64 r]
  have z0 : Below w.heap.size w (w.alloc (.cells (List.toArray [.int .i64 b, .int .i64 r]) 23)) := ext_alloc (ext_refl w) _
  go_enter Try.func13, Try.ntmps13
  go_wp2_with fail
  refine (szArrivedS_any Axs nxs cxs _ _ hnxs (by omega) (by omega)).mono ?_; rintro e w' ⟨rfl, rfl⟩
  have hsxs : (if (1048576 : Int) < (nxs : Int) then (-1 : Int) else 1048576 - nxs) = 1048576 - nxs := by { split <;> omega }
  rw [hsxs]
  clear hsxs
  go_wp2_with fail
  refine (toInflow_any _ _ _ ).mono ?_; rintro e w1 ⟨rfl, hb1⟩
  have ba1 := ba0.below hb1
  have z1 := ext_trans z0 hb1
  go_wp2_with fail
  refine (toArrivedS_any Axs nxs cxs xs _ hmxs (hrxs.below z1)).mono ?_; rintro e w2 ⟨gt1, rfl, owt1, hb2⟩
  have ba2 := ba1.below hb2
  have ot12 := own_base owt1 z1.size
  have z2 := ext_trans z1 hb2
  go_wp2_with fail
  refine (specConformsTo_any b r _ nxs xs _ hmxs (Rd.of_own ot12)).mono ?_; rintro e w3 ⟨rfl, hb3⟩
  have ot13 := own_ext ot12 hb3
  have ba3 := ba2.below hb3
  have z3 := ext_trans z2 hb3
  go_wp2_with fail
  refine (toArrivedS_any Axs nxs cxs xs _ hmxs (hrxs.below z3)).mono ?_; rintro e w4 ⟨gxxs, rfl, owxxs, hb4⟩
  have apxxst1 := apart_before ot13.lt owxxs.lt
  have ot14 := own_ext ot13 hb4
  have ba4 := ba3.below hb4
  have oxxs4 := own_base owxxs z3.size
  have z4 := ext_trans z3 hb4
  obtain ⟨ya4, xa4, ca4, fa4⟩ := ba4.two
  go_wp2_with fail
  refine (toInflow_any _ _ _ ).mono ?_; rintro e w5 ⟨rfl, hb5⟩
  have ot15 := own_ext ot14 hb5
  have oxxs5 := own_ext oxxs4 hb5
  have ba5 := ba4.below hb5
  have z5 := ext_trans z4 hb5
  clear ya4 xa4 ca4 fa4
  go_wp2_with fail
  refine (implConformsTo_any b r _ nxs xs _ hmxs (Rd.of_own oxxs5)).mono ?_; rintro e w6 ⟨rfl, hb6⟩
  have ot16 := own_ext ot15 hb6
  have oxxs6 := own_ext oxxs5 hb6
  have ba6 := ba5.below hb6
  have z6 := ext_trans z5 hb6
  go_wp2_with fail
  refine (toArrivedS_any Axs nxs cxs xs _ hmxs (hrxs.below z6)).mono ?_; rintro e w7 ⟨gt3, rfl, owt3, hb7⟩
  have apt3t1 := apart_before ot16.lt owt3.lt
  have ot17 := own_ext ot16 hb7
  have apt3xxs := apart_before oxxs6.lt owt3.lt
  have oxxs7 := own_ext oxxs6 hb7
  have ba7 := ba6.below hb7
  have ot37 := own_base owt3 z6.size
  have z7 := ext_trans z6 hb7
  go_wp2_with fail
  refine (eqArrivedS_same _ _ nxs _ _ xs _ hmxs (Rd.of_own oxxs7) (Rd.of_own ot37)).mono ?_; rintro e w8 ⟨rfl, hb8⟩
  have ot18 := own_ext ot17 hb8
  have oxxs8 := own_ext oxxs7 hb8
  have ot38 := own_ext ot37 hb8
  have ba8 := ba7.below hb8
  have z8 := ext_trans z7 hb8
  go_wp2_with fail
  go_ret
  exact ⟨rfl, z8⟩

end Go.Proofs.Ytmmelpgnfjjokaa