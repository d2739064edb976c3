/- The walk of the law SlowestSends. -/
import Derived.Test.YtmmelpgnfjjokaaBoS
import Derived.Deep.RegionHeld3
namespace Go.Proofs.Ytmmelpgnfjjokaa
open Go.RowKit

set_option maxRecDepth 100000 in
set_option maxHeartbeats 4000000 in
theorem walkSlowestSends (sr sd : Int) (Axs : Option Addr) (nxs cxs : Nat) (xs : List Arrived) (hnxs : nxs ≤ 9223372036854775807) (w : World) (hrxs : Rd w 2 Axs nxs (xs.flatMap encArrived)) :
    Calls Try.prog 15 #[.agg #[.int .i64 sr, .int .i64 sd], .slice Axs nxs cxs] w fun e w' => e = .returned (.bool true) ∧ Below w.heap.size w w' := by
  by_cases hbigxs : 1048576 < nxs
  · go_enter Try.func15, Try.ntmps15
    go_wp2_with (first | (go_at_call 44; refine (szArrivedS_any Axs nxs cxs _ _ hnxs (by omega) (by omega)).mono ?_; rintro e w1 ⟨rfl, rfl⟩; have hsxs : (if (1048576 : Int) < (nxs : Int) then (-1 : Int) else 1048576 - nxs) = -1 := by {{ split <;> omega }}; rw [hsxs]; clear hsxs) | fail)
    go_ret
    exact ⟨rfl, ext_alloc (ext_refl w) _⟩
  have hmxs : nxs ≤ 1048576 := by omega
  have hR : (slowR sr sd xs).length ≤ 1048576 := by have := slowR_len sr sd xs; omega
  have ba0 := Blk.new w 29 [.int .i64 sr, .int .i64 sd]
  have z0 : Below w.heap.size w (w.alloc (.cells (List.toArray [.int .i64 sr, .int .i64 sd]) 29)) := ext_alloc (ext_refl w) _
  go_enter Try.func15, Try.ntmps15
  go_wp2_with fail
  refine (szArrivedS_any Axs nxs cxs _ _ hnxs (by omega) (by omega)).mono ?_; rintro e w' ⟨rfl, rfl⟩
  have hsxs : (if (1048576 : Int) < (nxs : Int) then (-1 : Int) else 1048576 - nxs) = 1048576 - nxs := by { split <;> omega }
  rw [hsxs]
  clear hsxs
  go_wp2_with fail
  refine (toService_any _ _ _ ).mono ?_; rintro e w1 ⟨rfl, hb1⟩
  have ba1 := ba0.below hb1
  have z1 := ext_trans z0 hb1
  go_wp2_with fail
  refine (toArrivedS_any Axs nxs cxs xs _ hmxs (hrxs.below z1)).mono ?_; rintro e w2 ⟨gt1, rfl, owt1, hb2⟩
  have ba2 := ba1.below hb2
  have ot12 := own_base owt1 z1.size
  have z2 := ext_trans z1 hb2
  go_wp2_with fail
  refine (specSlowestSends_any sr sd _ nxs xs _ hmxs (Rd.of_own ot12)).mono ?_; rintro e w3 ⟨Aw, Cw, rfl, oww, hb3⟩
  have apwt1 := apart_before ot12.lt oww.lt
  have ot13 := own_ext ot12 hb3
  have ba3 := ba2.below hb3
  have ow3 := own_base oww z2.size
  have z3 := ext_trans z2 hb3
  go_wp2_with fail
  refine (toArrivedS_any Axs nxs cxs xs _ hmxs (hrxs.below z3)).mono ?_; rintro e w4 ⟨gxxs, rfl, owxxs, hb4⟩
  have apxxst1 := apart_before ot13.lt owxxs.lt
  have ot14 := own_ext ot13 hb4
  have apxxsw := apart_before ow3.lt owxxs.lt
  have ow4 := own_ext ow3 hb4
  have ba4 := ba3.below hb4
  have oxxs4 := own_base owxxs z3.size
  have z4 := ext_trans z3 hb4
  obtain ⟨ya4, xa4, ca4, fa4⟩ := ba4.two
  go_wp2_with fail
  refine (toService_any _ _ _ ).mono ?_; rintro e w5 ⟨rfl, hb5⟩
  have ot15 := own_ext ot14 hb5
  have ow5 := own_ext ow4 hb5
  have oxxs5 := own_ext oxxs4 hb5
  have ba5 := ba4.below hb5
  have z5 := ext_trans z4 hb5
  clear ya4 xa4 ca4 fa4
  go_wp2_with fail
  refine (implSlowestSends_any sr sd _ nxs xs _ hmxs (Rd.of_own oxxs5)).mono ?_; rintro e w6 ⟨Ag, Cg, rfl, owg, hb6⟩
  have apgt1 := apart_before ot15.lt owg.lt
  have ot16 := own_ext ot15 hb6
  have apgw := apart_before ow5.lt owg.lt
  have ow6 := own_ext ow5 hb6
  have apgxxs := apart_before oxxs5.lt owg.lt
  have oxxs6 := own_ext oxxs5 hb6
  have ba6 := ba5.below hb6
  have og6 := own_base owg z5.size
  have z6 := ext_trans z5 hb6
  go_wp2_with fail
  refine (eqIntS_same _ _ (slowR sr sd xs).length _ _ (slowR sr sd xs) _ hR (Rd.of_own og6) (Rd.of_own ow6)).mono ?_; rintro e w7 ⟨rfl, hb7⟩
  have ot17 := own_ext ot16 hb7
  have ow7 := own_ext ow6 hb7
  have oxxs7 := own_ext oxxs6 hb7
  have og7 := own_ext og6 hb7
  have ba7 := ba6.below hb7
  have z7 := ext_trans z6 hb7
  go_wp2_with fail
  refine (toArrivedS_any Axs nxs cxs xs _ hmxs (hrxs.below z7)).mono ?_; rintro e w8 ⟨gt3, rfl, owt3, hb8⟩
  have apt3t1 := apart_before ot17.lt owt3.lt
  have ot18 := own_ext ot17 hb8
  have apt3w := apart_before ow7.lt owt3.lt
  have ow8 := own_ext ow7 hb8
  have apt3xxs := apart_before oxxs7.lt owt3.lt
  have oxxs8 := own_ext oxxs7 hb8
  have apt3g := apart_before og7.lt owt3.lt
  have og8 := own_ext og7 hb8
  have ba8 := ba7.below hb8
  have ot38 := own_base owt3 z7.size
  have z8 := ext_trans z7 hb8
  go_wp2_with fail
  refine (eqArrivedS_same _ _ nxs _ _ xs _ hmxs (Rd.of_own oxxs8) (Rd.of_own ot38)).mono ?_; rintro e w9 ⟨rfl, hb9⟩
  have ot19 := own_ext ot18 hb9
  have ow9 := own_ext ow8 hb9
  have oxxs9 := own_ext oxxs8 hb9
  have og9 := own_ext og8 hb9
  have ot39 := own_ext ot38 hb9
  have ba9 := ba8.below hb9
  have z9 := ext_trans z8 hb9
  go_wp2_with fail
  refine (markArrivedS_own _ nxs _ _ _ _ _ hmxs (by omega) (by omega) oxxs9).mono ?_; rintro e w10 ⟨rfl, oxxs10, hg10⟩
  have z10 := below_marked z9 oxxs9 (Nat.le_refl _) hg10
  have ot110 := ot19.kept hg10 apxxst1.1
  have ow10 := ow9.kept hg10 apxxsw.1
  have og10 := og9.kept hg10 apgxxs.2
  have ba10 := ba9.grown hg10 (box_ne oxxs9 ba9 (by decide))
  go_wp2_with fail
  refine (eqIntS_same _ _ (slowR sr sd xs).length _ _ (slowR sr sd xs) _ hR (Rd.of_own og10) (Rd.of_own ow10)).mono ?_; rintro e w11 ⟨rfl, hb11⟩
  have ot111 := own_ext ot110 hb11
  have ow11 := own_ext ow10 hb11
  have oxxs11 := own_ext oxxs10 hb11
  have og11 := own_ext og10 hb11
  have ba11 := ba10.below hb11
  have z11 := ext_trans z10 hb11
  go_wp2_with fail
  refine (markIntS_own _ (slowR sr sd xs).length _ _ _ 1 _ hR (by omega) (by omega) og11).mono ?_; rintro e w12 ⟨rfl, og12, hg12⟩
  have z12 := below_marked z11 og11 (Nat.le_refl _) hg12
  have ot112 := ot111.kept hg12 apgt1.1
  have ow12 := ow11.kept hg12 apgw.1
  have oxxs12 := oxxs11.kept hg12 apgxxs.1
  have ba12 := ba11.grown hg12 (box_ne og11 ba11 (by decide))
  go_wp2_with fail
  refine (heldIntS_any _ (slowR sr sd xs).length _ 1 _ hR (by omega) (by omega) (Rd.of_own og12)).mono ?_; rintro e w13 ⟨rfl, rfl⟩
  obtain ⟨ya13, xa13, ca13, fa13⟩ := ba12.two
  go_wp2_with fail
  refine (toService_any _ _ _ ).mono ?_; rintro e w14 ⟨rfl, hb14⟩
  have ot114 := own_ext ot112 hb14
  have ow14 := own_ext ow12 hb14
  have og14 := own_ext og12 hb14
  have ba14 := ba12.below hb14
  have z14 := ext_trans z12 hb14
  clear ya13 xa13 ca13 fa13
  go_wp2_with fail
  refine (toArrivedS_any Axs nxs cxs xs _ hmxs (hrxs.below z14)).mono ?_; rintro e w15 ⟨gt4, rfl, owt4, hb15⟩
  have apt4t1 := apart_before ot114.lt owt4.lt
  have ot115 := own_ext ot114 hb15
  have apt4w := apart_before ow14.lt owt4.lt
  have ow15 := own_ext ow14 hb15
  have apt4g := apart_before og14.lt owt4.lt
  have og15 := own_ext og14 hb15
  have ba15 := ba14.below hb15
  have ot415 := own_base owt4 z14.size
  have z15 := ext_trans z14 hb15
  go_wp2_with fail
  refine (implSlowestSends_any sr sd _ nxs xs _ hmxs (Rd.of_own ot415)).mono ?_; rintro e w16 ⟨Ah, Ch, rfl, owh, hb16⟩
  have apht1 := apart_before ot115.lt owh.lt
  have ot116 := own_ext ot115 hb16
  have aphw := apart_before ow15.lt owh.lt
  have ow16 := own_ext ow15 hb16
  have aphg := apart_before og15.lt owh.lt
  have og16 := own_ext og15 hb16
  have apht4 := apart_before ot415.lt owh.lt
  have ot416 := own_ext ot415 hb16
  have ba16 := ba15.below hb16
  have oh16 := own_base owh z15.size
  have z16 := ext_trans z15 hb16
  go_wp2_with fail
  refine (eqIntS_same _ _ (slowR sr sd xs).length _ _ (slowR sr sd xs) _ hR (Rd.of_own oh16) (Rd.of_own ow16)).mono ?_; rintro e w17 ⟨rfl, hb17⟩
  have ot117 := own_ext ot116 hb17
  have ow17 := own_ext ow16 hb17
  have og17 := own_ext og16 hb17
  have ot417 := own_ext ot416 hb17
  have oh17 := own_ext oh16 hb17
  have ba17 := ba16.below hb17
  have z17 := ext_trans z16 hb17
  go_wp2_with fail
  refine (heldIntS_any _ (slowR sr sd xs).length _ 1 _ hR (by omega) (by omega) (Rd.of_own og17)).mono ?_; rintro e w18 ⟨rfl, rfl⟩
  go_wp2_with fail
  go_ret
  exact ⟨rfl, z17⟩

end Go.Proofs.Ytmmelpgnfjjokaa