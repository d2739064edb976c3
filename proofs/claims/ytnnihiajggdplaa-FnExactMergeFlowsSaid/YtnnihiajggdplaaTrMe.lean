/- FnExactMergeFlows: the law's walk. No condition. -/
import Derived.Test.YtnnihiajggdplaaTrMd
namespace Go.Proofs.Ytnnihiajggdplaa
open Go.RowKit Go.Sort

theorem flows_len {w : World} {A : Option Addr} {n : Nat} {xs : List Flow} (hr : Rd w 9 A n (xs.flatMap encFlow)) : xs.length = n := by
  have h := hr.1
  rw [flat_len encFlow 9 encFlow_len] at h
  omega
theorem specMergeFlows_any (A : Option Addr) (n c : Nat) (xs : List Flow) (t : Int) (w : World) (hn : n ≤ 1048576) (hr : Rd w 9 A n (xs.flatMap encFlow)) :
    Calls Try.prog 26 #[.slice A n c, .int .i64 t] w (RetTB 58 w (mgR xs t) (mgB xs t)) := specMerge_any A n c xs t w hn (flows_len hr) hr
theorem implMergeFlows_any (A : Option Addr) (n c : Nat) (xs : List Flow) (t : Int) (w : World) (hn : n ≤ 1048576) (hr : Rd w 9 A n (xs.flatMap encFlow)) :
    Calls Try.prog 28 #[.slice A n c, .int .i64 t] w (RetTB 58 w (mgR xs t) (mgB xs t)) := implMerge_any A n c xs t w hn (flows_len hr) hr

set_option maxHeartbeats 4000000 in
theorem walkMergeFlows (Axs : Option Addr) (nxs cxs : Nat) (xs : List Flow) (hnxs : nxs ≤ 9223372036854775807) (t : Int) (w : World) (hrxs : Rd w 9 Axs nxs (xs.flatMap encFlow)) :
    Calls Try.prog 7 #[.slice Axs nxs cxs, .int .i64 t] w fun e w' => e = .returned (.bool true) ∧ Below w.heap.size w w' := by
  by_cases hbigxs : 1048576 < nxs
  · go_enter Try.func7, Try.ntmps7
    go_wp2_with (first | (go_at_call 25; refine (szFlowS_any Axs nxs cxs _ _ hnxs (by omega) (by omega)).mono ?_; rintro e w1 ⟨rfl, rfl⟩; have hsxs : (if (1048576 : Int) < (nxs : Int) then (-1 : Int) else 1048576 - nxs) = -1 := by {{ split <;> omega }}; rw [hsxs]; clear hsxs) | fail)
    go_ret
    exact ⟨rfl, ext_refl w⟩
  have hmxs : nxs ≤ 1048576 := by omega
  have hR : (mgR xs t).length ≤ 1048576 := by have := mgR_len xs t; omega
  have z0 : Below w.heap.size w w := ext_refl w
  go_enter Try.func7, Try.ntmps7
  go_wp2_with fail
  refine (szFlowS_any Axs nxs cxs _ _ hnxs (by omega) (by omega)).mono ?_; rintro e w' ⟨rfl, rfl⟩
  have hsxs : (if (1048576 : Int) < (nxs : Int) then (-1 : Int) else 1048576 - nxs) = 1048576 - nxs := by { split <;> omega }
  rw [hsxs]
  clear hsxs
  go_wp2_with fail
  refine (toFlowS_any Axs nxs cxs xs _ hmxs (hrxs.below z0)).mono ?_; rintro e w1 ⟨gt1, rfl, owt1, hb1⟩
  have ot11 := own_base owt1 z0.size
  have z1 := ext_trans z0 hb1
  go_wp2_with fail
  refine (specMergeFlows_any _ nxs _ xs t _ hmxs (Rd.of_own ot11)).mono ?_; rintro e w2 ⟨Aw, Cw, rfl, oww, hb2⟩
  have apwt1 := apart_before ot11.lt oww.lt
  have ot12 := own_ext ot11 hb2
  have ow2 := own_base oww z1.size
  have z2 := ext_trans z1 hb2
  go_wp2_with fail
  refine (toFlowS_any Axs nxs cxs xs _ hmxs (hrxs.below z2)).mono ?_; rintro e w3 ⟨gxxs, rfl, owxxs, hb3⟩
  have apxxst1 := apart_before ot12.lt owxxs.lt
  have ot13 := own_ext ot12 hb3
  have apxxsw := apart_before ow2.lt owxxs.lt
  have ow3 := own_ext ow2 hb3
  have oxxs3 := own_base owxxs z2.size
  have z3 := ext_trans z2 hb3
  go_wp2_with fail
  refine (implMergeFlows_any _ nxs _ xs t _ hmxs (Rd.of_own oxxs3)).mono ?_; rintro e w4 ⟨Ag, Cg, rfl, owg, hb4⟩
  have apgt1 := apart_before ot13.lt owg.lt
  have ot14 := own_ext ot13 hb4
  have apgw := apart_before ow3.lt owg.lt
  have ow4 := own_ext ow3 hb4
  have apgxxs := apart_before oxxs3.lt owg.lt
  have oxxs4 := own_ext oxxs3 hb4
  have og4 := own_base owg z3.size
  have z4 := ext_trans z3 hb4
  go_wp2_with fail
  refine (eqTimedS_same _ _ (mgR xs t).length _ _ (mgR xs t) _ hR (Rd.of_own og4) (Rd.of_own ow4)).mono ?_; rintro e w5 ⟨rfl, hb5⟩
  have ot15 := own_ext ot14 hb5
  have ow5 := own_ext ow4 hb5
  have oxxs5 := own_ext oxxs4 hb5
  have og5 := own_ext og4 hb5
  have z5 := ext_trans z4 hb5
  go_wp2_with fail
  refine (toFlowS_any Axs nxs cxs xs _ hmxs (hrxs.below z5)).mono ?_; rintro e w6 ⟨gt3, rfl, owt3, hb6⟩
  have apt3t1 := apart_before ot15.lt owt3.lt
  have ot16 := own_ext ot15 hb6
  have apt3w := apart_before ow5.lt owt3.lt
  have ow6 := own_ext ow5 hb6
  have apt3xxs := apart_before oxxs5.lt owt3.lt
  have oxxs6 := own_ext oxxs5 hb6
  have apt3g := apart_before og5.lt owt3.lt
  have og6 := own_ext og5 hb6
  have ot36 := own_base owt3 z5.size
  have z6 := ext_trans z5 hb6
  go_wp2_with fail
  refine (eqFlowS_same _ _ nxs _ _ xs _ hmxs (Rd.of_own oxxs6) (Rd.of_own ot36)).mono ?_; rintro e w7 ⟨rfl, hb7⟩
  have ot17 := own_ext ot16 hb7
  have ow7 := own_ext ow6 hb7
  have oxxs7 := own_ext oxxs6 hb7
  have og7 := own_ext og6 hb7
  have ot37 := own_ext ot36 hb7
  have z7 := ext_trans z6 hb7
  go_wp2_with fail
  refine (markFlowS_own _ nxs _ _ _ _ _ hmxs (by omega) (by omega) oxxs7).mono ?_; rintro e w8 ⟨rfl, oxxs8, hg8⟩
  have z8 := below_marked z7 oxxs7 (Nat.le_refl _) hg8
  have ot18 := ot17.kept hg8 apxxst1.1
  have ow8 := ow7.kept hg8 apxxsw.1
  have og8 := og7.kept hg8 apgxxs.2
  go_wp2_with fail
  refine (eqTimedS_same _ _ (mgR xs t).length _ _ (mgR xs t) _ hR (Rd.of_own og8) (Rd.of_own ow8)).mono ?_; rintro e w9 ⟨rfl, hb9⟩
  have ot19 := own_ext ot18 hb9
  have ow9 := own_ext ow8 hb9
  have oxxs9 := own_ext oxxs8 hb9
  have og9 := own_ext og8 hb9
  have z9 := ext_trans z8 hb9
  go_wp2_with fail
  refine (markTimedS_own _ (mgR xs t).length _ _ _ 1 _ hR (by omega) (by omega) og9).mono ?_; rintro e w10 ⟨rfl, og10, hg10⟩
  have z10 := below_marked z9 og9 (Nat.le_refl _) hg10
  have ot110 := ot19.kept hg10 apgt1.1
  have ow10 := ow9.kept hg10 apgw.1
  have oxxs10 := oxxs9.kept hg10 apgxxs.1
  go_wp2_with fail
  refine (heldTimedS_any _ (mgR xs t).length _ 1 _ hR (by omega) (by omega) (Rd.of_own og10)).mono ?_; rintro e w11 ⟨rfl, rfl⟩
  go_wp2_with fail
  refine (toFlowS_any Axs nxs cxs xs _ hmxs (hrxs.below z10)).mono ?_; rintro e w12 ⟨gt4, rfl, owt4, hb12⟩
  have apt4t1 := apart_before ot110.lt owt4.lt
  have ot112 := own_ext ot110 hb12
  have apt4w := apart_before ow10.lt owt4.lt
  have ow12 := own_ext ow10 hb12
  have apt4g := apart_before og10.lt owt4.lt
  have og12 := own_ext og10 hb12
  have ot412 := own_base owt4 z10.size
  have z12 := ext_trans z10 hb12
  go_wp2_with fail
  refine (implMergeFlows_any _ nxs _ xs t _ hmxs (Rd.of_own ot412)).mono ?_; rintro e w13 ⟨Ah, Ch, rfl, owh, hb13⟩
  have apht1 := apart_before ot112.lt owh.lt
  have ot113 := own_ext ot112 hb13
  have aphw := apart_before ow12.lt owh.lt
  have ow13 := own_ext ow12 hb13
  have aphg := apart_before og12.lt owh.lt
  have og13 := own_ext og12 hb13
  have apht4 := apart_before ot412.lt owh.lt
  have ot413 := own_ext ot412 hb13
  have oh13 := own_base owh z12.size
  have z13 := ext_trans z12 hb13
  go_wp2_with fail
  refine (eqTimedS_same _ _ (mgR xs t).length _ _ (mgR xs t) _ hR (Rd.of_own oh13) (Rd.of_own ow13)).mono ?_; rintro e w14 ⟨rfl, hb14⟩
  have ot114 := own_ext ot113 hb14
  have ow14 := own_ext ow13 hb14
  have og14 := own_ext og13 hb14
  have ot414 := own_ext ot413 hb14
  have oh14 := own_ext oh13 hb14
  have z14 := ext_trans z13 hb14
  go_wp2_with fail
  refine (heldTimedS_any _ (mgR xs t).length _ 1 _ hR (by omega) (by omega) (Rd.of_own og14)).mono ?_; rintro e w15 ⟨rfl, rfl⟩
  go_wp2_with fail
  go_ret
  exact ⟨rfl, z14⟩

end Go.Proofs.Ytnnihiajggdplaa
