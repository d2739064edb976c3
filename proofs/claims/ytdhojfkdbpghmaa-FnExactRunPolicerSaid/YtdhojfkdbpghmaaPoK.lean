/- RunPolicer: the law's walk. -/
import Derived.Test.YtdhojfkdbpghmaaPoI
import Derived.Test.YtdhojfkdbpghmaaPoJ
namespace Go.Proofs.Ytdhojfkdbpghmaa
open Go.RowKit

theorem rpR_len {lr lc lt hr hc ht : Int} {xs : List Send} {gs : List Int} : (rpR lr lc lt hr hc ht xs gs).out.length ≤ 60 := by
  unfold rpR
  split
  · rename_i h
    have h1 : policerB lr lc lt hr hc ht = true ∧ sendsB xs = true := by simp only [rpB, Bool.and_eq_true] at h; exact h.1.1
    rw [(rpTo_inv h1.1 h1.2 xs.length (Nat.le_refl _)).1.o]
    exact sends_len h1.2
  · simp

set_option maxRecDepth 100000 in
set_option maxHeartbeats 8000000 in
theorem walkRunPolicer (lr lc lt hr hc ht : Int) (Axs : Option Addr) (nxs cxs : Nat) (xs : List Send) (hnxs : nxs ≤ 9223372036854775807) (Ags : Option Addr) (ngs cgs : Nat) (gs : List Int) (hngs : ngs ≤ 9223372036854775807) (w : World) (hrxs : Rd w 2 Axs nxs (xs.flatMap encSend)) (hrgs : Rd w 1 Ags ngs (gs.flatMap encInt)) :
    Calls Try.prog 12 #[.agg #[.int .i64 lr, .int .i64 lc, .int .i64 lt, .int .i64 hr, .int .i64 hc, .int .i64 ht], .slice Axs nxs cxs, .slice Ags ngs cgs] w fun e w' => e = .returned (.bool true) ∧ Below w.heap.size w w' := by
  rw [map_flat] at hrgs
  by_cases hbiggs : 1048576 < ngs
  · go_enter Try.func12, Try.ntmps12
    go_wp2_with (first | (go_at_call 35; refine (szSendS_any Axs nxs cxs _ _ hnxs (by omega) (by omega)).mono ?_; rintro e w1 ⟨rfl, rfl⟩; have hsxs : (if (1048576 : Int) < (nxs : Int) then (-1 : Int) else 1048576 - nxs) = -1 := by { split <;> omega }; rw [hsxs]; clear hsxs) | fail)
    go_ret
    exact ⟨rfl, ext_alloc (ext_refl w) _⟩
  have hmgs : ngs ≤ 1048576 := by omega
  by_cases hbigxs : 1048576 < nxs
  · go_enter Try.func12, Try.ntmps12
    go_wp2_with (first | (go_at_call 35; refine (szSendS_any Axs nxs cxs _ _ hnxs (by omega) (by omega)).mono ?_; rintro e w1 ⟨rfl, rfl⟩; have hsxs : (if (1048576 : Int) < (nxs : Int) then (-1 : Int) else 1048576 - nxs) = -1 := by { split <;> omega }; rw [hsxs]; clear hsxs) | fail)
    go_ret
    exact ⟨rfl, ext_alloc (ext_refl w) _⟩
  have hmxs : nxs ≤ 1048576 := by omega
  have hR : (rpR lr lc lt hr hc ht xs gs).out.length ≤ 1048576 := by have := rpR_len (lr := lr) (lc := lc) (lt := lt) (hr := hr) (hc := hc) (ht := ht) (xs := xs) (gs := gs); omega
  have bp0 := Blk.new w 25 [.int .i64 lr, .int .i64 lc, .int .i64 lt, .int .i64 hr, .int .i64 hc, .int .i64 ht]
  have z0 : Below w.heap.size w (w.alloc (.cells (List.toArray [.int .i64 lr, .int .i64 lc, .int .i64 lt, .int .i64 hr, .int .i64 hc, .int .i64 ht]) 25)) := ext_alloc (ext_refl w) _
  go_enter Try.func12, Try.ntmps12
  go_wp2_with fail
  refine (szSendS_any Axs nxs cxs _ _ hnxs (by omega) (by omega)).mono ?_; rintro e w' ⟨rfl, rfl⟩
  have hsxs : (if (1048576 : Int) < (nxs : Int) then (-1 : Int) else 1048576 - nxs) = 1048576 - nxs := by { split <;> omega }
  rw [hsxs]
  clear hsxs
  obtain ⟨yy1, xx1, cc1, ff1⟩ := bp0.six
  go_wp2_with fail
  clear yy1 xx1 cc1 ff1
  refine (toPolicer_any _ _ _ _ _ _ _ ).mono ?_; rintro e w1 ⟨rfl, hb1⟩
  have bp1 := bp0.below hb1
  have z1 := ext_trans z0 hb1
  go_wp2_with fail
  refine (toSendS_any Axs nxs cxs xs _ hmxs (hrxs.below z1)).mono ?_; rintro e w2 ⟨gt1, rfl, owt1, hb2⟩
  have bp2 := bp1.below hb2
  have ot12 := own_base owt1 z1.size
  have z2 := ext_trans z1 hb2
  go_wp2_with fail
  refine (toIntS_any Ags ngs cgs gs _ hmgs (hrgs.below z2)).mono ?_; rintro e w3 ⟨gt2, rfl, owt2, hb3⟩
  have apt2t1 := apart_before ot12.lt owt2.lt
  have ot13 := own_ext ot12 hb3
  have bp3 := bp2.below hb3
  have ot23 := own_base owt2 z2.size
  have z3 := ext_trans z2 hb3
  go_wp2_with fail
  refine (specRunPolicer_any lr lc lt hr hc ht _ nxs _ xs _ ngs _ gs _ hmxs (Rd.of_own ot13) hmgs (Rd.of_own ot23)).mono ?_; rintro e w4 ⟨Aw, Cw, rfl, oww, hb4⟩
  have apwt1 := apart_before ot13.lt oww.lt
  have ot14 := own_ext ot13 hb4
  have apwt2 := apart_before ot23.lt oww.lt
  have ot24 := own_ext ot23 hb4
  have bp4 := bp3.below hb4
  have ow4 := own_base oww z3.size
  have z4 := ext_trans z3 hb4
  have ow4a := ow4.alloc (.cells (List.toArray [.int .i64 (fp (rpB lr lc lt hr hc ht xs gs) lr), .int .i64 (fp (rpB lr lc lt hr hc ht xs gs) lc), .int .i64 ((rpR lr lc lt hr hc ht xs gs).lt), .int .i64 (fp (rpB lr lc lt hr hc ht xs gs) hr), .int .i64 (fp (rpB lr lc lt hr hc ht xs gs) hc), .int .i64 ((rpR lr lc lt hr hc ht xs gs).ht)]) 29)
  have bp4a := bp4.alloc (.cells (List.toArray [.int .i64 (fp (rpB lr lc lt hr hc ht xs gs) lr), .int .i64 (fp (rpB lr lc lt hr hc ht xs gs) lc), .int .i64 ((rpR lr lc lt hr hc ht xs gs).lt), .int .i64 (fp (rpB lr lc lt hr hc ht xs gs) hr), .int .i64 (fp (rpB lr lc lt hr hc ht xs gs) hc), .int .i64 ((rpR lr lc lt hr hc ht xs gs).ht)]) 29)
  have bw04a := Blk.new w4 29 [.int .i64 (fp (rpB lr lc lt hr hc ht xs gs) lr), .int .i64 (fp (rpB lr lc lt hr hc ht xs gs) lc), .int .i64 ((rpR lr lc lt hr hc ht xs gs).lt), .int .i64 (fp (rpB lr lc lt hr hc ht xs gs) hr), .int .i64 (fp (rpB lr lc lt hr hc ht xs gs) hc), .int .i64 ((rpR lr lc lt hr hc ht xs gs).ht)]
  have z4a := ext_alloc z4 (.cells (List.toArray [.int .i64 (fp (rpB lr lc lt hr hc ht xs gs) lr), .int .i64 (fp (rpB lr lc lt hr hc ht xs gs) lc), .int .i64 ((rpR lr lc lt hr hc ht xs gs).lt), .int .i64 (fp (rpB lr lc lt hr hc ht xs gs) hr), .int .i64 (fp (rpB lr lc lt hr hc ht xs gs) hc), .int .i64 ((rpR lr lc lt hr hc ht xs gs).ht)]) 29)
  go_wp2_with fail
  refine (toSendS_any Axs nxs cxs xs _ hmxs (hrxs.below z4a)).mono ?_; rintro e w5 ⟨gx1, rfl, owx1, hb5⟩
  have apx1w := apart_before ow4a.lt owx1.lt
  have ow5 := own_ext ow4a hb5
  have bp5 := bp4a.below hb5
  have bw05 := bw04a.below hb5
  have ox15 := own_base owx1 z4a.size
  have z5 := ext_trans z4a hb5
  go_wp2_with fail
  refine (toIntS_any Ags ngs cgs gs _ hmgs (hrgs.below z5)).mono ?_; rintro e w6 ⟨gx2, rfl, owx2, hb6⟩
  have apx2w := apart_before ow5.lt owx2.lt
  have ow6 := own_ext ow5 hb6
  have apx2x1 := apart_before ox15.lt owx2.lt
  have ox16 := own_ext ox15 hb6
  have bp6 := bp5.below hb6
  have bw06 := bw05.below hb6
  have ox26 := own_base owx2 z5.size
  have z6 := ext_trans z5 hb6
  obtain ⟨yy2, xx2, cc2, ff2⟩ := bp6.six
  go_wp2_with fail
  clear yy2 xx2 cc2 ff2
  refine (toPolicer_any _ _ _ _ _ _ _ ).mono ?_; rintro e w7 ⟨rfl, hb7⟩
  have ow7 := own_ext ow6 hb7
  have ox17 := own_ext ox16 hb7
  have ox27 := own_ext ox26 hb7
  have bp7 := bp6.below hb7
  have bw07 := bw06.below hb7
  have z7 := ext_trans z6 hb7
  go_wp2_with fail
  refine (implRunPolicer_any lr lc lt hr hc ht _ nxs _ xs _ ngs _ gs _ hmxs (Rd.of_own ox17) hmgs (Rd.of_own ox27)).mono ?_; rintro e w8 ⟨Ag, Cg, rfl, owg, hb8⟩
  have apgw := apart_before ow7.lt owg.lt
  have ow8 := own_ext ow7 hb8
  have apgx1 := apart_before ox17.lt owg.lt
  have ox18 := own_ext ox17 hb8
  have apgx2 := apart_before ox27.lt owg.lt
  have ox28 := own_ext ox27 hb8
  have bp8 := bp7.below hb8
  have bw08 := bw07.below hb8
  have og8 := own_base owg z7.size
  have z8 := ext_trans z7 hb8
  obtain ⟨yyw, xxw, ccw, ffw⟩ := bw08.six
  have ow8a := ow8.alloc (.cells (List.toArray [.int .i64 (fp (rpB lr lc lt hr hc ht xs gs) lr), .int .i64 (fp (rpB lr lc lt hr hc ht xs gs) lc), .int .i64 ((rpR lr lc lt hr hc ht xs gs).lt), .int .i64 (fp (rpB lr lc lt hr hc ht xs gs) hr), .int .i64 (fp (rpB lr lc lt hr hc ht xs gs) hc), .int .i64 ((rpR lr lc lt hr hc ht xs gs).ht)]) 29)
  have ox18a := ox18.alloc (.cells (List.toArray [.int .i64 (fp (rpB lr lc lt hr hc ht xs gs) lr), .int .i64 (fp (rpB lr lc lt hr hc ht xs gs) lc), .int .i64 ((rpR lr lc lt hr hc ht xs gs).lt), .int .i64 (fp (rpB lr lc lt hr hc ht xs gs) hr), .int .i64 (fp (rpB lr lc lt hr hc ht xs gs) hc), .int .i64 ((rpR lr lc lt hr hc ht xs gs).ht)]) 29)
  have ox28a := ox28.alloc (.cells (List.toArray [.int .i64 (fp (rpB lr lc lt hr hc ht xs gs) lr), .int .i64 (fp (rpB lr lc lt hr hc ht xs gs) lc), .int .i64 ((rpR lr lc lt hr hc ht xs gs).lt), .int .i64 (fp (rpB lr lc lt hr hc ht xs gs) hr), .int .i64 (fp (rpB lr lc lt hr hc ht xs gs) hc), .int .i64 ((rpR lr lc lt hr hc ht xs gs).ht)]) 29)
  have og8a := og8.alloc (.cells (List.toArray [.int .i64 (fp (rpB lr lc lt hr hc ht xs gs) lr), .int .i64 (fp (rpB lr lc lt hr hc ht xs gs) lc), .int .i64 ((rpR lr lc lt hr hc ht xs gs).lt), .int .i64 (fp (rpB lr lc lt hr hc ht xs gs) hr), .int .i64 (fp (rpB lr lc lt hr hc ht xs gs) hc), .int .i64 ((rpR lr lc lt hr hc ht xs gs).ht)]) 29)
  have bp8a := bp8.alloc (.cells (List.toArray [.int .i64 (fp (rpB lr lc lt hr hc ht xs gs) lr), .int .i64 (fp (rpB lr lc lt hr hc ht xs gs) lc), .int .i64 ((rpR lr lc lt hr hc ht xs gs).lt), .int .i64 (fp (rpB lr lc lt hr hc ht xs gs) hr), .int .i64 (fp (rpB lr lc lt hr hc ht xs gs) hc), .int .i64 ((rpR lr lc lt hr hc ht xs gs).ht)]) 29)
  have bw08a := bw08.alloc (.cells (List.toArray [.int .i64 (fp (rpB lr lc lt hr hc ht xs gs) lr), .int .i64 (fp (rpB lr lc lt hr hc ht xs gs) lc), .int .i64 ((rpR lr lc lt hr hc ht xs gs).lt), .int .i64 (fp (rpB lr lc lt hr hc ht xs gs) hr), .int .i64 (fp (rpB lr lc lt hr hc ht xs gs) hc), .int .i64 ((rpR lr lc lt hr hc ht xs gs).ht)]) 29)
  have bg08a := Blk.new w8 29 [.int .i64 (fp (rpB lr lc lt hr hc ht xs gs) lr), .int .i64 (fp (rpB lr lc lt hr hc ht xs gs) lc), .int .i64 ((rpR lr lc lt hr hc ht xs gs).lt), .int .i64 (fp (rpB lr lc lt hr hc ht xs gs) hr), .int .i64 (fp (rpB lr lc lt hr hc ht xs gs) hc), .int .i64 ((rpR lr lc lt hr hc ht xs gs).ht)]
  have z8a := ext_alloc z8 (.cells (List.toArray [.int .i64 (fp (rpB lr lc lt hr hc ht xs gs) lr), .int .i64 (fp (rpB lr lc lt hr hc ht xs gs) lc), .int .i64 ((rpR lr lc lt hr hc ht xs gs).lt), .int .i64 (fp (rpB lr lc lt hr hc ht xs gs) hr), .int .i64 (fp (rpB lr lc lt hr hc ht xs gs) hc), .int .i64 ((rpR lr lc lt hr hc ht xs gs).ht)]) 29)
  go_wp2_with fail
  clear yyw xxw ccw ffw
  refine (eqPolicer_same _ _ _ _ _ _ _ ).mono ?_; rintro e w9 ⟨rfl, hb9⟩
  have ow9 := own_ext ow8a hb9
  have ox19 := own_ext ox18a hb9
  have ox29 := own_ext ox28a hb9
  have og9 := own_ext og8a hb9
  have bp9 := bp8a.below hb9
  have bw09 := bw08a.below hb9
  have bg09 := bg08a.below hb9
  have z9 := ext_trans z8a hb9
  go_wp2_with fail
  refine (eqIntS_same _ _ (rpR lr lc lt hr hc ht xs gs).out.length _ _ (rpR lr lc lt hr hc ht xs gs).out _ hR (Rd.of_own og9) (Rd.of_own ow9)).mono ?_; rintro e w10 ⟨rfl, hb10⟩
  have ow10 := own_ext ow9 hb10
  have ox110 := own_ext ox19 hb10
  have ox210 := own_ext ox29 hb10
  have og10 := own_ext og9 hb10
  have bp10 := bp9.below hb10
  have bw010 := bw09.below hb10
  have bg010 := bg09.below hb10
  have z10 := ext_trans z9 hb10
  go_wp2_with fail
  refine (toSendS_any Axs nxs cxs xs _ hmxs (hrxs.below z10)).mono ?_; rintro e w11 ⟨gt3, rfl, owt3, hb11⟩
  have apt3w := apart_before ow10.lt owt3.lt
  have ow11 := own_ext ow10 hb11
  have apt3x1 := apart_before ox110.lt owt3.lt
  have ox111 := own_ext ox110 hb11
  have apt3x2 := apart_before ox210.lt owt3.lt
  have ox211 := own_ext ox210 hb11
  have apt3g := apart_before og10.lt owt3.lt
  have og11 := own_ext og10 hb11
  have bp11 := bp10.below hb11
  have bw011 := bw010.below hb11
  have bg011 := bg010.below hb11
  have ot311 := own_base owt3 z10.size
  have z11 := ext_trans z10 hb11
  go_wp2_with fail
  refine (eqSendS_same _ _ nxs _ _ xs _ hmxs (Rd.of_own ox111) (Rd.of_own ot311)).mono ?_; rintro e w12 ⟨rfl, hb12⟩
  have ow12 := own_ext ow11 hb12
  have ox112 := own_ext ox111 hb12
  have ox212 := own_ext ox211 hb12
  have og12 := own_ext og11 hb12
  have ot312 := own_ext ot311 hb12
  have bp12 := bp11.below hb12
  have bw012 := bw011.below hb12
  have bg012 := bg011.below hb12
  have z12 := ext_trans z11 hb12
  go_wp2_with fail
  refine (toIntS_any Ags ngs cgs gs _ hmgs (hrgs.below z12)).mono ?_; rintro e w13 ⟨gt4, rfl, owt4, hb13⟩
  have apt4w := apart_before ow12.lt owt4.lt
  have ow13 := own_ext ow12 hb13
  have apt4x1 := apart_before ox112.lt owt4.lt
  have ox113 := own_ext ox112 hb13
  have apt4x2 := apart_before ox212.lt owt4.lt
  have ox213 := own_ext ox212 hb13
  have apt4g := apart_before og12.lt owt4.lt
  have og13 := own_ext og12 hb13
  have bp13 := bp12.below hb13
  have bw013 := bw012.below hb13
  have bg013 := bg012.below hb13
  have ot413 := own_base owt4 z12.size
  have z13 := ext_trans z12 hb13
  go_wp2_with fail
  refine (eqIntS_same _ _ ngs _ _ gs _ hmgs (Rd.of_own ox213) (Rd.of_own ot413)).mono ?_; rintro e w14 ⟨rfl, hb14⟩
  have ow14 := own_ext ow13 hb14
  have ox114 := own_ext ox113 hb14
  have ox214 := own_ext ox213 hb14
  have og14 := own_ext og13 hb14
  have ot414 := own_ext ot413 hb14
  have bp14 := bp13.below hb14
  have bw014 := bw013.below hb14
  have bg014 := bg013.below hb14
  have z14 := ext_trans z13 hb14
  go_wp2_with fail
  refine (markSendS_own _ nxs _ _ _ _ _ hmxs (by omega) (by omega) ox114).mono ?_; rintro e w15 ⟨rfl, ox115, hg15⟩
  have z15 := below_marked z14 ox114 (Nat.le_refl _) hg15
  have ow15 := ow14.kept hg15 apx1w.1
  have ox215 := ox214.kept hg15 apx2x1.2
  have og15 := og14.kept hg15 apgx1.2
  have bp15 := bp14.grown hg15 (box_ne ox114 bp14 (by decide))
  have bw015 := bw014.grown hg15 (box_ne ox114 bw014 (by decide))
  have bg015 := bg014.grown hg15 (box_ne ox114 bg014 (by decide))
  go_wp2_with fail
  refine (markIntS_own _ ngs _ _ _ _ _ hmgs (by omega) (by omega) ox215).mono ?_; rintro e w16 ⟨rfl, ox216, hg16⟩
  have z16 := below_marked z15 ox215 (Nat.le_refl _) hg16
  have ow16 := ow15.kept hg16 apx2w.1
  have ox116 := ox115.kept hg16 apx2x1.1
  have og16 := og15.kept hg16 apgx2.2
  have bp16 := bp15.grown hg16 (box_ne ox215 bp15 (by decide))
  have bw016 := bw015.grown hg16 (box_ne ox215 bw015 (by decide))
  have bg016 := bg015.grown hg16 (box_ne ox215 bg015 (by decide))
  obtain ⟨yy3, xx3, cc3, ff3⟩ := bg016.six
  obtain ⟨yy4, xx4, cc4, ff4⟩ := bw016.six
  go_wp2_with fail
  clear yy3 xx3 cc3 ff3
  clear yy4 xx4 cc4 ff4
  refine (eqPolicer_same _ _ _ _ _ _ _ ).mono ?_; rintro e w17 ⟨rfl, hb17⟩
  have ow17 := own_ext ow16 hb17
  have og17 := own_ext og16 hb17
  have bp17 := bp16.below hb17
  have bw017 := bw016.below hb17
  have bg017 := bg016.below hb17
  have z17 := ext_trans z16 hb17
  go_wp2_with fail
  refine (eqIntS_same _ _ (rpR lr lc lt hr hc ht xs gs).out.length _ _ (rpR lr lc lt hr hc ht xs gs).out _ hR (Rd.of_own og17) (Rd.of_own ow17)).mono ?_; rintro e w18 ⟨rfl, hb18⟩
  have ow18 := own_ext ow17 hb18
  have og18 := own_ext og17 hb18
  have bp18 := bp17.below hb18
  have bw018 := bw017.below hb18
  have bg018 := bg017.below hb18
  have z18 := ext_trans z17 hb18
  go_wp2_with fail
  refine (markIntS_own _ (rpR lr lc lt hr hc ht xs gs).out.length _ _ _ 1 _ hR (by omega) (by omega) og18).mono ?_; rintro e w19 ⟨rfl, og19, hg19⟩
  have z19 := below_marked z18 og18 (Nat.le_refl _) hg19
  have ow19 := ow18.kept hg19 apgw.1
  have bp19 := bp18.grown hg19 (box_ne og18 bp18 (by decide))
  have bw019 := bw018.grown hg19 (box_ne og18 bw018 (by decide))
  have bg019 := bg018.grown hg19 (box_ne og18 bg018 (by decide))
  go_wp2_with fail
  refine (heldIntS_any _ (rpR lr lc lt hr hc ht xs gs).out.length _ 1 _ hR (by omega) (by omega) (Rd.of_own og19)).mono ?_; rintro e w20 ⟨rfl, rfl⟩
  obtain ⟨yy5, xx5, cc5, ff5⟩ := bp19.six
  go_wp2_with fail
  clear yy5 xx5 cc5 ff5
  refine (toPolicer_any _ _ _ _ _ _ _ ).mono ?_; rintro e w21 ⟨rfl, hb21⟩
  have ow21 := own_ext ow19 hb21
  have og21 := own_ext og19 hb21
  have bp21 := bp19.below hb21
  have bw021 := bw019.below hb21
  have bg021 := bg019.below hb21
  have z21 := ext_trans z19 hb21
  go_wp2_with fail
  refine (toSendS_any Axs nxs cxs xs _ hmxs (hrxs.below z21)).mono ?_; rintro e w22 ⟨gt5, rfl, owt5, hb22⟩
  have apt5w := apart_before ow21.lt owt5.lt
  have ow22 := own_ext ow21 hb22
  have apt5g := apart_before og21.lt owt5.lt
  have og22 := own_ext og21 hb22
  have bp22 := bp21.below hb22
  have bw022 := bw021.below hb22
  have bg022 := bg021.below hb22
  have ot522 := own_base owt5 z21.size
  have z22 := ext_trans z21 hb22
  go_wp2_with fail
  refine (toIntS_any Ags ngs cgs gs _ hmgs (hrgs.below z22)).mono ?_; rintro e w23 ⟨gt6, rfl, owt6, hb23⟩
  have apt6w := apart_before ow22.lt owt6.lt
  have ow23 := own_ext ow22 hb23
  have apt6g := apart_before og22.lt owt6.lt
  have og23 := own_ext og22 hb23
  have apt6t5 := apart_before ot522.lt owt6.lt
  have ot523 := own_ext ot522 hb23
  have bp23 := bp22.below hb23
  have bw023 := bw022.below hb23
  have bg023 := bg022.below hb23
  have ot623 := own_base owt6 z22.size
  have z23 := ext_trans z22 hb23
  go_wp2_with fail
  refine (implRunPolicer_any lr lc lt hr hc ht _ nxs _ xs _ ngs _ gs _ hmxs (Rd.of_own ot523) hmgs (Rd.of_own ot623)).mono ?_; rintro e w24 ⟨Ah, Ch, rfl, owh, hb24⟩
  have aphw := apart_before ow23.lt owh.lt
  have ow24 := own_ext ow23 hb24
  have aphg := apart_before og23.lt owh.lt
  have og24 := own_ext og23 hb24
  have apht5 := apart_before ot523.lt owh.lt
  have ot524 := own_ext ot523 hb24
  have apht6 := apart_before ot623.lt owh.lt
  have ot624 := own_ext ot623 hb24
  have bp24 := bp23.below hb24
  have bw024 := bw023.below hb24
  have bg024 := bg023.below hb24
  have oh24 := own_base owh z23.size
  have z24 := ext_trans z23 hb24
  obtain ⟨yyw, xxw, ccw, ffw⟩ := bw024.six
  have ow24a := ow24.alloc (.cells (List.toArray [.int .i64 (fp (rpB lr lc lt hr hc ht xs gs) lr), .int .i64 (fp (rpB lr lc lt hr hc ht xs gs) lc), .int .i64 ((rpR lr lc lt hr hc ht xs gs).lt), .int .i64 (fp (rpB lr lc lt hr hc ht xs gs) hr), .int .i64 (fp (rpB lr lc lt hr hc ht xs gs) hc), .int .i64 ((rpR lr lc lt hr hc ht xs gs).ht)]) 29)
  have og24a := og24.alloc (.cells (List.toArray [.int .i64 (fp (rpB lr lc lt hr hc ht xs gs) lr), .int .i64 (fp (rpB lr lc lt hr hc ht xs gs) lc), .int .i64 ((rpR lr lc lt hr hc ht xs gs).lt), .int .i64 (fp (rpB lr lc lt hr hc ht xs gs) hr), .int .i64 (fp (rpB lr lc lt hr hc ht xs gs) hc), .int .i64 ((rpR lr lc lt hr hc ht xs gs).ht)]) 29)
  have oh24a := oh24.alloc (.cells (List.toArray [.int .i64 (fp (rpB lr lc lt hr hc ht xs gs) lr), .int .i64 (fp (rpB lr lc lt hr hc ht xs gs) lc), .int .i64 ((rpR lr lc lt hr hc ht xs gs).lt), .int .i64 (fp (rpB lr lc lt hr hc ht xs gs) hr), .int .i64 (fp (rpB lr lc lt hr hc ht xs gs) hc), .int .i64 ((rpR lr lc lt hr hc ht xs gs).ht)]) 29)
  have bp24a := bp24.alloc (.cells (List.toArray [.int .i64 (fp (rpB lr lc lt hr hc ht xs gs) lr), .int .i64 (fp (rpB lr lc lt hr hc ht xs gs) lc), .int .i64 ((rpR lr lc lt hr hc ht xs gs).lt), .int .i64 (fp (rpB lr lc lt hr hc ht xs gs) hr), .int .i64 (fp (rpB lr lc lt hr hc ht xs gs) hc), .int .i64 ((rpR lr lc lt hr hc ht xs gs).ht)]) 29)
  have bw024a := bw024.alloc (.cells (List.toArray [.int .i64 (fp (rpB lr lc lt hr hc ht xs gs) lr), .int .i64 (fp (rpB lr lc lt hr hc ht xs gs) lc), .int .i64 ((rpR lr lc lt hr hc ht xs gs).lt), .int .i64 (fp (rpB lr lc lt hr hc ht xs gs) hr), .int .i64 (fp (rpB lr lc lt hr hc ht xs gs) hc), .int .i64 ((rpR lr lc lt hr hc ht xs gs).ht)]) 29)
  have bg024a := bg024.alloc (.cells (List.toArray [.int .i64 (fp (rpB lr lc lt hr hc ht xs gs) lr), .int .i64 (fp (rpB lr lc lt hr hc ht xs gs) lc), .int .i64 ((rpR lr lc lt hr hc ht xs gs).lt), .int .i64 (fp (rpB lr lc lt hr hc ht xs gs) hr), .int .i64 (fp (rpB lr lc lt hr hc ht xs gs) hc), .int .i64 ((rpR lr lc lt hr hc ht xs gs).ht)]) 29)
  have bh024a := Blk.new w24 29 [.int .i64 (fp (rpB lr lc lt hr hc ht xs gs) lr), .int .i64 (fp (rpB lr lc lt hr hc ht xs gs) lc), .int .i64 ((rpR lr lc lt hr hc ht xs gs).lt), .int .i64 (fp (rpB lr lc lt hr hc ht xs gs) hr), .int .i64 (fp (rpB lr lc lt hr hc ht xs gs) hc), .int .i64 ((rpR lr lc lt hr hc ht xs gs).ht)]
  have z24a := ext_alloc z24 (.cells (List.toArray [.int .i64 (fp (rpB lr lc lt hr hc ht xs gs) lr), .int .i64 (fp (rpB lr lc lt hr hc ht xs gs) lc), .int .i64 ((rpR lr lc lt hr hc ht xs gs).lt), .int .i64 (fp (rpB lr lc lt hr hc ht xs gs) hr), .int .i64 (fp (rpB lr lc lt hr hc ht xs gs) hc), .int .i64 ((rpR lr lc lt hr hc ht xs gs).ht)]) 29)
  go_wp2_with fail
  clear yyw xxw ccw ffw
  refine (eqPolicer_same _ _ _ _ _ _ _ ).mono ?_; rintro e w25 ⟨rfl, hb25⟩
  have ow25 := own_ext ow24a hb25
  have og25 := own_ext og24a hb25
  have oh25 := own_ext oh24a hb25
  have bp25 := bp24a.below hb25
  have bw025 := bw024a.below hb25
  have bg025 := bg024a.below hb25
  have bh025 := bh024a.below hb25
  have z25 := ext_trans z24a hb25
  go_wp2_with fail
  refine (eqIntS_same _ _ (rpR lr lc lt hr hc ht xs gs).out.length _ _ (rpR lr lc lt hr hc ht xs gs).out _ hR (Rd.of_own oh25) (Rd.of_own ow25)).mono ?_; rintro e w26 ⟨rfl, hb26⟩
  have ow26 := own_ext ow25 hb26
  have og26 := own_ext og25 hb26
  have oh26 := own_ext oh25 hb26
  have bp26 := bp25.below hb26
  have bw026 := bw025.below hb26
  have bg026 := bg025.below hb26
  have bh026 := bh025.below hb26
  have z26 := ext_trans z25 hb26
  go_wp2_with fail
  refine (heldIntS_any _ (rpR lr lc lt hr hc ht xs gs).out.length _ 1 _ hR (by omega) (by omega) (Rd.of_own og26)).mono ?_; rintro e w27 ⟨rfl, rfl⟩
  go_wp2_with fail
  go_ret
  exact ⟨rfl, z26⟩

end Go.Proofs.Ytdhojfkdbpghmaa