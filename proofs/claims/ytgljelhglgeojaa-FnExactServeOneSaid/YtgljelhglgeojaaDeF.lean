/- ServeOne: the law's walk. -/
import Derived.Test.YtgljelhglgeojaaDeE
namespace Go.Proofs.Ytgljelhglgeojaa
open Go.RowKit

theorem serveR_len (x : Ses) (h : x.zs.length ≤ 1048576) : (serveR x).zs.length ≤ 1048576 := by
  unfold serveR
  split
  · simp [serveI]; omega
  · simp [zeroS]

set_option maxRecDepth 100000 in
set_option maxHeartbeats 4000000 in
theorem walkServeOne (x : SesV) (w : World) (hx : SRd w x) :
    Calls Try.prog 9 #[.agg #[.int .i64 x.f, .int .i64 x.l, .int .i64 x.s, .int .i64 x.st, .int .i64 x.ba, .int .i64 x.se, .slice x.A x.m x.c]] w fun e w' => e = .returned (.bool true) ∧ Below w.heap.size w w' := by
  have B0 := Blk.new w 34 [.int .i64 x.f, .int .i64 x.l, .int .i64 x.s, .int .i64 x.st, .int .i64 x.ba, .int .i64 x.se, .slice x.A x.m x.c]
  have z0 := ext_alloc (ext_refl w) (.cells (List.toArray [.int .i64 x.f, .int .i64 x.l, .int .i64 x.s, .int .i64 x.st, .int .i64 x.ba, .int .i64 x.se, .slice x.A x.m x.c]) 34)
  obtain ⟨hn, hr⟩ := hx
  by_cases hbig : 1048576 < x.m
  · go_enter Try.func9, Try.ntmps9
    go_wp2_with fail
    refine (szSession_any x _ _ hn (by omega) (by omega)).mono ?_; rintro e w1 ⟨rfl, hb1⟩
    rw [if_pos (by omega)]
    go_wp2_with fail
    go_ret
    exact ⟨rfl, ext_trans z0 hb1⟩
  have hm : x.m ≤ 1048576 := by omega
  have hs : (if (1048576 : Int) < (x.m : Int) then (-1 : Int) else 1048576 - x.m) = 1048576 - x.m := by { split <;> omega }
  have HS := Lib.hid hs
  clear hs
  have hS := fun (A : Option Addr) (c : Nat) (w : World) => specServeOne_at x.toSes A x.m c w hm
  have hI := fun (A : Option Addr) (c : Nat) (w : World) => implServeOne_at x.toSes A x.m c w hm
  have hy : (serveR x.toSes).zs.length ≤ 1048576 := by have := hr.len1; exact serveR_len x.toSes (by omega)
  generalize serveR x.toSes = y at *
  generalize serveZ x.toSes = v0 at *
  generalize serveB x.toSes = v1 at *
  go_enter Try.func9, Try.ntmps9
  go_wp2_with fail
  refine (szSession_any x _ _ hn (by omega) (by omega)).mono ?_; rintro e w1 ⟨rfl, hb1⟩
  have bB1 := B0.below hb1
  have z1 := ext_trans z0 hb1
  rw [HS.out]
  obtain ⟨qyB1, qxB1, qcB1, qfB1⟩ := bB1.seven
  go_wp2_with fail
  clear qyB1 qxB1 qcB1 qfB1
  refine (toSession_any x _ hm (hr.below z1)).mono ?_; rintro e w2 ⟨gt, rfl, owt, hb2⟩
  have bB2 := bB1.below hb2
  have ot2 := own_base owt z1.size
  have z2 := ext_trans z1 hb2
  go_wp2_with fail
  refine (hS (some ⟨gt, 0, none⟩) x.m _ (Nat.le_refl _) (Rd.of_own ot2)).mono ?_; rintro e w3 ⟨Aw, cw, rfl, oww, hb3⟩
  have ot3 := own_ext ot2 hb3
  have bB3 := bB2.below hb3
  have apwt := apart_before ot2.lt oww.lt
  have ow3 := own_base oww z2.size
  have z3 := ext_trans z2 hb3
  have ow4 := ow3.alloc (.cells (List.toArray [.int .i64 y.f, .int .i64 y.l, .int .i64 y.s, .int .i64 y.st, .int .i64 y.ba, .int .i64 y.se, .slice Aw y.zs.length cw]) 39)
  have bB4 := bB3.alloc (.cells (List.toArray [.int .i64 y.f, .int .i64 y.l, .int .i64 y.s, .int .i64 y.st, .int .i64 y.ba, .int .i64 y.se, .slice Aw y.zs.length cw]) 39)
  have bW4 := Blk.new w3 39 [.int .i64 y.f, .int .i64 y.l, .int .i64 y.s, .int .i64 y.st, .int .i64 y.ba, .int .i64 y.se, .slice Aw y.zs.length cw]
  have z4 := ext_alloc z3 (.cells (List.toArray [.int .i64 y.f, .int .i64 y.l, .int .i64 y.s, .int .i64 y.st, .int .i64 y.ba, .int .i64 y.se, .slice Aw y.zs.length cw]) 39)
  obtain ⟨qyB4, qxB4, qcB4, qfB4⟩ := bB4.seven
  go_wp2_with fail
  clear qyB4 qxB4 qcB4 qfB4
  refine (toSession_any x _ hm (hr.below z4)).mono ?_; rintro e w4 ⟨gx, rfl, owx, hb4⟩
  have ow5 := own_ext ow4 hb4
  have bB5 := bB4.below hb4
  have bW5 := bW4.below hb4
  have apxw := apart_before ow4.lt owx.lt
  have ox5 := own_base owx z4.size
  have z5 := ext_trans z4 hb4
  have ow6 := ow5.alloc (.cells (List.toArray [.int .i64 x.f, .int .i64 x.l, .int .i64 x.s, .int .i64 x.st, .int .i64 x.ba, .int .i64 x.se, .slice (some ⟨gx, 0, none⟩) x.m x.m]) 39)
  have ox6 := ox5.alloc (.cells (List.toArray [.int .i64 x.f, .int .i64 x.l, .int .i64 x.s, .int .i64 x.st, .int .i64 x.ba, .int .i64 x.se, .slice (some ⟨gx, 0, none⟩) x.m x.m]) 39)
  have bB6 := bB5.alloc (.cells (List.toArray [.int .i64 x.f, .int .i64 x.l, .int .i64 x.s, .int .i64 x.st, .int .i64 x.ba, .int .i64 x.se, .slice (some ⟨gx, 0, none⟩) x.m x.m]) 39)
  have bW6 := bW5.alloc (.cells (List.toArray [.int .i64 x.f, .int .i64 x.l, .int .i64 x.s, .int .i64 x.st, .int .i64 x.ba, .int .i64 x.se, .slice (some ⟨gx, 0, none⟩) x.m x.m]) 39)
  have bX6 := Blk.new w4 39 [.int .i64 x.f, .int .i64 x.l, .int .i64 x.s, .int .i64 x.st, .int .i64 x.ba, .int .i64 x.se, .slice (some ⟨gx, 0, none⟩) x.m x.m]
  have z6 := ext_alloc z5 (.cells (List.toArray [.int .i64 x.f, .int .i64 x.l, .int .i64 x.s, .int .i64 x.st, .int .i64 x.ba, .int .i64 x.se, .slice (some ⟨gx, 0, none⟩) x.m x.m]) 39)
  obtain ⟨qyX6, qxX6, qcX6, qfX6⟩ := bX6.seven
  go_wp2_with fail
  clear qyX6 qxX6 qcX6 qfX6
  refine (hI (some ⟨gx, 0, none⟩) x.m _ (Nat.le_refl _) (Rd.of_own ox6)).mono ?_; rintro e w5 ⟨Ag, cg, rfl, owg, hb5⟩
  have ow7 := own_ext ow6 hb5
  have ox7 := own_ext ox6 hb5
  have bB7 := bB6.below hb5
  have bW7 := bW6.below hb5
  have bX7 := bX6.below hb5
  have apgw := apart_before ow6.lt owg.lt
  have apgx := apart_before ox6.lt owg.lt
  have og7 := own_base owg z6.size
  have z7 := ext_trans z6 hb5
  have ow8 := ow7.alloc (.cells (List.toArray [.int .i64 y.f, .int .i64 y.l, .int .i64 y.s, .int .i64 y.st, .int .i64 y.ba, .int .i64 y.se, .slice Ag y.zs.length cg]) 39)
  have ox8 := ox7.alloc (.cells (List.toArray [.int .i64 y.f, .int .i64 y.l, .int .i64 y.s, .int .i64 y.st, .int .i64 y.ba, .int .i64 y.se, .slice Ag y.zs.length cg]) 39)
  have og8 := og7.alloc (.cells (List.toArray [.int .i64 y.f, .int .i64 y.l, .int .i64 y.s, .int .i64 y.st, .int .i64 y.ba, .int .i64 y.se, .slice Ag y.zs.length cg]) 39)
  have bB8 := bB7.alloc (.cells (List.toArray [.int .i64 y.f, .int .i64 y.l, .int .i64 y.s, .int .i64 y.st, .int .i64 y.ba, .int .i64 y.se, .slice Ag y.zs.length cg]) 39)
  have bW8 := bW7.alloc (.cells (List.toArray [.int .i64 y.f, .int .i64 y.l, .int .i64 y.s, .int .i64 y.st, .int .i64 y.ba, .int .i64 y.se, .slice Ag y.zs.length cg]) 39)
  have bX8 := bX7.alloc (.cells (List.toArray [.int .i64 y.f, .int .i64 y.l, .int .i64 y.s, .int .i64 y.st, .int .i64 y.ba, .int .i64 y.se, .slice Ag y.zs.length cg]) 39)
  have bG8 := Blk.new w5 39 [.int .i64 y.f, .int .i64 y.l, .int .i64 y.s, .int .i64 y.st, .int .i64 y.ba, .int .i64 y.se, .slice Ag y.zs.length cg]
  have z8 := ext_alloc z7 (.cells (List.toArray [.int .i64 y.f, .int .i64 y.l, .int .i64 y.s, .int .i64 y.st, .int .i64 y.ba, .int .i64 y.se, .slice Ag y.zs.length cg]) 39)
  obtain ⟨qyG8, qxG8, qcG8, qfG8⟩ := bG8.seven
  obtain ⟨qyW8, qxW8, qcW8, qfW8⟩ := bW8.seven
  go_wp2_with fail
  clear qyG8 qxG8 qcG8 qfG8 qyW8 qxW8 qcW8 qfW8
  refine (eqSession_same ⟨y, Ag, y.zs.length, cg⟩ Aw cw _ hy (Rd.of_own og8) (Rd.of_own ow8)).mono ?_; rintro e w6 ⟨rfl, hb6⟩
  have ow9 := own_ext ow8 hb6
  have ox9 := own_ext ox8 hb6
  have og9 := own_ext og8 hb6
  have bB9 := bB8.below hb6
  have bW9 := bW8.below hb6
  have bX9 := bX8.below hb6
  have bG9 := bG8.below hb6
  have z9 := ext_trans z8 hb6
  obtain ⟨qyB9, qxB9, qcB9, qfB9⟩ := bB9.seven
  obtain ⟨qyX9, qxX9, qcX9, qfX9⟩ := bX9.seven
  go_wp2_with fail
  clear qyB9 qxB9 qcB9 qfB9 qyX9 qxX9 qcX9 qfX9
  have ow10 := ow9.drew
  have ox10 := ox9.drew
  have og10 := og9.drew
  have bB10 := bB9.drew
  have bW10 := bW9.drew
  have bX10 := bX9.drew
  have bG10 := bG9.drew
  have C0 := and8 bB10.seven.2.2.1 bX10.seven.2.2.1
  go_region_held3 (fun w' => w'.cell? ⟨w.heap.size, 0, none⟩ = some (.int .i64 x.f) ∧ w'.cell? ⟨w.heap.size, 1, none⟩ = some (.int .i64 x.l) ∧ w'.cell? ⟨w.heap.size, 2, none⟩ = some (.int .i64 x.s) ∧ w'.cell? ⟨w.heap.size, 3, none⟩ = some (.int .i64 x.st) ∧ w'.cell? ⟨w.heap.size, 4, none⟩ = some (.int .i64 x.ba) ∧ w'.cell? ⟨w.heap.size, 5, none⟩ = some (.int .i64 x.se) ∧ w'.cell? ⟨w.heap.size, 6, none⟩ = some (.slice x.A x.m x.c) ∧ w'.cell? ⟨w4.heap.size, 0, none⟩ = some (.int .i64 x.f) ∧ w'.cell? ⟨w4.heap.size, 1, none⟩ = some (.int .i64 x.l) ∧ w'.cell? ⟨w4.heap.size, 2, none⟩ = some (.int .i64 x.s) ∧ w'.cell? ⟨w4.heap.size, 3, none⟩ = some (.int .i64 x.st) ∧ w'.cell? ⟨w4.heap.size, 4, none⟩ = some (.int .i64 x.ba) ∧ w'.cell? ⟨w4.heap.size, 5, none⟩ = some (.int .i64 x.se) ∧ w'.cell? ⟨w4.heap.size, 6, none⟩ = some (.slice (some ⟨gx, 0, none⟩) x.m x.m))
    (first | with_reducible exact C2 | with_reducible exact C1 | with_reducible exact C0)
    (first | (go_at_call 20; refine (toSession_any x _ hm (hr.below z9.drew)).mono ?_; rintro e w7 ⟨gy, rfl, owy, hb7⟩; have BB7 := bB10.below hb7; have BX7 := bX10.below hb7; have OX7 := own_ext ox10 hb7; have C1 := and8 BB7.seven.2.2.1 BX7.seven.2.2.1) | (go_at_call 22; refine (eqSession_same ⟨x.toSes, (some ⟨gx, 0, none⟩), x.m, x.m⟩ (some ⟨gy, 0, none⟩) x.m _ hm (Rd.of_own OX7) (Rd.of_own owy)).mono ?_; rintro e w8 ⟨rfl, hb8⟩; have C2 := and8 (BB7.below hb8).seven.2.2.1 (BX7.below hb8).seven.2.2.1))
  have ow11 := own_ext ow10 hb7
  have ox11 := own_ext ox10 hb7
  have og11 := own_ext og10 hb7
  have bB11 := bB10.below hb7
  have bW11 := bW10.below hb7
  have bX11 := bX10.below hb7
  have bG11 := bG10.below hb7
  have z11 := ext_trans z9.drew hb7
  have ow12 := own_ext ow11 hb8
  have ox12 := own_ext ox11 hb8
  have og12 := own_ext og11 hb8
  have bB12 := bB11.below hb8
  have bW12 := bW11.below hb8
  have bX12 := bX11.below hb8
  have bG12 := bG11.below hb8
  have z12 := ext_trans z11 hb8
  clear C0 C1 C2
  obtain ⟨qyX12, qxX12, qcX12, qfX12⟩ := bX12.seven
  go_wp2_with fail
  clear qyX12 qxX12 qcX12 qfX12
  refine (markSession_own ⟨x.toSes, (some ⟨gx, 0, none⟩), x.m, x.m⟩ w.heap.size _ 1 _ hm (by omega) (by omega) ox12).mono ?_; rintro e w9 ⟨rfl, ox13, hg9⟩
  have ow13 := ow12.kept hg9 apxw.1
  have og13 := og12.kept hg9 apgx.2
  have bB13 := bB12.grown hg9 (box_ne ox12 bB12 (by decide))
  have bW13 := bW12.grown hg9 (box_ne ox12 bW12 (by decide))
  have bX13 := bX12.grown hg9 (box_ne ox12 bX12 (by decide))
  have bG13 := bG12.grown hg9 (box_ne ox12 bG12 (by decide))
  have z13 := below_marked z12 ox12 (Nat.le_refl _) hg9
  obtain ⟨qyG13, qxG13, qcG13, qfG13⟩ := bG13.seven
  obtain ⟨qyW13, qxW13, qcW13, qfW13⟩ := bW13.seven
  go_wp2_with fail
  clear qyG13 qxG13 qcG13 qfG13 qyW13 qxW13 qcW13 qfW13
  refine (eqSession_same ⟨y, Ag, y.zs.length, cg⟩ Aw cw _ hy (Rd.of_own og13) (Rd.of_own ow13)).mono ?_; rintro e w10 ⟨rfl, hb10⟩
  have ow14 := own_ext ow13 hb10
  have og14 := own_ext og13 hb10
  have bB14 := bB13.below hb10
  have bW14 := bW13.below hb10
  have bX14 := bX13.below hb10
  have bG14 := bG13.below hb10
  have z14 := ext_trans z13 hb10
  obtain ⟨qyG14, qxG14, qcG14, qfG14⟩ := bG14.seven
  go_wp2_with fail
  clear qyG14 qxG14 qcG14 qfG14
  refine (markSession_own ⟨y, Ag, y.zs.length, cg⟩ w.heap.size _ 1 _ hy (by omega) (by omega) og14).mono ?_; rintro e w11 ⟨rfl, og15, hg11⟩
  have ow15 := ow14.kept hg11 apgw.1
  have bB15 := bB14.grown hg11 (box_ne og14 bB14 (by decide))
  have bW15 := bW14.grown hg11 (box_ne og14 bW14 (by decide))
  have bX15 := bX14.grown hg11 (box_ne og14 bX14 (by decide))
  have bG15 := bG14.grown hg11 (box_ne og14 bG14 (by decide))
  have z15 := below_marked z14 og14 (Nat.le_refl _) hg11
  obtain ⟨qyG15, qxG15, qcG15, qfG15⟩ := bG15.seven
  go_wp2_with fail
  clear qyG15 qxG15 qcG15 qfG15
  refine (heldSession_any ⟨y, Ag, y.zs.length, cg⟩ 1 _ hy (by omega) (by omega) (Rd.of_own og15)).mono ?_; rintro e w12 ⟨rfl, hb12⟩
  have ow16 := own_ext ow15 hb12
  have og16 := own_ext og15 hb12
  have bB16 := bB15.below hb12
  have bW16 := bW15.below hb12
  have bX16 := bX15.below hb12
  have bG16 := bG15.below hb12
  have z16 := ext_trans z15 hb12
  obtain ⟨qyB16, qxB16, qcB16, qfB16⟩ := bB16.seven
  go_wp2_with fail
  clear qyB16 qxB16 qcB16 qfB16
  refine (toSession_any x _ hm (hr.below z16)).mono ?_; rintro e w13 ⟨gt, rfl, owt, hb13⟩
  have ow17 := own_ext ow16 hb13
  have og17 := own_ext og16 hb13
  have bB17 := bB16.below hb13
  have bW17 := bW16.below hb13
  have bX17 := bX16.below hb13
  have bG17 := bG16.below hb13
  have aptw := apart_before ow16.lt owt.lt
  have aptg := apart_before og16.lt owt.lt
  have ot17 := own_base owt z16.size
  have z17 := ext_trans z16 hb13
  go_wp2_with fail
  refine (hI (some ⟨gt, 0, none⟩) x.m _ (Nat.le_refl _) (Rd.of_own ot17)).mono ?_; rintro e w14 ⟨Ah, ch, rfl, owh, hb14⟩
  have ow18 := own_ext ow17 hb14
  have og18 := own_ext og17 hb14
  have ot18 := own_ext ot17 hb14
  have bB18 := bB17.below hb14
  have bW18 := bW17.below hb14
  have bX18 := bX17.below hb14
  have bG18 := bG17.below hb14
  have aphw := apart_before ow17.lt owh.lt
  have aphg := apart_before og17.lt owh.lt
  have apht := apart_before ot17.lt owh.lt
  have oh18 := own_base owh z17.size
  have z18 := ext_trans z17 hb14
  have ow19 := ow18.alloc (.cells (List.toArray [.int .i64 y.f, .int .i64 y.l, .int .i64 y.s, .int .i64 y.st, .int .i64 y.ba, .int .i64 y.se, .slice Ah y.zs.length ch]) 39)
  have og19 := og18.alloc (.cells (List.toArray [.int .i64 y.f, .int .i64 y.l, .int .i64 y.s, .int .i64 y.st, .int .i64 y.ba, .int .i64 y.se, .slice Ah y.zs.length ch]) 39)
  have oh19 := oh18.alloc (.cells (List.toArray [.int .i64 y.f, .int .i64 y.l, .int .i64 y.s, .int .i64 y.st, .int .i64 y.ba, .int .i64 y.se, .slice Ah y.zs.length ch]) 39)
  have bB19 := bB18.alloc (.cells (List.toArray [.int .i64 y.f, .int .i64 y.l, .int .i64 y.s, .int .i64 y.st, .int .i64 y.ba, .int .i64 y.se, .slice Ah y.zs.length ch]) 39)
  have bW19 := bW18.alloc (.cells (List.toArray [.int .i64 y.f, .int .i64 y.l, .int .i64 y.s, .int .i64 y.st, .int .i64 y.ba, .int .i64 y.se, .slice Ah y.zs.length ch]) 39)
  have bX19 := bX18.alloc (.cells (List.toArray [.int .i64 y.f, .int .i64 y.l, .int .i64 y.s, .int .i64 y.st, .int .i64 y.ba, .int .i64 y.se, .slice Ah y.zs.length ch]) 39)
  have bG19 := bG18.alloc (.cells (List.toArray [.int .i64 y.f, .int .i64 y.l, .int .i64 y.s, .int .i64 y.st, .int .i64 y.ba, .int .i64 y.se, .slice Ah y.zs.length ch]) 39)
  have bH19 := Blk.new w14 39 [.int .i64 y.f, .int .i64 y.l, .int .i64 y.s, .int .i64 y.st, .int .i64 y.ba, .int .i64 y.se, .slice Ah y.zs.length ch]
  have z19 := ext_alloc z18 (.cells (List.toArray [.int .i64 y.f, .int .i64 y.l, .int .i64 y.s, .int .i64 y.st, .int .i64 y.ba, .int .i64 y.se, .slice Ah y.zs.length ch]) 39)
  obtain ⟨qyH19, qxH19, qcH19, qfH19⟩ := bH19.seven
  obtain ⟨qyW19, qxW19, qcW19, qfW19⟩ := bW19.seven
  go_wp2_with fail
  clear qyH19 qxH19 qcH19 qfH19 qyW19 qxW19 qcW19 qfW19
  refine (eqSession_same ⟨y, Ah, y.zs.length, ch⟩ Aw cw _ hy (Rd.of_own oh19) (Rd.of_own ow19)).mono ?_; rintro e w15 ⟨rfl, hb15⟩
  have ow20 := own_ext ow19 hb15
  have og20 := own_ext og19 hb15
  have oh20 := own_ext oh19 hb15
  have bB20 := bB19.below hb15
  have bW20 := bW19.below hb15
  have bX20 := bX19.below hb15
  have bG20 := bG19.below hb15
  have bH20 := bH19.below hb15
  have z20 := ext_trans z19 hb15
  obtain ⟨qyG20, qxG20, qcG20, qfG20⟩ := bG20.seven
  go_wp2_with fail
  clear qyG20 qxG20 qcG20 qfG20
  refine (heldSession_any ⟨y, Ag, y.zs.length, cg⟩ 1 _ hy (by omega) (by omega) (Rd.of_own og20)).mono ?_; rintro e w16 ⟨rfl, hb16⟩
  have ow21 := own_ext ow20 hb16
  have og21 := own_ext og20 hb16
  have oh21 := own_ext oh20 hb16
  have bB21 := bB20.below hb16
  have bW21 := bW20.below hb16
  have bX21 := bX20.below hb16
  have bG21 := bG20.below hb16
  have bH21 := bH20.below hb16
  have z21 := ext_trans z20 hb16
  go_wp2_with fail
  go_ret
  exact ⟨rfl, z21⟩

end Go.Proofs.Ytgljelhglgeojaa