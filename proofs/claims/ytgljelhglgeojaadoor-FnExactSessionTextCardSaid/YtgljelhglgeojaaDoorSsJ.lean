/- FnExactSessionText: the law's walk. Condition: the library's table of powers of ten lies as its initialiser lays it. -/
import Derived.Test.YtgljelhglgeojaaDoorSsI
namespace Go.Proofs.YtgljelhglgeojaaDoor
open Go.RowKit

set_option maxRecDepth 100000 in
set_option maxHeartbeats 4000000 in
theorem walkSessionText (x : SesV) (w : World) (hx : SRd w x) (ht : TabW w) :
    Calls Tryd.prog 3 #[.agg #[.int .i64 x.f, .int .i64 x.l, .int .i64 x.s, .int .i64 x.st, .int .i64 x.ba, .int .i64 x.se, .slice x.A x.m x.c]] w fun e w' => e = .returned (.bool true) ∧ Below w.heap.size w w' := by
  have B0 := Blk.new w 26 [.int .i64 x.f, .int .i64 x.l, .int .i64 x.s, .int .i64 x.st, .int .i64 x.ba, .int .i64 x.se, .slice x.A x.m x.c]
  have z0 := ext_alloc (ext_refl w) (.cells (List.toArray [.int .i64 x.f, .int .i64 x.l, .int .i64 x.s, .int .i64 x.st, .int .i64 x.ba, .int .i64 x.se, .slice x.A x.m x.c]) 26)
  obtain ⟨hn, hr⟩ := hx
  by_cases hbig : 1048576 < x.m
  · go_enter Tryd.func3, Tryd.ntmps3
    go_wp2_with fail
    refine (szSession_any x _ _ hn (by omega) (by omega)).mono ?_; rintro e w1 ⟨rfl, hb1⟩
    rw [if_pos (by omega)]
    go_wp2_with fail
    go_ret
    exact ⟨rfl, ext_trans z0 hb1⟩
  have hm : x.m ≤ 1048576 := by omega
  have hs : (if (1048576 : Int) < (x.m : Int) then (-1 : Int) else 1048576 - x.m) = 1048576 - x.m := by { split <;> omega }
  have HS := Lib.hid hs
  clear hs
  go_enter Tryd.func3, Tryd.ntmps3
  go_wp2_with fail
  refine (szSession_any x _ _ hn (by omega) (by omega)).mono ?_; rintro e w1 ⟨rfl, hb1⟩
  rw [HS.out]
  have B1 := B0.below hb1
  have z1 := ext_trans z0 hb1
  clear B0 z0 hb1
  obtain ⟨y1, x1, c1, f1⟩ := B1.seven
  go_wp2_with fail
  refine (toSession_any x _ hm (hr.below z1)).mono ?_; rintro e w2 ⟨g2, rfl, ow2, hb2⟩
  have B2 := B1.below hb2
  have z2 := ext_trans z1 hb2
  clear y1 x1 c1 f1 B1 hb2 z1
  go_wp2_with fail
  have hsp := specSessionText_any ⟨x.toSes, some ⟨g2, 0, none⟩, x.m, x.m⟩ _ hm (Rd.of_own ow2)
  have him := fun (W : World) (A : Option Addr) (hR : Rd W 1 A x.m (x.zs.map (Value.int .i64))) (hT : TabW W) => implSessionText_any ⟨x.toSes, A, x.m, x.m⟩ W hm hR hT
  dsimp only at hsp him
  generalize sesT x.toSes = T at hsp him
  generalize sesB x.toSes = b at hsp him
  refine hsp.mono ?_; rintro e w3 ⟨rfl, hb3⟩
  have B3 := B2.below hb3
  have z3 := ext_trans z2 hb3
  clear B2 hb3 z2 ow2
  obtain ⟨y3, x3, c3, f3⟩ := B3.seven
  go_wp2_with fail
  refine (toSession_any x _ hm (hr.below z3)).mono ?_; rintro e w4 ⟨g4, rfl, ow4, hb4⟩
  have X4 := Blk.new w4 32 [.int .i64 x.f, .int .i64 x.l, .int .i64 x.s, .int .i64 x.st, .int .i64 x.ba, .int .i64 x.se, .slice (some ⟨g4, 0, none⟩) x.m x.m]
  have B4 := (B3.below hb4).alloc (.cells (List.toArray [.int .i64 x.f, .int .i64 x.l, .int .i64 x.s, .int .i64 x.st, .int .i64 x.ba, .int .i64 x.se, .slice (some ⟨g4, 0, none⟩) x.m x.m]) 32)
  have z4 := ext_alloc (ext_trans z3 hb4) (.cells (List.toArray [.int .i64 x.f, .int .i64 x.l, .int .i64 x.s, .int .i64 x.st, .int .i64 x.ba, .int .i64 x.se, .slice (some ⟨g4, 0, none⟩) x.m x.m]) 32)
  have ow4a := ow4.alloc (.cells (List.toArray [.int .i64 x.f, .int .i64 x.l, .int .i64 x.s, .int .i64 x.st, .int .i64 x.ba, .int .i64 x.se, .slice (some ⟨g4, 0, none⟩) x.m x.m]) 32)
  clear y3 x3 c3 f3 B3 hb4 z3 ow4
  go_wp2_with fail
  refine (him _ _ (Rd.of_own ow4a) (ht.below z4)).mono ?_; rintro e w5 ⟨rfl, hb5⟩
  have X5 := X4.below hb5
  have B5 := B4.below hb5
  have z5 := ext_trans z4 hb5
  have ow5 := own_ext ow4a hb5
  clear X4 B4 z4 ow4a hb5
  obtain ⟨y5, x5, c5, f5⟩ := B5.seven
  obtain ⟨y6, x6, c6, f6⟩ := X5.seven
  go_wp2_with fail
  go_region_held3 (fun w' => w'.cell? ⟨w.heap.size, 0, none⟩ = some (.int .i64 x.f) ∧ w'.cell? ⟨w.heap.size, 1, none⟩ = some (.int .i64 x.l) ∧ w'.cell? ⟨w.heap.size, 2, none⟩ = some (.int .i64 x.s) ∧ w'.cell? ⟨w.heap.size, 3, none⟩ = some (.int .i64 x.st) ∧ w'.cell? ⟨w.heap.size, 4, none⟩ = some (.int .i64 x.ba) ∧ w'.cell? ⟨w.heap.size, 5, none⟩ = some (.int .i64 x.se) ∧ w'.cell? ⟨w.heap.size, 6, none⟩ = some (.slice x.A x.m x.c) ∧ w'.cell? ⟨w4.heap.size, 0, none⟩ = some (.int .i64 x.f) ∧ w'.cell? ⟨w4.heap.size, 1, none⟩ = some (.int .i64 x.l) ∧ w'.cell? ⟨w4.heap.size, 2, none⟩ = some (.int .i64 x.s) ∧ w'.cell? ⟨w4.heap.size, 3, none⟩ = some (.int .i64 x.st) ∧ w'.cell? ⟨w4.heap.size, 4, none⟩ = some (.int .i64 x.ba) ∧ w'.cell? ⟨w4.heap.size, 5, none⟩ = some (.int .i64 x.se) ∧ w'.cell? ⟨w4.heap.size, 6, none⟩ = some (.slice (some ⟨g4, 0, none⟩) x.m x.m))
    (first | exact ⟨B7.cell 0, B7.cell 1, B7.cell 2, B7.cell 3, B7.cell 4, B7.cell 5, B7.cell 6, X7.cell 0, X7.cell 1, X7.cell 2, X7.cell 3, X7.cell 4, X7.cell 5, X7.cell 6⟩ | exact ⟨B6.cell 0, B6.cell 1, B6.cell 2, B6.cell 3, B6.cell 4, B6.cell 5, B6.cell 6, X6.cell 0, X6.cell 1, X6.cell 2, X6.cell 3, X6.cell 4, X6.cell 5, X6.cell 6⟩ | exact ⟨B5.drew.cell 0, B5.drew.cell 1, B5.drew.cell 2, B5.drew.cell 3, B5.drew.cell 4, B5.drew.cell 5, B5.drew.cell 6, X5.drew.cell 0, X5.drew.cell 1, X5.drew.cell 2, X5.drew.cell 3, X5.drew.cell 4, X5.drew.cell 5, X5.drew.cell 6⟩)
    (first | (go_at_call 6; refine (toSession_any x _ hm (hr.below z5.drew)).mono ?_; rintro e w6 ⟨g6, rfl, ow6, hb6⟩; have B6 := B5.drew.below hb6; have X6 := X5.drew.below hb6; have ow7 := own_ext ow5.drew hb6) | (go_at_call 8; refine (eqSession_same ⟨x.toSes, some ⟨g4, 0, none⟩, x.m, x.m⟩ (some ⟨g6, 0, none⟩) x.m _ hm (Rd.of_own ow7) (Rd.of_own ow6)).mono ?_; rintro e w7 ⟨rfl, hb7⟩; have B7 := B6.below hb7; have X7 := X6.below hb7))
  go_wp2_with fail
  go_ret
  exact ⟨rfl, ext_trans (ext_trans z5.drew hb6) hb7⟩

end Go.Proofs.YtgljelhglgeojaaDoor
