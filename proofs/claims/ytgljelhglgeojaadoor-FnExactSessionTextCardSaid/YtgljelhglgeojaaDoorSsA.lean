/- Sessions: contracts of the laws' own helpers (copier, comparer, counter, marker). -/
import Derived.Test.YtgljelhglgeojaaDoorSsO
import Derived.Test.YtgljelhglgeojaaDoorApp
namespace Go.Proofs.YtgljelhglgeojaaDoor
open Go.RowKit

set_option maxHeartbeats 1000000 in
theorem szSession_any (x : SesV) (left : Int) (w : World) (hn : x.m ≤ 9223372036854775807) (h1 : 0 ≤ left) (h2 : left ≤ 1048576) :
    Calls Tryd.prog 4 #[.agg #[.int .i64 x.f, .int .i64 x.l, .int .i64 x.s, .int .i64 x.st, .int .i64 x.ba, .int .i64 x.se, .slice x.A x.m x.c], .int .i64 left] w fun e w' => e = .returned (.int .i64 (if left < (x.m : Int) then -1 else left - x.m)) ∧ Below w.heap.size w w' := by
  have B0 := Blk.new w 26 [.int .i64 x.f, .int .i64 x.l, .int .i64 x.s, .int .i64 x.st, .int .i64 x.ba, .int .i64 x.se, .slice x.A x.m x.c]
  have z0 := ext_alloc (ext_refl w) (.cells (List.toArray [.int .i64 x.f, .int .i64 x.l, .int .i64 x.s, .int .i64 x.st, .int .i64 x.ba, .int .i64 x.se, .slice x.A x.m x.c]) 26)
  by_cases h : left < (x.m : Int)
  · go_enter Tryd.func4, Tryd.ntmps4
    go_wp2_with (go_at_call 9; refine (szIntS_any x.A x.m x.c left _ hn h1 h2).mono ?_; rintro e w' ⟨rfl, rfl⟩; rw [if_pos h])
    go_ret
    exact ⟨rfl, z0⟩
  · go_enter Tryd.func4, Tryd.ntmps4
    go_wp2_with (go_at_call 9; refine (szIntS_any x.A x.m x.c left _ hn h1 h2).mono ?_; rintro e w' ⟨rfl, rfl⟩; rw [if_neg h])
    go_ret
    exact ⟨rfl, z0⟩

set_option maxHeartbeats 1000000 in
theorem eqSession_same (x : SesV) (B : Option Addr) (d : Nat) (w : World) (hm : x.m ≤ 1048576) (hr : Rd w 1 x.A x.m (x.zs.map (Value.int .i64))) (hr2 : Rd w 1 B x.m (x.zs.map (Value.int .i64))) :
    Calls Tryd.prog 8 #[.agg #[.int .i64 x.f, .int .i64 x.l, .int .i64 x.s, .int .i64 x.st, .int .i64 x.ba, .int .i64 x.se, .slice x.A x.m x.c], .agg #[.int .i64 x.f, .int .i64 x.l, .int .i64 x.s, .int .i64 x.st, .int .i64 x.ba, .int .i64 x.se, .slice B x.m d]] w fun e w' => e = .returned (.bool true) ∧ Below w.heap.size w w' := by
  have C0 : Blk ((w.alloc (.cells (List.toArray [.int .i64 x.f, .int .i64 x.l, .int .i64 x.s, .int .i64 x.st, .int .i64 x.ba, .int .i64 x.se, .slice x.A x.m x.c]) 32)).alloc (.cells (List.toArray [.int .i64 x.f, .int .i64 x.l, .int .i64 x.s, .int .i64 x.st, .int .i64 x.ba, .int .i64 x.se, .slice B x.m d]) 32)) w.heap.size 32 [.int .i64 x.f, .int .i64 x.l, .int .i64 x.s, .int .i64 x.st, .int .i64 x.ba, .int .i64 x.se, .slice x.A x.m x.c] := (Blk.new w 32 [.int .i64 x.f, .int .i64 x.l, .int .i64 x.s, .int .i64 x.st, .int .i64 x.ba, .int .i64 x.se, .slice x.A x.m x.c]).alloc _
  have D0 : Blk ((w.alloc (.cells (List.toArray [.int .i64 x.f, .int .i64 x.l, .int .i64 x.s, .int .i64 x.st, .int .i64 x.ba, .int .i64 x.se, .slice x.A x.m x.c]) 32)).alloc (.cells (List.toArray [.int .i64 x.f, .int .i64 x.l, .int .i64 x.s, .int .i64 x.st, .int .i64 x.ba, .int .i64 x.se, .slice B x.m d]) 32)) (w.heap.size + 1) 32 [.int .i64 x.f, .int .i64 x.l, .int .i64 x.s, .int .i64 x.st, .int .i64 x.ba, .int .i64 x.se, .slice B x.m d] := by have h := Blk.new (w.alloc (.cells (List.toArray [.int .i64 x.f, .int .i64 x.l, .int .i64 x.s, .int .i64 x.st, .int .i64 x.ba, .int .i64 x.se, .slice x.A x.m x.c]) 32)) 32 [.int .i64 x.f, .int .i64 x.l, .int .i64 x.s, .int .i64 x.st, .int .i64 x.ba, .int .i64 x.se, .slice B x.m d]; rwa [World.size_alloc] at h
  have z0 : Below w.heap.size w ((w.alloc (.cells (List.toArray [.int .i64 x.f, .int .i64 x.l, .int .i64 x.s, .int .i64 x.st, .int .i64 x.ba, .int .i64 x.se, .slice x.A x.m x.c]) 32)).alloc (.cells (List.toArray [.int .i64 x.f, .int .i64 x.l, .int .i64 x.s, .int .i64 x.st, .int .i64 x.ba, .int .i64 x.se, .slice B x.m d]) 32)) := ext_alloc (ext_alloc (ext_refl w) _) _
  go_enter Tryd.func8, Tryd.ntmps8
  go_wp2_with fail
  refine (eqCurve_same _ _ _ _).mono ?_; rintro e w1 ⟨rfl, hb1⟩
  have C1 := C0.below hb1
  have D1 := D0.below hb1
  have z1 := ext_trans z0 hb1
  clear C0 D0 z0 hb1
  obtain ⟨yc, xc, dc, fc⟩ := C1.seven
  obtain ⟨yd, xd, dd, fd⟩ := D1.seven
  go_wp2_with fail
  refine (eqIntS_same x.A B x.m x.c d x.zs _ hm (hr.below z1) (hr2.below z1)).mono ?_; rintro e w2 ⟨rfl, hb2⟩
  go_wp2_with fail
  go_ret
  exact ⟨rfl, ext_trans z1 hb2⟩

set_option maxRecDepth 100000 in
set_option maxHeartbeats 2000000 in
theorem toSession_any (x : SesV) (w : World) (hm : x.m ≤ 1048576) (hr : Rd w 1 x.A x.m (x.zs.map (Value.int .i64))) :
    Calls Tryd.prog 6 #[.agg #[.int .i64 x.f, .int .i64 x.l, .int .i64 x.s, .int .i64 x.st, .int .i64 x.ba, .int .i64 x.se, .slice x.A x.m x.c]] w fun e w' => ∃ g, e = .returned (.agg #[.int .i64 x.f, .int .i64 x.l, .int .i64 x.s, .int .i64 x.st, .int .i64 x.ba, .int .i64 x.se, .slice (some ⟨g, 0, none⟩) x.m x.m]) ∧ w'.ownsRow w.heap.size 3 1 (.slice (some ⟨g, 0, none⟩) x.m x.m) x.m (x.zs.map (Value.int .i64)) ∧ Below w.heap.size w w' := by
  have a0 : Blk (((w.alloc (.cells (List.toArray [.int .i64 x.f, .int .i64 x.l, .int .i64 x.s, .int .i64 x.st, .int .i64 x.ba, .int .i64 x.se, .slice x.A x.m x.c]) 26)).alloc (.cells (List.toArray [.int .i64 0, .int .i64 0, .int .i64 0, .int .i64 0, .int .i64 0, .int .i64 0, .slice none 0 0]) 32)).alloc (.cells (List.toArray [.int .i64 0, .int .i64 0, .int .i64 0, .int .i64 0, .int .i64 0, .int .i64 0, .slice none 0 0]) 32)) w.heap.size 26 [.int .i64 x.f, .int .i64 x.l, .int .i64 x.s, .int .i64 x.st, .int .i64 x.ba, .int .i64 x.se, .slice x.A x.m x.c] := ((Blk.new w 26 [.int .i64 x.f, .int .i64 x.l, .int .i64 x.s, .int .i64 x.st, .int .i64 x.ba, .int .i64 x.se, .slice x.A x.m x.c]).alloc _).alloc _
  have r0 : Blk (((w.alloc (.cells (List.toArray [.int .i64 x.f, .int .i64 x.l, .int .i64 x.s, .int .i64 x.st, .int .i64 x.ba, .int .i64 x.se, .slice x.A x.m x.c]) 26)).alloc (.cells (List.toArray [.int .i64 0, .int .i64 0, .int .i64 0, .int .i64 0, .int .i64 0, .int .i64 0, .slice none 0 0]) 32)).alloc (.cells (List.toArray [.int .i64 0, .int .i64 0, .int .i64 0, .int .i64 0, .int .i64 0, .int .i64 0, .slice none 0 0]) 32)) (w.heap.size + 1) 32 [.int .i64 0, .int .i64 0, .int .i64 0, .int .i64 0, .int .i64 0, .int .i64 0, .slice none 0 0] := by have h := (Blk.new (w.alloc (.cells (List.toArray [.int .i64 x.f, .int .i64 x.l, .int .i64 x.s, .int .i64 x.st, .int .i64 x.ba, .int .i64 x.se, .slice x.A x.m x.c]) 26)) 32 [.int .i64 0, .int .i64 0, .int .i64 0, .int .i64 0, .int .i64 0, .int .i64 0, .slice none 0 0]).alloc (.cells (List.toArray [.int .i64 0, .int .i64 0, .int .i64 0, .int .i64 0, .int .i64 0, .int .i64 0, .slice none 0 0]) 32); rwa [World.size_alloc] at h
  have o0 : Blk (((w.alloc (.cells (List.toArray [.int .i64 x.f, .int .i64 x.l, .int .i64 x.s, .int .i64 x.st, .int .i64 x.ba, .int .i64 x.se, .slice x.A x.m x.c]) 26)).alloc (.cells (List.toArray [.int .i64 0, .int .i64 0, .int .i64 0, .int .i64 0, .int .i64 0, .int .i64 0, .slice none 0 0]) 32)).alloc (.cells (List.toArray [.int .i64 0, .int .i64 0, .int .i64 0, .int .i64 0, .int .i64 0, .int .i64 0, .slice none 0 0]) 32)) (w.heap.size + 2) 32 [.int .i64 0, .int .i64 0, .int .i64 0, .int .i64 0, .int .i64 0, .int .i64 0, .slice none 0 0] := by have h := Blk.new ((w.alloc (.cells (List.toArray [.int .i64 x.f, .int .i64 x.l, .int .i64 x.s, .int .i64 x.st, .int .i64 x.ba, .int .i64 x.se, .slice x.A x.m x.c]) 26)).alloc (.cells (List.toArray [.int .i64 0, .int .i64 0, .int .i64 0, .int .i64 0, .int .i64 0, .int .i64 0, .slice none 0 0]) 32)) 32 [.int .i64 0, .int .i64 0, .int .i64 0, .int .i64 0, .int .i64 0, .int .i64 0, .slice none 0 0]; rwa [World.size_alloc, World.size_alloc] at h
  have z0 : Below w.heap.size w (((w.alloc (.cells (List.toArray [.int .i64 x.f, .int .i64 x.l, .int .i64 x.s, .int .i64 x.st, .int .i64 x.ba, .int .i64 x.se, .slice x.A x.m x.c]) 26)).alloc (.cells (List.toArray [.int .i64 0, .int .i64 0, .int .i64 0, .int .i64 0, .int .i64 0, .int .i64 0, .slice none 0 0]) 32)).alloc (.cells (List.toArray [.int .i64 0, .int .i64 0, .int .i64 0, .int .i64 0, .int .i64 0, .int .i64 0, .slice none 0 0]) 32)) := ext_alloc (ext_alloc (ext_alloc (ext_refl w) _) _) _
  go_enter Tryd.func6, Tryd.ntmps6
  go_wp2_with fail
  refine (toCurve_any _ _ _ _).mono ?_; rintro e w1 ⟨rfl, hb1⟩
  have a1 := a0.below hb1
  have r1 := r0.below hb1
  have o1 := o0.below hb1
  have z1 := ext_trans z0 hb1
  clear a0 r0 o0 z0 hb1
  obtain ⟨ya, xa, ca, fa⟩ := a1.seven
  obtain ⟨yr, xr, cr, fr⟩ := r1.seven
  obtain ⟨yo, xo, co, fo⟩ := o1.seven
  have hz1 := z1.size
  go_wp2_with fail
  have a2 : Blk _ w.heap.size 26 [.int .i64 x.f, .int .i64 x.l, .int .i64 x.s, .int .i64 x.st, .int .i64 x.ba, .int .i64 x.se, .slice x.A x.m x.c] := ((((((a1.far (p := ⟨w.heap.size + 2, 0, none⟩) (by simp) (.int .i64 x.f)).far (p := ⟨w.heap.size + 2, 1, none⟩) (by simp) (.int .i64 x.l)).far (p := ⟨w.heap.size + 2, 2, none⟩) (by simp) (.int .i64 x.s)).far (p := ⟨w.heap.size + 2, 3, none⟩) (by simp) (.int .i64 x.st)).far (p := ⟨w.heap.size + 2, 4, none⟩) (by simp) (.int .i64 x.ba)).far (p := ⟨w.heap.size + 2, 5, none⟩) (by simp) (.int .i64 x.se))
  have r2 : Blk _ (w.heap.size + 1) 32 [.int .i64 0, .int .i64 0, .int .i64 0, .int .i64 0, .int .i64 0, .int .i64 0, .slice none 0 0] := ((((((r1.far (p := ⟨w.heap.size + 2, 0, none⟩) (by simp) (.int .i64 x.f)).far (p := ⟨w.heap.size + 2, 1, none⟩) (by simp) (.int .i64 x.l)).far (p := ⟨w.heap.size + 2, 2, none⟩) (by simp) (.int .i64 x.s)).far (p := ⟨w.heap.size + 2, 3, none⟩) (by simp) (.int .i64 x.st)).far (p := ⟨w.heap.size + 2, 4, none⟩) (by simp) (.int .i64 x.ba)).far (p := ⟨w.heap.size + 2, 5, none⟩) (by simp) (.int .i64 x.se))
  have o2 : Blk _ (w.heap.size + 2) 32 [.int .i64 x.f, .int .i64 x.l, .int .i64 x.s, .int .i64 x.st, .int .i64 x.ba, .int .i64 x.se, .slice none 0 0] := ((((((o1.set_ 0 (.int .i64 x.f)).set_ 1 (.int .i64 x.l)).set_ 2 (.int .i64 x.s)).set_ 3 (.int .i64 x.st)).set_ 4 (.int .i64 x.ba)).set_ 5 (.int .i64 x.se))
  have z2 := ((((((z1.setCell (p := ⟨w.heap.size + 2, 0, none⟩) (by simp) (.int .i64 x.f)).setCell (p := ⟨w.heap.size + 2, 1, none⟩) (by simp) (.int .i64 x.l)).setCell (p := ⟨w.heap.size + 2, 2, none⟩) (by simp) (.int .i64 x.s)).setCell (p := ⟨w.heap.size + 2, 3, none⟩) (by simp) (.int .i64 x.st)).setCell (p := ⟨w.heap.size + 2, 4, none⟩) (by simp) (.int .i64 x.ba)).setCell (p := ⟨w.heap.size + 2, 5, none⟩) (by simp) (.int .i64 x.se))
  refine (toIntS_any x.A x.m x.c x.zs _ hm (hr.below z2)).mono ?_; rintro e w3 ⟨g, rfl, hown, hb3⟩
  have a3 := a2.below hb3
  have r3 := r2.below hb3
  have o3 := o2.below hb3
  have z3 := ext_trans z2 hb3
  have own3 := own_base hown z2.size
  clear a1 r1 o1 z1 a2 r2 o2 z2 hb3 hown ya xa ca fa yr xr cr fr yo xo co fo
  obtain ⟨yr, xr, cr, fr⟩ := r3.seven
  obtain ⟨yo, xo, co, fo⟩ := o3.seven
  have hz3 := z3.size
  go_wp2_with fail
  have gA : w3.grownBy (w3.setCell ⟨w.heap.size + 2, 6, none⟩ (.slice (some ⟨g, 0, none⟩) x.m x.m)) (some (w.heap.size + 2)) := grownBy_setCell (World.grownBy.refl w3 (some (w.heap.size + 2))) 6 _
  have own4 := own3.kept gA (.inr fun e => box_ne own3 o3 (by decide) e.symm)
  have r4 : Blk (w3.setCell ⟨w.heap.size + 2, 6, none⟩ (.slice (some ⟨g, 0, none⟩) x.m x.m)) (w.heap.size + 1) 32 [.int .i64 0, .int .i64 0, .int .i64 0, .int .i64 0, .int .i64 0, .int .i64 0, .slice none 0 0] := r3.far (p := ⟨w.heap.size + 2, 6, none⟩) (by simp) _
  have z4 : Below w.heap.size w (w3.setCell ⟨w.heap.size + 2, 6, none⟩ (.slice (some ⟨g, 0, none⟩) x.m x.m)) := z3.setCell (p := ⟨w.heap.size + 2, 6, none⟩) (by simp) _
  have gB := grownBy_setCell (grownBy_setCell (grownBy_setCell (grownBy_setCell (grownBy_setCell (grownBy_setCell (grownBy_setCell (World.grownBy.refl (w3.setCell ⟨w.heap.size + 2, 6, none⟩ (.slice (some ⟨g, 0, none⟩) x.m x.m)) (some (w.heap.size + 1))) 0 (.int .i64 x.f)) 1 (.int .i64 x.l)) 2 (.int .i64 x.s)) 3 (.int .i64 x.st)) 4 (.int .i64 x.ba)) 5 (.int .i64 x.se)) 6 (.slice (some ⟨g, 0, none⟩) x.m x.m)
  exact bodyPost_ret (v := .agg #[.int .i64 x.f, .int .i64 x.l, .int .i64 x.s, .int .i64 x.st, .int .i64 x.ba, .int .i64 x.se, .slice (some ⟨g, 0, none⟩) x.m x.m]) (res_cell1 Tryd.results6 _ rfl (((((((r4.set_ 0 (.int .i64 x.f)).set_ 1 (.int .i64 x.l)).set_ 2 (.int .i64 x.s)).set_ 3 (.int .i64 x.st)).set_ 4 (.int .i64 x.ba)).set_ 5 (.int .i64 x.se)).set_ 6 (.slice (some ⟨g, 0, none⟩) x.m x.m)) Tryd.underlying32 rfl (by kernel_rfl)) rfl ⟨g, rfl, own4.kept gB (.inr fun e => box_ne own4 r4 (by decide) e.symm), (((((((z4.setCell (p := ⟨w.heap.size + 1, 0, none⟩) (by simp) (.int .i64 x.f)).setCell (p := ⟨w.heap.size + 1, 1, none⟩) (by simp) (.int .i64 x.l)).setCell (p := ⟨w.heap.size + 1, 2, none⟩) (by simp) (.int .i64 x.s)).setCell (p := ⟨w.heap.size + 1, 3, none⟩) (by simp) (.int .i64 x.st)).setCell (p := ⟨w.heap.size + 1, 4, none⟩) (by simp) (.int .i64 x.ba)).setCell (p := ⟨w.heap.size + 1, 5, none⟩) (by simp) (.int .i64 x.se)).setCell (p := ⟨w.heap.size + 1, 6, none⟩) (by simp) (.slice (some ⟨g, 0, none⟩) x.m x.m))⟩

end Go.Proofs.YtgljelhglgeojaaDoor