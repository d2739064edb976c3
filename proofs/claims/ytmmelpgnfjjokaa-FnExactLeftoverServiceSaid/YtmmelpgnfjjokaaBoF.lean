/- Contracts of LeftoverService, the program's and the reference's; the walks of the laws OutputInflow and LeftoverService. -/
import Derived.Test.YtmmelpgnfjjokaaBoD
import Derived.Deep.RegionHeld3
namespace Go.Proofs.Ytmmelpgnfjjokaa
open Go.RowKit

theorem leftS {w w' : World} {sr sd b r : Int} (h : St w [(w.heap.size, 31, [.int .i64 sr, .int .i64 sd]), (w.heap.size + 1, 25, [.int .i64 b, .int .i64 r]), (w.heap.size + 2, 31, [.int .i64 0, .int .i64 0])] w') :
    w'.cell? ⟨w.heap.size, 0, none⟩ = some (.int .i64 sr) ∧ w'.cell? ⟨w.heap.size, 1, none⟩ = some (.int .i64 sd) ∧ w'.cell? ⟨w.heap.size + 1, 0, none⟩ = some (.int .i64 b) ∧ w'.cell? ⟨w.heap.size + 1, 1, none⟩ = some (.int .i64 r) ∧ St w [(w.heap.size, 31, [.int .i64 sr, .int .i64 sd]), (w.heap.size + 1, 25, [.int .i64 b, .int .i64 r]), (w.heap.size + 2, 31, [.int .i64 0, .int .i64 0])] w' :=
  ⟨(h.at_ 0 rfl).cell 0, (h.at_ 0 rfl).cell 1, (h.at_ 1 rfl).cell 0, (h.at_ 1 rfl).cell 1, h⟩

theorem left_false {sr sd b r : Int} (h : leftB sr sd b r = false) : leftR sr sd b r = 0 ∧ leftD sr sd b r = 0 := by simp [leftR, leftD, h]
theorem left_true {sr sd b r : Int} (h : leftB sr sd b r = true) : leftR sr sd b r = sr - r ∧ leftD sr sd b r = upI (b + sr * sd) (sr - r) := by simp [leftR, leftD, h]

set_option maxHeartbeats 4000000 in
theorem implLeftoverService_any (sr sd b r : Int) (w : World) :
    Calls Try.prog 29 #[.agg #[.int .i64 sr, .int .i64 sd], .agg #[.int .i64 b, .int .i64 r]] w fun e w' => e = .returned (.tuple #[.agg #[.int .i64 (leftR sr sd b r), .int .i64 (leftD sr sd b r)], .bool (leftB sr sd b r)]) ∧ Below w.heap.size w w' := by
  have b0 : Blk (((w.alloc (.cells (List.toArray [.int .i64 sr, .int .i64 sd]) 31)).alloc (.cells (List.toArray [.int .i64 b, .int .i64 r]) 25)).alloc (.cells (List.toArray [.int .i64 0, .int .i64 0]) 31)) w.heap.size 31 [.int .i64 sr, .int .i64 sd] := ((Blk.new w _ _).alloc _).alloc _
  have b1 : Blk (((w.alloc (.cells (List.toArray [.int .i64 sr, .int .i64 sd]) 31)).alloc (.cells (List.toArray [.int .i64 b, .int .i64 r]) 25)).alloc (.cells (List.toArray [.int .i64 0, .int .i64 0]) 31)) (w.heap.size + 1) 25 [.int .i64 b, .int .i64 r] := by have h := (Blk.new (w.alloc (.cells (List.toArray [.int .i64 sr, .int .i64 sd]) 31)) 25 [.int .i64 b, .int .i64 r]).alloc (.cells (List.toArray [.int .i64 0, .int .i64 0]) 31); rwa [World.size_alloc] at h
  have b2 : Blk (((w.alloc (.cells (List.toArray [.int .i64 sr, .int .i64 sd]) 31)).alloc (.cells (List.toArray [.int .i64 b, .int .i64 r]) 25)).alloc (.cells (List.toArray [.int .i64 0, .int .i64 0]) 31)) (w.heap.size + 2) 31 [.int .i64 0, .int .i64 0] := by have h := Blk.new ((w.alloc (.cells (List.toArray [.int .i64 sr, .int .i64 sd]) 31)).alloc (.cells (List.toArray [.int .i64 b, .int .i64 r]) 25)) 31 [.int .i64 0, .int .i64 0]; rwa [World.size_alloc, World.size_alloc] at h
  have z0 : Below w.heap.size w (((w.alloc (.cells (List.toArray [.int .i64 sr, .int .i64 sd]) 31)).alloc (.cells (List.toArray [.int .i64 b, .int .i64 r]) 25)).alloc (.cells (List.toArray [.int .i64 0, .int .i64 0]) 31)) := ext_alloc (ext_alloc (ext_alloc (ext_refl w) _) _) _
  cases h1 : bothB b r sr sd with
  | false =>
    have e0 : leftB sr sd b r = false := by simp [leftB, h1]
    rw [e0, (left_false e0).1, (left_false e0).2]
    clear e0
    go_enter Try.func29, Try.ntmps29
    go_wp2_with fail
    refine (bearable_any _ _ _ _ _).mono ?_; rintro e w1 ⟨rfl, hb1⟩
    rw [h1]
    have c0 := b0.below hb1
    have c1 := b1.below hb1
    have c2 := b2.below hb1
    have z1 := ext_trans z0 hb1
    clear hb1 b0 b1 b2 z0
    obtain ⟨y0, x0, d0, f0⟩ := c0.two
    obtain ⟨y1, x1, d1, f1⟩ := c1.two
    obtain ⟨y2, x2, d2, f2⟩ := c2.two
    go_wp2_with fail
    exact bodyPost_ret (v := .tuple #[.agg #[.int .i64 0, .int .i64 0], .bool false]) (res_cell2 Try.results29 _ rfl ((c2.set_ 0 (.int .i64 0)).set_ 1 (.int .i64 0)) Try.underlying31 rfl (by kernel_rfl)) rfl ⟨rfl, ((z1.setCell (p := ⟨w.heap.size + 2, 0, none⟩) (by simp) (.int .i64 0)).setCell (p := ⟨w.heap.size + 2, 1, none⟩) (by simp) (.int .i64 0))⟩
  | true =>
    have hh := bothB_iff.1 h1
    obtain ⟨m1, m2⟩ := mul_bd (by omega : 0 ≤ sr) hh.2.1.1.2 hh.2.1.2.1 hh.2.1.2.2
    simp only [Int.reduceMul] at m2
    cases h2 : (r == sr) with
    | true =>
      have e0 : leftB sr sd b r = false := by simp [leftB, h2]
      rw [e0, (left_false e0).1, (left_false e0).2]
      clear e0
      go_enter Try.func29, Try.ntmps29
      go_wp2_with fail
      refine (bearable_any _ _ _ _ _).mono ?_; rintro e w1 ⟨rfl, hb1⟩
      rw [h1]
      have c0 := b0.below hb1
      have c1 := b1.below hb1
      have c2 := b2.below hb1
      have z1 := ext_trans z0 hb1
      clear hb1 b0 b1 b2 z0
      obtain ⟨y0, x0, d0, f0⟩ := c0.two
      obtain ⟨y1, x1, d1, f1⟩ := c1.two
      obtain ⟨y2, x2, d2, f2⟩ := c2.two
      go_wp2_with fail
      exact bodyPost_ret (v := .tuple #[.agg #[.int .i64 0, .int .i64 0], .bool false]) (res_cell2 Try.results29 _ rfl ((c2.set_ 0 (.int .i64 0)).set_ 1 (.int .i64 0)) Try.underlying31 rfl (by kernel_rfl)) rfl ⟨rfl, ((z1.setCell (p := ⟨w.heap.size + 2, 0, none⟩) (by simp) (.int .i64 0)).setCell (p := ⟨w.heap.size + 2, 1, none⟩) (by simp) (.int .i64 0))⟩
    | false =>
      have hne : r ≠ sr := by simpa using h2
      have p1 : 0 ≤ b + sr * sd := by omega
      have p2 : b + sr * sd ≤ 1000000000000000 := by omega
      have p3 : 1 ≤ sr - r := by omega
      have p4 : sr - r ≤ 1000000000 := by omega
      clear hne
      cases h3 : isServiceB (sr - r) (upI (b + sr * sd) (sr - r)) with
      | false =>
        have e0 : leftB sr sd b r = false := by simp [leftB, h3]
        rw [e0, (left_false e0).1, (left_false e0).2]
        clear e0
        go_enter Try.func29, Try.ntmps29
        go_wp2_with fail
        refine (bearable_any _ _ _ _ _).mono ?_; rintro e w1 ⟨rfl, hb1⟩
        rw [h1]
        have c0 := b0.below hb1
        have c1 := b1.below hb1
        have c2 := b2.below hb1
        have z1 := ext_trans z0 hb1
        clear hb1 b0 b1 b2 z0
        obtain ⟨y0, x0, d0, f0⟩ := c0.two
        obtain ⟨y1, x1, d1, f1⟩ := c1.two
        obtain ⟨y2, x2, d2, f2⟩ := c2.two
        go_wp2_with (go_at_call 65; refine (divideUp_any _ _ _ p1 p2 p3 p4).mono ?_; rintro e w' ⟨rfl, rfl⟩)
        refine (implIsService_any _ _ _).mono ?_; rintro e w2 ⟨rfl, hb2⟩
        rw [h3]
        all_goals have co := (Blk.new w1 31 [.int .i64 (sr - r), .int .i64 (upI (b + sr * sd) (sr - r))]).below hb2
        all_goals have cr := (c2.alloc (.cells (List.toArray [.int .i64 (sr - r), .int .i64 (upI (b + sr * sd) (sr - r))]) 31)).below hb2
        all_goals have z2 := ext_trans (ext_alloc z1 (.cells (List.toArray [.int .i64 (sr - r), .int .i64 (upI (b + sr * sd) (sr - r))]) 31)) hb2
        all_goals clear y0 x0 d0 f0 y1 x1 d1 f1 y2 x2 d2 f2 hb2
        all_goals obtain ⟨y3, x3, d3, f3⟩ := co.two
        all_goals obtain ⟨y4, x4, d4, f4⟩ := cr.two
        all_goals go_wp2_with fail
        all_goals exact bodyPost_ret (v := .tuple #[.agg #[.int .i64 0, .int .i64 0], .bool false]) (res_cell2 Try.results29 _ rfl ((cr.set_ 0 (.int .i64 0)).set_ 1 (.int .i64 0)) Try.underlying31 rfl (by kernel_rfl)) rfl ⟨rfl, ((z2.setCell (p := ⟨w.heap.size + 2, 0, none⟩) (by simp) (.int .i64 0)).setCell (p := ⟨w.heap.size + 2, 1, none⟩) (by simp) (.int .i64 0))⟩
      | true =>
        have e0 : leftB sr sd b r = true := by simp [leftB, h1, h2, h3]
        rw [e0, (left_true e0).1, (left_true e0).2]
        clear e0
        go_enter Try.func29, Try.ntmps29
        go_wp2_with fail
        refine (bearable_any _ _ _ _ _).mono ?_; rintro e w1 ⟨rfl, hb1⟩
        rw [h1]
        have c0 := b0.below hb1
        have c1 := b1.below hb1
        have c2 := b2.below hb1
        have z1 := ext_trans z0 hb1
        clear hb1 b0 b1 b2 z0
        obtain ⟨y0, x0, d0, f0⟩ := c0.two
        obtain ⟨y1, x1, d1, f1⟩ := c1.two
        obtain ⟨y2, x2, d2, f2⟩ := c2.two
        go_wp2_with (go_at_call 65; refine (divideUp_any _ _ _ p1 p2 p3 p4).mono ?_; rintro e w' ⟨rfl, rfl⟩)
        refine (implIsService_any _ _ _).mono ?_; rintro e w2 ⟨rfl, hb2⟩
        rw [h3]
        all_goals have co := (Blk.new w1 31 [.int .i64 (sr - r), .int .i64 (upI (b + sr * sd) (sr - r))]).below hb2
        all_goals have cr := (c2.alloc (.cells (List.toArray [.int .i64 (sr - r), .int .i64 (upI (b + sr * sd) (sr - r))]) 31)).below hb2
        all_goals have z2 := ext_trans (ext_alloc z1 (.cells (List.toArray [.int .i64 (sr - r), .int .i64 (upI (b + sr * sd) (sr - r))]) 31)) hb2
        all_goals clear y0 x0 d0 f0 y1 x1 d1 f1 y2 x2 d2 f2 hb2
        all_goals obtain ⟨y3, x3, d3, f3⟩ := co.two
        all_goals obtain ⟨y4, x4, d4, f4⟩ := cr.two
        all_goals go_wp2_with fail
        all_goals exact bodyPost_ret (v := .tuple #[.agg #[.int .i64 (sr - r), .int .i64 (upI (b + sr * sd) (sr - r))], .bool true]) (res_cell2 Try.results29 _ rfl ((cr.set_ 0 (.int .i64 (sr - r))).set_ 1 (.int .i64 (upI (b + sr * sd) (sr - r)))) Try.underlying31 rfl (by kernel_rfl)) rfl ⟨rfl, ((z2.setCell (p := ⟨w.heap.size + 2, 0, none⟩) (by simp) (.int .i64 (sr - r))).setCell (p := ⟨w.heap.size + 2, 1, none⟩) (by simp) (.int .i64 (upI (b + sr * sd) (sr - r))))⟩

set_option maxHeartbeats 4000000 in
theorem specLeftoverService_any (sr sd b r : Int) (w : World) :
    Calls Try.prog 28 #[.agg #[.int .i64 sr, .int .i64 sd], .agg #[.int .i64 b, .int .i64 r]] w fun e w' => e = .returned (.tuple #[.agg #[.int .i64 (leftR sr sd b r), .int .i64 (leftD sr sd b r)], .bool (leftB sr sd b r)]) ∧ Below w.heap.size w w' := by
  have b0 : Blk (((w.alloc (.cells (List.toArray [.int .i64 sr, .int .i64 sd]) 31)).alloc (.cells (List.toArray [.int .i64 b, .int .i64 r]) 25)).alloc (.cells (List.toArray [.int .i64 0, .int .i64 0]) 31)) w.heap.size 31 [.int .i64 sr, .int .i64 sd] := ((Blk.new w _ _).alloc _).alloc _
  have b1 : Blk (((w.alloc (.cells (List.toArray [.int .i64 sr, .int .i64 sd]) 31)).alloc (.cells (List.toArray [.int .i64 b, .int .i64 r]) 25)).alloc (.cells (List.toArray [.int .i64 0, .int .i64 0]) 31)) (w.heap.size + 1) 25 [.int .i64 b, .int .i64 r] := by have h := (Blk.new (w.alloc (.cells (List.toArray [.int .i64 sr, .int .i64 sd]) 31)) 25 [.int .i64 b, .int .i64 r]).alloc (.cells (List.toArray [.int .i64 0, .int .i64 0]) 31); rwa [World.size_alloc] at h
  have b2 : Blk (((w.alloc (.cells (List.toArray [.int .i64 sr, .int .i64 sd]) 31)).alloc (.cells (List.toArray [.int .i64 b, .int .i64 r]) 25)).alloc (.cells (List.toArray [.int .i64 0, .int .i64 0]) 31)) (w.heap.size + 2) 31 [.int .i64 0, .int .i64 0] := by have h := Blk.new ((w.alloc (.cells (List.toArray [.int .i64 sr, .int .i64 sd]) 31)).alloc (.cells (List.toArray [.int .i64 b, .int .i64 r]) 25)) 31 [.int .i64 0, .int .i64 0]; rwa [World.size_alloc, World.size_alloc] at h
  have z0 : Below w.heap.size w (((w.alloc (.cells (List.toArray [.int .i64 sr, .int .i64 sd]) 31)).alloc (.cells (List.toArray [.int .i64 b, .int .i64 r]) 25)).alloc (.cells (List.toArray [.int .i64 0, .int .i64 0]) 31)) := ext_alloc (ext_alloc (ext_alloc (ext_refl w) _) _) _
  cases h1 : bothB b r sr sd with
  | false =>
    have e0 : leftB sr sd b r = false := by simp [leftB, h1]
    rw [e0, (left_false e0).1, (left_false e0).2]
    clear e0
    go_enter Try.func28, Try.ntmps28
    go_wp2_with fail
    refine (bnBoth_any _ _ _ _ _).mono ?_; rintro e w1 ⟨rfl, hb1⟩
    rw [h1]
    have c0 := b0.below hb1
    have c1 := b1.below hb1
    have c2 := b2.below hb1
    have z1 := ext_trans z0 hb1
    clear hb1 b0 b1 b2 z0
    obtain ⟨y0, x0, d0, f0⟩ := c0.two
    obtain ⟨y1, x1, d1, f1⟩ := c1.two
    obtain ⟨y2, x2, d2, f2⟩ := c2.two
    go_wp2_with fail
    exact bodyPost_ret (v := .tuple #[.agg #[.int .i64 0, .int .i64 0], .bool false]) (res_cell2 Try.results28 _ rfl ((c2.set_ 0 (.int .i64 0)).set_ 1 (.int .i64 0)) Try.underlying31 rfl (by kernel_rfl)) rfl ⟨rfl, ((z1.setCell (p := ⟨w.heap.size + 2, 0, none⟩) (by simp) (.int .i64 0)).setCell (p := ⟨w.heap.size + 2, 1, none⟩) (by simp) (.int .i64 0))⟩
  | true =>
    have hh := bothB_iff.1 h1
    obtain ⟨m1, m2⟩ := mul_bd (by omega : 0 ≤ sr) hh.2.1.1.2 hh.2.1.2.1 hh.2.1.2.2
    simp only [Int.reduceMul] at m2
    cases h2 : (r == sr) with
    | true =>
      have e0 : leftB sr sd b r = false := by simp [leftB, h2]
      rw [e0, (left_false e0).1, (left_false e0).2]
      clear e0
      go_enter Try.func28, Try.ntmps28
      go_wp2_with fail
      refine (bnBoth_any _ _ _ _ _).mono ?_; rintro e w1 ⟨rfl, hb1⟩
      rw [h1]
      have c0 := b0.below hb1
      have c1 := b1.below hb1
      have c2 := b2.below hb1
      have z1 := ext_trans z0 hb1
      clear hb1 b0 b1 b2 z0
      obtain ⟨y0, x0, d0, f0⟩ := c0.two
      obtain ⟨y1, x1, d1, f1⟩ := c1.two
      obtain ⟨y2, x2, d2, f2⟩ := c2.two
      go_wp2_with fail
      exact bodyPost_ret (v := .tuple #[.agg #[.int .i64 0, .int .i64 0], .bool false]) (res_cell2 Try.results28 _ rfl ((c2.set_ 0 (.int .i64 0)).set_ 1 (.int .i64 0)) Try.underlying31 rfl (by kernel_rfl)) rfl ⟨rfl, ((z1.setCell (p := ⟨w.heap.size + 2, 0, none⟩) (by simp) (.int .i64 0)).setCell (p := ⟨w.heap.size + 2, 1, none⟩) (by simp) (.int .i64 0))⟩
    | false =>
      have hne : r ≠ sr := by simpa using h2
      have p1 : 0 ≤ b + sr * sd := by omega
      have p2 : b + sr * sd ≤ 1000000000000000 := by omega
      have p3 : 1 ≤ sr - r := by omega
      have p4 : sr - r ≤ 1000000000 := by omega
      clear hne
      cases h3 : isServiceB (sr - r) (upI (b + sr * sd) (sr - r)) with
      | false =>
        have e0 : leftB sr sd b r = false := by simp [leftB, h3]
        rw [e0, (left_false e0).1, (left_false e0).2]
        clear e0
        go_enter Try.func28, Try.ntmps28
        go_wp2_with fail
        refine (bnBoth_any _ _ _ _ _).mono ?_; rintro e w1 ⟨rfl, hb1⟩
        rw [h1]
        have c0 := b0.below hb1
        have c1 := b1.below hb1
        have c2 := b2.below hb1
        have z1 := ext_trans z0 hb1
        clear hb1 b0 b1 b2 z0
        obtain ⟨y0, x0, d0, f0⟩ := c0.two
        obtain ⟨y1, x1, d1, f1⟩ := c1.two
        obtain ⟨y2, x2, d2, f2⟩ := c2.two
        go_wp2_with fail
        have hS : St w [(w.heap.size, 31, [.int .i64 sr, .int .i64 sd]), (w.heap.size + 1, 25, [.int .i64 b, .int .i64 r]), (w.heap.size + 2, 31, [.int .i64 0, .int .i64 0])] w1 := ⟨fun p hp => by simp only [List.mem_cons, List.not_mem_nil, or_false] at hp; rcases hp with rfl | rfl | rfl; exact c0; exact c1; exact c2, z1⟩
        have hw1 := wrap_in (sr - r) (by omega) (by omega)
        have hw2 := wrap_in (sr * sd) (by omega) (by omega)
        have hw3 := wrap_in (b + sr * sd) (by omega) (by omega)
        go_region_held3 (fun w' => w'.cell? ⟨w.heap.size, 0, none⟩ = some (.int .i64 sr) ∧ w'.cell? ⟨w.heap.size, 1, none⟩ = some (.int .i64 sd) ∧ w'.cell? ⟨w.heap.size + 1, 0, none⟩ = some (.int .i64 b) ∧ w'.cell? ⟨w.heap.size + 1, 1, none⟩ = some (.int .i64 r) ∧ St w [(w.heap.size, 31, [.int .i64 sr, .int .i64 sd]), (w.heap.size + 1, 25, [.int .i64 b, .int .i64 r]), (w.heap.size + 2, 31, [.int .i64 0, .int .i64 0])] w')
          (first | exact leftS (st_drew hS) | assumption | exact leftS (st_alloc (st_drew hS) _))
          (first | (go_at_call 68; refine (bnUp_any _ _ _ p1 p2 p3 p4).mono ?_; rintro e w2 ⟨rfl, rfl⟩))
        all_goals clear hw1 hw2 hw3
        all_goals go_wp2_with fail
        all_goals (refine (bnService_any _ _ _).mono ?_; rintro e w2 ⟨rfl, hb2⟩)
        all_goals rw [h3]
        all_goals have co := (Blk.new w1 31 [.int .i64 (sr - r), .int .i64 (upI (b + sr * sd) (sr - r))]).drew.below hb2
        all_goals have cr := (c2.alloc (.cells (List.toArray [.int .i64 (sr - r), .int .i64 (upI (b + sr * sd) (sr - r))]) 31)).drew.below hb2
        all_goals have z2 := ext_trans (ext_alloc z1 (.cells (List.toArray [.int .i64 (sr - r), .int .i64 (upI (b + sr * sd) (sr - r))]) 31)).drew hb2
        all_goals clear y0 x0 d0 f0 y1 x1 d1 f1 y2 x2 d2 f2 hb2
        all_goals obtain ⟨y3, x3, d3, f3⟩ := co.two
        all_goals obtain ⟨y4, x4, d4, f4⟩ := cr.two
        all_goals go_wp2_with fail
        all_goals exact bodyPost_ret (v := .tuple #[.agg #[.int .i64 0, .int .i64 0], .bool false]) (res_cell2 Try.results28 _ rfl ((cr.set_ 0 (.int .i64 0)).set_ 1 (.int .i64 0)) Try.underlying31 rfl (by kernel_rfl)) rfl ⟨rfl, ((z2.setCell (p := ⟨w.heap.size + 2, 0, none⟩) (by simp) (.int .i64 0)).setCell (p := ⟨w.heap.size + 2, 1, none⟩) (by simp) (.int .i64 0))⟩
      | true =>
        have e0 : leftB sr sd b r = true := by simp [leftB, h1, h2, h3]
        rw [e0, (left_true e0).1, (left_true e0).2]
        clear e0
        go_enter Try.func28, Try.ntmps28
        go_wp2_with fail
        refine (bnBoth_any _ _ _ _ _).mono ?_; rintro e w1 ⟨rfl, hb1⟩
        rw [h1]
        have c0 := b0.below hb1
        have c1 := b1.below hb1
        have c2 := b2.below hb1
        have z1 := ext_trans z0 hb1
        clear hb1 b0 b1 b2 z0
        obtain ⟨y0, x0, d0, f0⟩ := c0.two
        obtain ⟨y1, x1, d1, f1⟩ := c1.two
        obtain ⟨y2, x2, d2, f2⟩ := c2.two
        go_wp2_with fail
        have hS : St w [(w.heap.size, 31, [.int .i64 sr, .int .i64 sd]), (w.heap.size + 1, 25, [.int .i64 b, .int .i64 r]), (w.heap.size + 2, 31, [.int .i64 0, .int .i64 0])] w1 := ⟨fun p hp => by simp only [List.mem_cons, List.not_mem_nil, or_false] at hp; rcases hp with rfl | rfl | rfl; exact c0; exact c1; exact c2, z1⟩
        have hw1 := wrap_in (sr - r) (by omega) (by omega)
        have hw2 := wrap_in (sr * sd) (by omega) (by omega)
        have hw3 := wrap_in (b + sr * sd) (by omega) (by omega)
        go_region_held3 (fun w' => w'.cell? ⟨w.heap.size, 0, none⟩ = some (.int .i64 sr) ∧ w'.cell? ⟨w.heap.size, 1, none⟩ = some (.int .i64 sd) ∧ w'.cell? ⟨w.heap.size + 1, 0, none⟩ = some (.int .i64 b) ∧ w'.cell? ⟨w.heap.size + 1, 1, none⟩ = some (.int .i64 r) ∧ St w [(w.heap.size, 31, [.int .i64 sr, .int .i64 sd]), (w.heap.size + 1, 25, [.int .i64 b, .int .i64 r]), (w.heap.size + 2, 31, [.int .i64 0, .int .i64 0])] w')
          (first | exact leftS (st_drew hS) | assumption | exact leftS (st_alloc (st_drew hS) _))
          (first | (go_at_call 68; refine (bnUp_any _ _ _ p1 p2 p3 p4).mono ?_; rintro e w2 ⟨rfl, rfl⟩))
        all_goals clear hw1 hw2 hw3
        all_goals go_wp2_with fail
        all_goals (refine (bnService_any _ _ _).mono ?_; rintro e w2 ⟨rfl, hb2⟩)
        all_goals rw [h3]
        all_goals have co := (Blk.new w1 31 [.int .i64 (sr - r), .int .i64 (upI (b + sr * sd) (sr - r))]).drew.below hb2
        all_goals have cr := (c2.alloc (.cells (List.toArray [.int .i64 (sr - r), .int .i64 (upI (b + sr * sd) (sr - r))]) 31)).drew.below hb2
        all_goals have z2 := ext_trans (ext_alloc z1 (.cells (List.toArray [.int .i64 (sr - r), .int .i64 (upI (b + sr * sd) (sr - r))]) 31)).drew hb2
        all_goals clear y0 x0 d0 f0 y1 x1 d1 f1 y2 x2 d2 f2 hb2
        all_goals obtain ⟨y3, x3, d3, f3⟩ := co.two
        all_goals obtain ⟨y4, x4, d4, f4⟩ := cr.two
        all_goals go_wp2_with fail
        all_goals exact bodyPost_ret (v := .tuple #[.agg #[.int .i64 (sr - r), .int .i64 (upI (b + sr * sd) (sr - r))], .bool true]) (res_cell2 Try.results28 _ rfl ((cr.set_ 0 (.int .i64 (sr - r))).set_ 1 (.int .i64 (upI (b + sr * sd) (sr - r)))) Try.underlying31 rfl (by kernel_rfl)) rfl ⟨rfl, ((z2.setCell (p := ⟨w.heap.size + 2, 0, none⟩) (by simp) (.int .i64 (sr - r))).setCell (p := ⟨w.heap.size + 2, 1, none⟩) (by simp) (.int .i64 (upI (b + sr * sd) (sr - r))))⟩

end Go.Proofs.Ytmmelpgnfjjokaa