/- Contracts of OutputInflow and LeftoverService, the program's and the reference's; the laws' walks. -/
import Derived.Test.YtmmelpgnfjjokaaBoW
import Derived.Deep.RegionHeld3
namespace Go.Proofs.Ytmmelpgnfjjokaa
open Go.RowKit

def fp (b : Bool) (x : Int) : Int := if b then x else 0
/-- Boxes that a region keeps. -/
def St (w : World) (bs : List (Nat × TypeId × List Value)) (w' : World) : Prop := (∀ p ∈ bs, Blk w' p.1 p.2.1 p.2.2) ∧ Below w.heap.size w w'
theorem st_drew {w w' : World} {bs : List (Nat × TypeId × List Value)} (h : St w bs w') : St w bs w'.drew := ⟨fun p hp => (h.1 p hp).drew, h.2.drew⟩
theorem st_drewN {w w' : World} {bs : List (Nat × TypeId × List Value)} (h : St w bs w') (n : Nat) : St w bs (w'.drewN n) := ⟨fun p hp => (h.1 p hp).drewN n, below_drewN h.2 n⟩
theorem st_alloc {w w' : World} {bs : List (Nat × TypeId × List Value)} (h : St w bs w') (o : Obj) : St w bs (w'.alloc o) := ⟨fun p hp => (h.1 p hp).alloc o, ext_alloc h.2 o⟩
theorem st_ext {w w' w1 : World} {bs : List (Nat × TypeId × List Value)} (h : St w bs w') (hb : Below w'.heap.size w' w1) : St w bs w1 := ⟨fun p hp => (h.1 p hp).below hb, ext_trans h.2 hb⟩
theorem St.at_ {w w' : World} {bs : List (Nat × TypeId × List Value)} (h : St w bs w') (i : Nat) {g : Nat} {t : TypeId} {cs : List Value} (hi : bs[i]? = some (g, t, cs)) : Blk w' g t cs := h.1 (g, t, cs) (List.mem_of_getElem? hi)

set_option maxHeartbeats 1000000 in
theorem bnIf_any (b r : Int) (w : World) :
    Calls Try.prog 69 #[.agg #[.int .i64 b, .int .i64 r]] w fun e w' => e = .returned (.tuple #[.agg #[.int .i64 (fp (isInflowB b r) b), .int .i64 (fp (isInflowB b r) r)], .bool (isInflowB b r)]) ∧ Below w.heap.size w w' := by
  have b0 : Blk ((w.alloc (.cells (List.toArray [.int .i64 b, .int .i64 r]) 25)).alloc (.cells (List.toArray [.int .i64 0, .int .i64 0]) 25)) w.heap.size 25 [.int .i64 b, .int .i64 r] := (Blk.new w _ _).alloc _
  have br0 : Blk ((w.alloc (.cells (List.toArray [.int .i64 b, .int .i64 r]) 25)).alloc (.cells (List.toArray [.int .i64 0, .int .i64 0]) 25)) (w.heap.size + 1) 25 [.int .i64 0, .int .i64 0] := by have h := Blk.new (w.alloc (.cells (List.toArray [.int .i64 b, .int .i64 r]) 25)) 25 [.int .i64 0, .int .i64 0]; rwa [World.size_alloc] at h
  have z0 : Below w.heap.size w ((w.alloc (.cells (List.toArray [.int .i64 b, .int .i64 r]) 25)).alloc (.cells (List.toArray [.int .i64 0, .int .i64 0]) 25)) := ext_alloc (ext_alloc (ext_refl w) _) _
  cases h : isInflowB b r with
  | false =>
    go_enter Try.func69, Try.ntmps69
    go_wp2_with fail
    refine (bnInflow_any _ _ _).mono ?_; rintro e w1 ⟨rfl, hb1⟩
    have b1 := b0.below hb1
    have br1 := br0.below hb1
    obtain ⟨y1, x1, c1, f1⟩ := b1.two
    obtain ⟨y2, x2, c2, f2⟩ := br1.two
    rw [h]
    go_wp2_with fail
    exact bodyPost_ret (v := .tuple #[.agg #[.int .i64 0, .int .i64 0], .bool false]) (res_cell2 Try.results69 _ rfl ((br1.set_ 0 (.int .i64 0)).set_ 1 (.int .i64 0)) Try.underlying25 rfl (by kernel_rfl)) rfl ⟨rfl, (((ext_trans z0 hb1).setCell (p := ⟨w.heap.size + 1, 0, none⟩) (by simp) (.int .i64 0)).setCell (p := ⟨w.heap.size + 1, 1, none⟩) (by simp) (.int .i64 0))⟩
  | true =>
    go_enter Try.func69, Try.ntmps69
    go_wp2_with fail
    refine (bnInflow_any _ _ _).mono ?_; rintro e w1 ⟨rfl, hb1⟩
    have b1 := b0.below hb1
    have br1 := br0.below hb1
    obtain ⟨y1, x1, c1, f1⟩ := b1.two
    obtain ⟨y2, x2, c2, f2⟩ := br1.two
    rw [h]
    go_wp2_with fail
    exact bodyPost_ret (v := .tuple #[.agg #[.int .i64 b, .int .i64 r], .bool true]) (res_cell2 Try.results69 _ rfl ((br1.set_ 0 (.int .i64 b)).set_ 1 (.int .i64 r)) Try.underlying25 rfl (by kernel_rfl)) rfl ⟨rfl, (((ext_trans z0 hb1).setCell (p := ⟨w.heap.size + 1, 0, none⟩) (by simp) (.int .i64 b)).setCell (p := ⟨w.heap.size + 1, 1, none⟩) (by simp) (.int .i64 r))⟩

set_option maxHeartbeats 2000000 in
theorem implOutputInflow_any (b r sr sd : Int) (w : World) :
    Calls Try.prog 32 #[.agg #[.int .i64 b, .int .i64 r], .agg #[.int .i64 sr, .int .i64 sd]] w fun e w' => e = .returned (.tuple #[.agg #[.int .i64 (outBu b r sr sd), .int .i64 (outRa b r sr sd)], .bool (outB b r sr sd)]) ∧ Below w.heap.size w w' := by
  have b0 : Blk (((w.alloc (.cells (List.toArray [.int .i64 b, .int .i64 r]) 25)).alloc (.cells (List.toArray [.int .i64 sr, .int .i64 sd]) 31)).alloc (.cells (List.toArray [.int .i64 0, .int .i64 0]) 25)) w.heap.size 25 [.int .i64 b, .int .i64 r] := ((Blk.new w _ _).alloc _).alloc _
  have b1 : Blk (((w.alloc (.cells (List.toArray [.int .i64 b, .int .i64 r]) 25)).alloc (.cells (List.toArray [.int .i64 sr, .int .i64 sd]) 31)).alloc (.cells (List.toArray [.int .i64 0, .int .i64 0]) 25)) (w.heap.size + 1) 31 [.int .i64 sr, .int .i64 sd] := by have h := (Blk.new (w.alloc (.cells (List.toArray [.int .i64 b, .int .i64 r]) 25)) 31 [.int .i64 sr, .int .i64 sd]).alloc (.cells (List.toArray [.int .i64 0, .int .i64 0]) 25); rwa [World.size_alloc] at h
  have b2 : Blk (((w.alloc (.cells (List.toArray [.int .i64 b, .int .i64 r]) 25)).alloc (.cells (List.toArray [.int .i64 sr, .int .i64 sd]) 31)).alloc (.cells (List.toArray [.int .i64 0, .int .i64 0]) 25)) (w.heap.size + 2) 25 [.int .i64 0, .int .i64 0] := by have h := Blk.new ((w.alloc (.cells (List.toArray [.int .i64 b, .int .i64 r]) 25)).alloc (.cells (List.toArray [.int .i64 sr, .int .i64 sd]) 31)) 25 [.int .i64 0, .int .i64 0]; rwa [World.size_alloc, World.size_alloc] at h
  have z0 : Below w.heap.size w (((w.alloc (.cells (List.toArray [.int .i64 b, .int .i64 r]) 25)).alloc (.cells (List.toArray [.int .i64 sr, .int .i64 sd]) 31)).alloc (.cells (List.toArray [.int .i64 0, .int .i64 0]) 25)) := ext_alloc (ext_alloc (ext_alloc (ext_refl w) _) _) _
  cases h1 : bothB b r sr sd with
  | false =>
    have e0 : outB b r sr sd = false := by simp [outB, h1]
    have e1 : outBu b r sr sd = 0 := by simp [outBu, e0]
    have e2 : outRa b r sr sd = 0 := by simp [outRa, e0]
    have HI := Lib.hid (show backlogI b r sr sd = 0 by simp [backlogI, h1])
    rw [e0, e1, e2]
    clear e0 e1 e2
    go_enter Try.func32, Try.ntmps32
    go_wp2_with fail
    refine (implBacklogBound_any _ _ _ _ _).mono ?_; rintro e w1 ⟨rfl, hb1⟩
    rw [HI.out, h1]
    have c1 := b2.below hb1
    have c0 := b0.below hb1
    have z1 := ext_trans z0 hb1
    obtain ⟨y1, x1, d1, f1⟩ := c1.two
    obtain ⟨y0, x0, d0, f0⟩ := c0.two
    clear hb1
    go_wp2_with fail
    exact bodyPost_ret (v := .tuple #[.agg #[.int .i64 0, .int .i64 0], .bool false]) (res_cell2 Try.results32 _ rfl (((c1.set_ 0 (.int .i64 0)).set_ 1 (.int .i64 0)).alloc _) Try.underlying25 rfl (by kernel_rfl)) rfl ⟨rfl, ext_alloc ((z1.setCell (p := ⟨w.heap.size + 2, 0, none⟩) (by simp) (.int .i64 0)).setCell (p := ⟨w.heap.size + 2, 1, none⟩) (by simp) (.int .i64 0)) _⟩
  | true =>
    have hh := bothB_iff.1 h1
    have HI := Lib.hid (show backlogI b r sr sd = b + r * sd by simp [backlogI, h1])
    cases h2 : isInflowB (b + r * sd) r with
    | false =>
      have e0 : outB b r sr sd = false := by simp [outB, h2]
      have e1 : outBu b r sr sd = 0 := by simp [outBu, e0]
      have e2 : outRa b r sr sd = 0 := by simp [outRa, e0]
      rw [e0, e1, e2]
      clear e0 e1 e2
      go_enter Try.func32, Try.ntmps32
      go_wp2_with fail
      refine (implBacklogBound_any _ _ _ _ _).mono ?_; rintro e w1 ⟨rfl, hb1⟩
      rw [HI.out, h1]
      have c1 := (b2.below hb1).alloc (.cells (List.toArray [.int .i64 (b + r * sd), .int .i64 r]) 25)
      have c0 := b0.below hb1
      have z1 := ext_alloc (ext_trans z0 hb1) (.cells (List.toArray [.int .i64 (b + r * sd), .int .i64 r]) 25)
      obtain ⟨y0, x0, d0, f0⟩ := c0.two
      clear hb1
      go_wp2_with fail
      refine (implIsInflow_any _ _ _).mono ?_; rintro e w2 ⟨rfl, hb2⟩
      rw [h2]
      have c2 := c1.below hb2
      have z2 := ext_trans z1 hb2
      clear y0 x0 d0 f0 hb2
      obtain ⟨y1, x1, d1, f1⟩ := c2.two
      go_wp2_with fail
      exact bodyPost_ret (v := .tuple #[.agg #[.int .i64 0, .int .i64 0], .bool false]) (res_cell2 Try.results32 _ rfl ((c2.set_ 0 (.int .i64 0)).set_ 1 (.int .i64 0)) Try.underlying25 rfl (by kernel_rfl)) rfl ⟨rfl, ((z2.setCell (p := ⟨w.heap.size + 2, 0, none⟩) (by simp) (.int .i64 0)).setCell (p := ⟨w.heap.size + 2, 1, none⟩) (by simp) (.int .i64 0))⟩
    | true =>
      have e0 : outB b r sr sd = true := by simp [outB, h1, h2]
      have e1 : outBu b r sr sd = b + r * sd := by simp [outBu, e0]
      have e2 : outRa b r sr sd = r := by simp [outRa, e0]
      rw [e0, e1, e2]
      clear e0 e1 e2
      go_enter Try.func32, Try.ntmps32
      go_wp2_with fail
      refine (implBacklogBound_any _ _ _ _ _).mono ?_; rintro e w1 ⟨rfl, hb1⟩
      rw [HI.out, h1]
      have c1 := (b2.below hb1).alloc (.cells (List.toArray [.int .i64 (b + r * sd), .int .i64 r]) 25)
      have co := Blk.new w1 25 [.int .i64 (b + r * sd), .int .i64 r]
      have c0 := b0.below hb1
      have z1 := ext_alloc (ext_trans z0 hb1) (.cells (List.toArray [.int .i64 (b + r * sd), .int .i64 r]) 25)
      obtain ⟨y0, x0, d0, f0⟩ := c0.two
      clear hb1
      go_wp2_with fail
      refine (implIsInflow_any _ _ _).mono ?_; rintro e w2 ⟨rfl, hb2⟩
      rw [h2]
      have c2 := c1.below hb2
      have co2 := co.below hb2
      have z2 := ext_trans z1 hb2
      clear y0 x0 d0 f0 hb2
      obtain ⟨y1, x1, d1, f1⟩ := c2.two
      obtain ⟨y3, x3, d3, f3⟩ := co2.two
      go_wp2_with fail
      exact bodyPost_ret (v := .tuple #[.agg #[.int .i64 (b + r * sd), .int .i64 r], .bool true]) (res_cell2 Try.results32 _ rfl ((c2.set_ 0 (.int .i64 (b + r * sd))).set_ 1 (.int .i64 r)) Try.underlying25 rfl (by kernel_rfl)) rfl ⟨rfl, ((z2.setCell (p := ⟨w.heap.size + 2, 0, none⟩) (by simp) (.int .i64 (b + r * sd))).setCell (p := ⟨w.heap.size + 2, 1, none⟩) (by simp) (.int .i64 r))⟩

set_option maxHeartbeats 4000000 in
theorem specOutputInflow_any (b r sr sd : Int) (w : World) :
    Calls Try.prog 31 #[.agg #[.int .i64 b, .int .i64 r], .agg #[.int .i64 sr, .int .i64 sd]] w fun e w' => e = .returned (.tuple #[.agg #[.int .i64 (outBu b r sr sd), .int .i64 (outRa b r sr sd)], .bool (outB b r sr sd)]) ∧ Below w.heap.size w w' := by
  have b0 : Blk (((w.alloc (.cells (List.toArray [.int .i64 b, .int .i64 r]) 25)).alloc (.cells (List.toArray [.int .i64 sr, .int .i64 sd]) 31)).alloc (.cells (List.toArray [.int .i64 0, .int .i64 0]) 25)) w.heap.size 25 [.int .i64 b, .int .i64 r] := ((Blk.new w _ _).alloc _).alloc _
  have b1 : Blk (((w.alloc (.cells (List.toArray [.int .i64 b, .int .i64 r]) 25)).alloc (.cells (List.toArray [.int .i64 sr, .int .i64 sd]) 31)).alloc (.cells (List.toArray [.int .i64 0, .int .i64 0]) 25)) (w.heap.size + 1) 31 [.int .i64 sr, .int .i64 sd] := by have h := (Blk.new (w.alloc (.cells (List.toArray [.int .i64 b, .int .i64 r]) 25)) 31 [.int .i64 sr, .int .i64 sd]).alloc (.cells (List.toArray [.int .i64 0, .int .i64 0]) 25); rwa [World.size_alloc] at h
  have b2 : Blk (((w.alloc (.cells (List.toArray [.int .i64 b, .int .i64 r]) 25)).alloc (.cells (List.toArray [.int .i64 sr, .int .i64 sd]) 31)).alloc (.cells (List.toArray [.int .i64 0, .int .i64 0]) 25)) (w.heap.size + 2) 25 [.int .i64 0, .int .i64 0] := by have h := Blk.new ((w.alloc (.cells (List.toArray [.int .i64 b, .int .i64 r]) 25)).alloc (.cells (List.toArray [.int .i64 sr, .int .i64 sd]) 31)) 25 [.int .i64 0, .int .i64 0]; rwa [World.size_alloc, World.size_alloc] at h
  have z0 : Below w.heap.size w (((w.alloc (.cells (List.toArray [.int .i64 b, .int .i64 r]) 25)).alloc (.cells (List.toArray [.int .i64 sr, .int .i64 sd]) 31)).alloc (.cells (List.toArray [.int .i64 0, .int .i64 0]) 25)) := ext_alloc (ext_alloc (ext_alloc (ext_refl w) _) _) _
  cases h1 : bothB b r sr sd with
  | false =>
    have e0 : outB b r sr sd = false := by simp [outB, h1]
    have e1 : outBu b r sr sd = 0 := by simp [outBu, e0]
    have e2 : outRa b r sr sd = 0 := by simp [outRa, e0]
    rw [e0, e1, e2]
    clear e0 e1 e2
    go_enter Try.func31, Try.ntmps31
    go_wp2_with fail
    refine (bnBoth_any _ _ _ _ _).mono ?_; rintro e w1 ⟨rfl, hb1⟩
    rw [h1]
    have c1 := b2.below hb1
    have z1 := ext_trans z0 hb1
    obtain ⟨y1, x1, d1, f1⟩ := c1.two
    clear hb1
    go_wp2_with fail
    exact bodyPost_ret (v := .tuple #[.agg #[.int .i64 0, .int .i64 0], .bool false]) (res_cell2 Try.results31 _ rfl ((c1.set_ 0 (.int .i64 0)).set_ 1 (.int .i64 0)) Try.underlying25 rfl (by kernel_rfl)) rfl ⟨rfl, ((z1.setCell (p := ⟨w.heap.size + 2, 0, none⟩) (by simp) (.int .i64 0)).setCell (p := ⟨w.heap.size + 2, 1, none⟩) (by simp) (.int .i64 0))⟩
  | true =>
    have hh := bothB_iff.1 h1
    obtain ⟨m1, m2⟩ := mul_bd hh.1.2.1 hh.1.2.2 hh.2.1.2.1 hh.2.1.2.2
    simp only [Int.reduceMul] at m2
    have e0 : outB b r sr sd = isInflowB (b + r * sd) r := by simp [outB, h1]
    have e1 : outBu b r sr sd = fp (isInflowB (b + r * sd) r) (b + r * sd) := by simp [outBu, e0, fp]
    have e2 : outRa b r sr sd = fp (isInflowB (b + r * sd) r) r := by simp [outRa, e0, fp]
    rw [e0, e1, e2]
    clear e0 e1 e2
    go_enter Try.func31, Try.ntmps31
    go_wp2_with fail
    refine (bnBoth_any _ _ _ _ _).mono ?_; rintro e w1 ⟨rfl, hb1⟩
    rw [h1]
    have c0 := b0.below hb1
    have c1 := b1.below hb1
    have c2 := b2.below hb1
    have z1 := ext_trans z0 hb1
    clear hb1 b0 b1 b2 z0
    obtain ⟨y0, x0, d0, f0⟩ := c0.two
    obtain ⟨y1, x1, d1, f1⟩ := c1.two
    obtain ⟨y2, x2, d2, f2⟩ := c2.two
    go_wp2_with fail
    go_region_with (first | (go_at_call 62; refine (bnBacklog_any _ _ _ _ _ (by omega) (by omega) (by omega) (by omega)).mono ?_; rintro e w2 ⟨rfl, hb2⟩; have c3 := c0.drew.below hb2; have c4 := c2.drew.below hb2; have z2 := ext_trans z1.drew hb2; obtain ⟨y3, x3, d3, f3⟩ := c3.two) | (go_at_call 69; refine (bnIf_any _ _ _).mono ?_; rintro e w3 ⟨rfl, hb3⟩; have c5 := c4.below hb3; have z3 := ext_trans z2 hb3; obtain ⟨y4, x4, d4, f4⟩ := c5.two))
    all_goals go_wp2_with fail
    all_goals exact bodyPost_ret (v := .tuple #[.agg #[.int .i64 (fp (isInflowB (b + r * sd) r) (b + r * sd)), .int .i64 (fp (isInflowB (b + r * sd) r) r)], .bool (isInflowB (b + r * sd) r)]) (res_cell2 Try.results31 _ rfl ((c5.set_ 0 (.int .i64 (fp (isInflowB (b + r * sd) r) (b + r * sd)))).set_ 1 (.int .i64 (fp (isInflowB (b + r * sd) r) r))) Try.underlying25 rfl (by kernel_rfl)) rfl ⟨rfl, ((z3.setCell (p := ⟨w.heap.size + 2, 0, none⟩) (by simp) (.int .i64 (fp (isInflowB (b + r * sd) r) (b + r * sd)))).setCell (p := ⟨w.heap.size + 2, 1, none⟩) (by simp) (.int .i64 (fp (isInflowB (b + r * sd) r) r)))⟩

end Go.Proofs.Ytmmelpgnfjjokaa