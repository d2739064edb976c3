/- Contracts of FullPolicer and PolicePacket, the program's and the reference's: both return the same. -/
import Derived.Test.YtdhojfkdbpghmaaPoB
import Derived.Deep.RegionHeld3
namespace Go.Proofs.Ytdhojfkdbpghmaa
open Go.RowKit

def fp (b : Bool) (x : Int) : Int := if b then x else 0
def fullB (a b c d : Int) : Bool := policerB a b b c d d

set_option maxHeartbeats 1000000 in
theorem implFullPolicer_any (a b c d : Int) (w : World) :
    Calls Try.prog 21 #[.int .i64 a, .int .i64 b, .int .i64 c, .int .i64 d] w fun e w' => e = .returned (.tuple #[.agg #[.int .i64 (fp (fullB a b c d) a), .int .i64 (fp (fullB a b c d) b), .int .i64 (fp (fullB a b c d) b), .int .i64 (fp (fullB a b c d) c), .int .i64 (fp (fullB a b c d) d), .int .i64 (fp (fullB a b c d) d)], .bool (fullB a b c d)]) ∧ Below w.heap.size w w' := by
  have br0 : Blk ((w.alloc (.cells (List.toArray [.int .i64 0, .int .i64 0, .int .i64 0, .int .i64 0, .int .i64 0, .int .i64 0]) 29)).alloc (.cells (List.toArray [.int .i64 a, .int .i64 b, .int .i64 b, .int .i64 c, .int .i64 d, .int .i64 d]) 29)) w.heap.size 29 [.int .i64 0, .int .i64 0, .int .i64 0, .int .i64 0, .int .i64 0, .int .i64 0] := (Blk.new w 29 [.int .i64 0, .int .i64 0, .int .i64 0, .int .i64 0, .int .i64 0, .int .i64 0]).alloc _
  have bp0 : Blk ((w.alloc (.cells (List.toArray [.int .i64 0, .int .i64 0, .int .i64 0, .int .i64 0, .int .i64 0, .int .i64 0]) 29)).alloc (.cells (List.toArray [.int .i64 a, .int .i64 b, .int .i64 b, .int .i64 c, .int .i64 d, .int .i64 d]) 29)) (w.heap.size + 1) 29 [.int .i64 a, .int .i64 b, .int .i64 b, .int .i64 c, .int .i64 d, .int .i64 d] := by have h := Blk.new (w.alloc (.cells (List.toArray [.int .i64 0, .int .i64 0, .int .i64 0, .int .i64 0, .int .i64 0, .int .i64 0]) 29)) 29 [.int .i64 a, .int .i64 b, .int .i64 b, .int .i64 c, .int .i64 d, .int .i64 d]; rwa [World.size_alloc] at h
  have z0 : Below w.heap.size w ((w.alloc (.cells (List.toArray [.int .i64 0, .int .i64 0, .int .i64 0, .int .i64 0, .int .i64 0, .int .i64 0]) 29)).alloc (.cells (List.toArray [.int .i64 a, .int .i64 b, .int .i64 b, .int .i64 c, .int .i64 d, .int .i64 d]) 29)) := ext_alloc (ext_alloc (ext_refl w) _) _
  cases h : fullB a b c d with
  | false =>
    have hf : ∀ x, fp false x = 0 := fun x => rfl
    simp only [hf]
    clear hf
    go_enter Try.func21, Try.ntmps21
    go_wp2_with fail
    refine (implIsPolicer_any _ _ _ _ _ _ _).mono ?_; rintro e w1 ⟨rfl, hb1⟩
    have hu : policerB a b b c d d = false := h
    rw [hu]
    clear hu
    have br1 := br0.below hb1
    have bp1 := bp0.below hb1
    obtain ⟨y1, x1, c1, f1⟩ := br1.six
    obtain ⟨y2, x2, c2, f2⟩ := bp1.six
    go_wp2_with fail
    exact bodyPost_ret (v := .tuple #[.agg #[.int .i64 0, .int .i64 0, .int .i64 0, .int .i64 0, .int .i64 0, .int .i64 0], .bool false]) (res_cell2 Try.results21 _ rfl ((((((br1.set_ 0 (.int .i64 0)).set_ 1 (.int .i64 0)).set_ 2 (.int .i64 0)).set_ 3 (.int .i64 0)).set_ 4 (.int .i64 0)).set_ 5 (.int .i64 0)) Try.underlying29 rfl (by kernel_rfl)) rfl ⟨rfl, (((((((ext_trans z0 hb1).setCell (p := ⟨w.heap.size, 0, none⟩) (by simp) (.int .i64 0)).setCell (p := ⟨w.heap.size, 1, none⟩) (by simp) (.int .i64 0)).setCell (p := ⟨w.heap.size, 2, none⟩) (by simp) (.int .i64 0)).setCell (p := ⟨w.heap.size, 3, none⟩) (by simp) (.int .i64 0)).setCell (p := ⟨w.heap.size, 4, none⟩) (by simp) (.int .i64 0)).setCell (p := ⟨w.heap.size, 5, none⟩) (by simp) (.int .i64 0))⟩
  | true =>
    have hf : ∀ x, fp true x = x := fun x => rfl
    simp only [hf]
    clear hf
    go_enter Try.func21, Try.ntmps21
    go_wp2_with fail
    refine (implIsPolicer_any _ _ _ _ _ _ _).mono ?_; rintro e w1 ⟨rfl, hb1⟩
    have hu : policerB a b b c d d = true := h
    rw [hu]
    clear hu
    have br1 := br0.below hb1
    have bp1 := bp0.below hb1
    obtain ⟨y1, x1, c1, f1⟩ := br1.six
    obtain ⟨y2, x2, c2, f2⟩ := bp1.six
    go_wp2_with fail
    exact bodyPost_ret (v := .tuple #[.agg #[.int .i64 a, .int .i64 b, .int .i64 b, .int .i64 c, .int .i64 d, .int .i64 d], .bool true]) (res_cell2 Try.results21 _ rfl ((((((br1.set_ 0 (.int .i64 a)).set_ 1 (.int .i64 b)).set_ 2 (.int .i64 b)).set_ 3 (.int .i64 c)).set_ 4 (.int .i64 d)).set_ 5 (.int .i64 d)) Try.underlying29 rfl (by kernel_rfl)) rfl ⟨rfl, (((((((ext_trans z0 hb1).setCell (p := ⟨w.heap.size, 0, none⟩) (by simp) (.int .i64 a)).setCell (p := ⟨w.heap.size, 1, none⟩) (by simp) (.int .i64 b)).setCell (p := ⟨w.heap.size, 2, none⟩) (by simp) (.int .i64 b)).setCell (p := ⟨w.heap.size, 3, none⟩) (by simp) (.int .i64 c)).setCell (p := ⟨w.heap.size, 4, none⟩) (by simp) (.int .i64 d)).setCell (p := ⟨w.heap.size, 5, none⟩) (by simp) (.int .i64 d))⟩

set_option maxHeartbeats 1000000 in
theorem specFullPolicer_any (a b c d : Int) (w : World) :
    Calls Try.prog 20 #[.int .i64 a, .int .i64 b, .int .i64 c, .int .i64 d] w fun e w' => e = .returned (.tuple #[.agg #[.int .i64 (fp (fullB a b c d) a), .int .i64 (fp (fullB a b c d) b), .int .i64 (fp (fullB a b c d) b), .int .i64 (fp (fullB a b c d) c), .int .i64 (fp (fullB a b c d) d), .int .i64 (fp (fullB a b c d) d)], .bool (fullB a b c d)]) ∧ Below w.heap.size w w' := by
  have br0 : Blk ((w.alloc (.cells (List.toArray [.int .i64 0, .int .i64 0, .int .i64 0, .int .i64 0, .int .i64 0, .int .i64 0]) 29)).alloc (.cells (List.toArray [.int .i64 a, .int .i64 b, .int .i64 b, .int .i64 c, .int .i64 d, .int .i64 d]) 29)) w.heap.size 29 [.int .i64 0, .int .i64 0, .int .i64 0, .int .i64 0, .int .i64 0, .int .i64 0] := (Blk.new w 29 [.int .i64 0, .int .i64 0, .int .i64 0, .int .i64 0, .int .i64 0, .int .i64 0]).alloc _
  have bp0 : Blk ((w.alloc (.cells (List.toArray [.int .i64 0, .int .i64 0, .int .i64 0, .int .i64 0, .int .i64 0, .int .i64 0]) 29)).alloc (.cells (List.toArray [.int .i64 a, .int .i64 b, .int .i64 b, .int .i64 c, .int .i64 d, .int .i64 d]) 29)) (w.heap.size + 1) 29 [.int .i64 a, .int .i64 b, .int .i64 b, .int .i64 c, .int .i64 d, .int .i64 d] := by have h := Blk.new (w.alloc (.cells (List.toArray [.int .i64 0, .int .i64 0, .int .i64 0, .int .i64 0, .int .i64 0, .int .i64 0]) 29)) 29 [.int .i64 a, .int .i64 b, .int .i64 b, .int .i64 c, .int .i64 d, .int .i64 d]; rwa [World.size_alloc] at h
  have z0 : Below w.heap.size w ((w.alloc (.cells (List.toArray [.int .i64 0, .int .i64 0, .int .i64 0, .int .i64 0, .int .i64 0, .int .i64 0]) 29)).alloc (.cells (List.toArray [.int .i64 a, .int .i64 b, .int .i64 b, .int .i64 c, .int .i64 d, .int .i64 d]) 29)) := ext_alloc (ext_alloc (ext_refl w) _) _
  cases h : fullB a b c d with
  | false =>
    have hf : ∀ x, fp false x = 0 := fun x => rfl
    simp only [hf]
    clear hf
    go_enter Try.func20, Try.ntmps20
    go_wp2_with fail
    refine (poGood_any _ _ _ _ _ _ _).mono ?_; rintro e w1 ⟨rfl, hb1⟩
    have hu : policerB a b b c d d = false := h
    rw [hu]
    clear hu
    have br1 := br0.below hb1
    have bp1 := bp0.below hb1
    obtain ⟨y1, x1, c1, f1⟩ := br1.six
    obtain ⟨y2, x2, c2, f2⟩ := bp1.six
    go_wp2_with fail
    exact bodyPost_ret (v := .tuple #[.agg #[.int .i64 0, .int .i64 0, .int .i64 0, .int .i64 0, .int .i64 0, .int .i64 0], .bool false]) (res_cell2 Try.results20 _ rfl ((((((br1.set_ 0 (.int .i64 0)).set_ 1 (.int .i64 0)).set_ 2 (.int .i64 0)).set_ 3 (.int .i64 0)).set_ 4 (.int .i64 0)).set_ 5 (.int .i64 0)) Try.underlying29 rfl (by kernel_rfl)) rfl ⟨rfl, (((((((ext_trans z0 hb1).setCell (p := ⟨w.heap.size, 0, none⟩) (by simp) (.int .i64 0)).setCell (p := ⟨w.heap.size, 1, none⟩) (by simp) (.int .i64 0)).setCell (p := ⟨w.heap.size, 2, none⟩) (by simp) (.int .i64 0)).setCell (p := ⟨w.heap.size, 3, none⟩) (by simp) (.int .i64 0)).setCell (p := ⟨w.heap.size, 4, none⟩) (by simp) (.int .i64 0)).setCell (p := ⟨w.heap.size, 5, none⟩) (by simp) (.int .i64 0))⟩
  | true =>
    have hf : ∀ x, fp true x = x := fun x => rfl
    simp only [hf]
    clear hf
    go_enter Try.func20, Try.ntmps20
    go_wp2_with fail
    refine (poGood_any _ _ _ _ _ _ _).mono ?_; rintro e w1 ⟨rfl, hb1⟩
    have hu : policerB a b b c d d = true := h
    rw [hu]
    clear hu
    have br1 := br0.below hb1
    have bp1 := bp0.below hb1
    obtain ⟨y1, x1, c1, f1⟩ := br1.six
    obtain ⟨y2, x2, c2, f2⟩ := bp1.six
    go_wp2_with fail
    exact bodyPost_ret (v := .tuple #[.agg #[.int .i64 a, .int .i64 b, .int .i64 b, .int .i64 c, .int .i64 d, .int .i64 d], .bool true]) (res_cell2 Try.results20 _ rfl ((((((br1.set_ 0 (.int .i64 a)).set_ 1 (.int .i64 b)).set_ 2 (.int .i64 b)).set_ 3 (.int .i64 c)).set_ 4 (.int .i64 d)).set_ 5 (.int .i64 d)) Try.underlying29 rfl (by kernel_rfl)) rfl ⟨rfl, (((((((ext_trans z0 hb1).setCell (p := ⟨w.heap.size, 0, none⟩) (by simp) (.int .i64 a)).setCell (p := ⟨w.heap.size, 1, none⟩) (by simp) (.int .i64 b)).setCell (p := ⟨w.heap.size, 2, none⟩) (by simp) (.int .i64 b)).setCell (p := ⟨w.heap.size, 3, none⟩) (by simp) (.int .i64 c)).setCell (p := ⟨w.heap.size, 4, none⟩) (by simp) (.int .i64 d)).setCell (p := ⟨w.heap.size, 5, none⟩) (by simp) (.int .i64 d))⟩

set_option maxHeartbeats 1000000 in
theorem poAfter_any (lr lc lt hr hc ht size c : Int) (hcc : c = 0 ∨ c = 1 ∨ c = 2) (h0 : 0 ≤ lt) (h1 : lt ≤ 1000000) (h2 : 0 ≤ ht) (h3 : ht ≤ 1000000) (h4 : 0 ≤ size) (h5 : size ≤ 1500) (w : World) :
    Calls Try.prog 57 #[.agg #[.int .i64 lr, .int .i64 lc, .int .i64 lt, .int .i64 hr, .int .i64 hc, .int .i64 ht], .int .i64 size, .int .i64 c] w fun e w' => e = .returned (.agg #[.int .i64 lr, .int .i64 lc, .int .i64 (lowAfter lt size c), .int .i64 hr, .int .i64 hc, .int .i64 (highAfter ht size c)]) ∧ Below w.heap.size w w' := by
  rcases hcc with rfl | rfl | rfl
  · have e1 : lowAfter lt size 0 = lt := by simp [lowAfter]
    have e2 : highAfter ht size 0 = ht := by simp [highAfter]
    rw [e1, e2]
    clear e1 e2
    go_enter Try.func57, Try.ntmps57
    go_wp2
    have hB : Blk ((w.alloc (.cells (List.toArray [.int .i64 lr, .int .i64 lc, .int .i64 lt, .int .i64 hr, .int .i64 hc, .int .i64 ht]) 29)).alloc (.cells (List.toArray [.int .i64 lr, .int .i64 lc, .int .i64 lt, .int .i64 hr, .int .i64 hc, .int .i64 ht]) 29)) (w.heap.size + 1) 29 [.int .i64 lr, .int .i64 lc, .int .i64 lt, .int .i64 hr, .int .i64 hc, .int .i64 ht] := by have h := Blk.new (w.alloc (.cells (List.toArray [.int .i64 lr, .int .i64 lc, .int .i64 lt, .int .i64 hr, .int .i64 hc, .int .i64 ht]) 29)) 29 [.int .i64 lr, .int .i64 lc, .int .i64 lt, .int .i64 hr, .int .i64 hc, .int .i64 ht]; rwa [World.size_alloc] at h
    exact bodyPost_ret (v := .agg #[.int .i64 lr, .int .i64 lc, .int .i64 lt, .int .i64 hr, .int .i64 hc, .int .i64 ht]) (res_cell1 Try.results57 _ rfl hB Try.underlying29 rfl (by kernel_rfl)) rfl ⟨rfl, ext_alloc (ext_alloc (ext_refl w) _) _⟩
  · have e1 : lowAfter lt size 1 = lt := by simp [lowAfter]
    have e2 : highAfter ht size 1 = ht - size := by simp [highAfter]
    rw [e1, e2]
    clear e1 e2
    go_enter Try.func57, Try.ntmps57
    go_wp2
    have hB : Blk ((w.alloc (.cells (List.toArray [.int .i64 lr, .int .i64 lc, .int .i64 lt, .int .i64 hr, .int .i64 hc, .int .i64 (ht - size)]) 29)).alloc (.cells (List.toArray [.int .i64 lr, .int .i64 lc, .int .i64 lt, .int .i64 hr, .int .i64 hc, .int .i64 (ht - size)]) 29)) (w.heap.size + 1) 29 [.int .i64 lr, .int .i64 lc, .int .i64 lt, .int .i64 hr, .int .i64 hc, .int .i64 (ht - size)] := by have h := Blk.new (w.alloc (.cells (List.toArray [.int .i64 lr, .int .i64 lc, .int .i64 lt, .int .i64 hr, .int .i64 hc, .int .i64 (ht - size)]) 29)) 29 [.int .i64 lr, .int .i64 lc, .int .i64 lt, .int .i64 hr, .int .i64 hc, .int .i64 (ht - size)]; rwa [World.size_alloc] at h
    exact bodyPost_ret (v := .agg #[.int .i64 lr, .int .i64 lc, .int .i64 lt, .int .i64 hr, .int .i64 hc, .int .i64 (ht - size)]) (res_cell1 Try.results57 _ rfl hB Try.underlying29 rfl (by kernel_rfl)) rfl ⟨rfl, ext_alloc (ext_alloc (ext_refl w) _) _⟩
  · have e1 : lowAfter lt size 2 = lt - size := by simp [lowAfter]
    have e2 : highAfter ht size 2 = ht - size := by simp [highAfter]
    rw [e1, e2]
    clear e1 e2
    go_enter Try.func57, Try.ntmps57
    go_wp2
    have hB : Blk ((w.alloc (.cells (List.toArray [.int .i64 lr, .int .i64 lc, .int .i64 (lt - size), .int .i64 hr, .int .i64 hc, .int .i64 (ht - size)]) 29)).alloc (.cells (List.toArray [.int .i64 lr, .int .i64 lc, .int .i64 (lt - size), .int .i64 hr, .int .i64 hc, .int .i64 (ht - size)]) 29)) (w.heap.size + 1) 29 [.int .i64 lr, .int .i64 lc, .int .i64 (lt - size), .int .i64 hr, .int .i64 hc, .int .i64 (ht - size)] := by have h := Blk.new (w.alloc (.cells (List.toArray [.int .i64 lr, .int .i64 lc, .int .i64 (lt - size), .int .i64 hr, .int .i64 hc, .int .i64 (ht - size)]) 29)) 29 [.int .i64 lr, .int .i64 lc, .int .i64 (lt - size), .int .i64 hr, .int .i64 hc, .int .i64 (ht - size)]; rwa [World.size_alloc] at h
    exact bodyPost_ret (v := .agg #[.int .i64 lr, .int .i64 lc, .int .i64 (lt - size), .int .i64 hr, .int .i64 hc, .int .i64 (ht - size)]) (res_cell1 Try.results57 _ rfl hB Try.underlying29 rfl (by kernel_rfl)) rfl ⟨rfl, ext_alloc (ext_alloc (ext_refl w) _) _⟩

set_option maxHeartbeats 1000000 in
theorem police_any (lr lc lt hr hc ht size given : Int) (g : Nat) (t : TypeId) (w : World) (h0 : 0 ≤ lt) (h1 : lt ≤ 1000000) (h2 : 0 ≤ ht) (h3 : ht ≤ 1000000) (h4 : 0 ≤ size) (h5 : size ≤ 1500) (b0 : Blk w g t [.int .i64 lr, .int .i64 lc, .int .i64 lt, .int .i64 hr, .int .i64 hc, .int .i64 ht]) :
    Calls Try.prog 58 #[.pointer (some ⟨g, 0, none⟩), .int .i64 size, .int .i64 given] w fun e w' => e = .returned (.int .i64 (colourI lt ht size given)) ∧ Blk w' g t [.int .i64 lr, .int .i64 lc, .int .i64 (lowAfter lt size (colourI lt ht size given)), .int .i64 hr, .int .i64 hc, .int .i64 (highAfter ht size (colourI lt ht size given))] ∧ w.grownBy w' (some g) := by
  obtain ⟨y0, x0, c0, f0⟩ := b0.six
  have hcol := colour_cases lt ht size given
  go_enter Try.func58, Try.ntmps58
  go_wp2_with fail
  refine (colourOf_any _ _ _ _ _ _ _ _ _).mono ?_; rintro e w1 ⟨rfl, hb1⟩
  have b1 := b0.below hb1
  have g1 : w.grownBy w1 (some g) := ⟨hb1.os, hb1.tape, hb1.output, hb1.size, fun k hk _ => hb1.block k hk⟩
  clear y0 x0 c0 f0 hb1
  obtain ⟨y1, x1, c1, f1⟩ := b1.six
  generalize hcc : colourI lt ht size given = c at hcol ⊢
  have HC := Lib.hid hcc
  clear hcc
  rcases hcol with rfl | rfl | rfl
  · go_wp2_with fail
    go_ret
    exact ⟨by rw [HC.out]; rfl, by rw [HC.out]; simpa [lowAfter, highAfter] using b1, g1⟩
  · go_wp2_with fail
    go_ret
    exact ⟨by rw [HC.out]; rfl, by rw [HC.out]; simpa [lowAfter, highAfter] using b1.set_ 5 (.int .i64 (ht - size)), grownBy_setCell g1 _ _⟩
  · go_wp2_with fail
    go_ret
    exact ⟨by rw [HC.out]; rfl, by rw [HC.out]; simpa [lowAfter, highAfter] using (b1.set_ 5 (.int .i64 (ht - size))).set_ 2 (.int .i64 (lt - size)), grownBy_setCell (grownBy_setCell g1 _ _) _ _⟩

end Go.Proofs.Ytdhojfkdbpghmaa