/- Contracts of PolicePacket, the program's and the reference's: both return the same. -/
import Derived.Test.YtdhojfkdbpghmaaPoC
import Derived.Deep.RegionHeld3
namespace Go.Proofs.Ytdhojfkdbpghmaa
open Go.RowKit

set_option maxHeartbeats 2000000 in
theorem specPolicePacket_any (lr lc lt hr hc ht size given : Int) (w : World) :
    Calls Try.prog 33 #[.agg #[.int .i64 lr, .int .i64 lc, .int .i64 lt, .int .i64 hr, .int .i64 hc, .int .i64 ht], .int .i64 size, .int .i64 given] w fun e w' => e = .returned (.tuple #[.agg #[.int .i64 (fp (awareB lr lc lt hr hc ht size given) lr), .int .i64 (fp (awareB lr lc lt hr hc ht size given) lc), .int .i64 (fp (awareB lr lc lt hr hc ht size given) (lowAfter lt size (colourI lt ht size given))), .int .i64 (fp (awareB lr lc lt hr hc ht size given) hr), .int .i64 (fp (awareB lr lc lt hr hc ht size given) hc), .int .i64 (fp (awareB lr lc lt hr hc ht size given) (highAfter ht size (colourI lt ht size given)))], .int .i64 (awareI lr lc lt hr hc ht size given), .bool (awareB lr lc lt hr hc ht size given)]) ∧ Below w.heap.size w w' := by
  have b0 : Blk ((w.alloc (.cells (List.toArray [.int .i64 lr, .int .i64 lc, .int .i64 lt, .int .i64 hr, .int .i64 hc, .int .i64 ht]) 29)).alloc (.cells (List.toArray [.int .i64 0, .int .i64 0, .int .i64 0, .int .i64 0, .int .i64 0, .int .i64 0]) 29)) w.heap.size 29 [.int .i64 lr, .int .i64 lc, .int .i64 lt, .int .i64 hr, .int .i64 hc, .int .i64 ht] := (Blk.new w 29 [.int .i64 lr, .int .i64 lc, .int .i64 lt, .int .i64 hr, .int .i64 hc, .int .i64 ht]).alloc _
  have br0 : Blk ((w.alloc (.cells (List.toArray [.int .i64 lr, .int .i64 lc, .int .i64 lt, .int .i64 hr, .int .i64 hc, .int .i64 ht]) 29)).alloc (.cells (List.toArray [.int .i64 0, .int .i64 0, .int .i64 0, .int .i64 0, .int .i64 0, .int .i64 0]) 29)) (w.heap.size + 1) 29 [.int .i64 0, .int .i64 0, .int .i64 0, .int .i64 0, .int .i64 0, .int .i64 0] := by have h := Blk.new (w.alloc (.cells (List.toArray [.int .i64 lr, .int .i64 lc, .int .i64 lt, .int .i64 hr, .int .i64 hc, .int .i64 ht]) 29)) 29 [.int .i64 0, .int .i64 0, .int .i64 0, .int .i64 0, .int .i64 0, .int .i64 0]; rwa [World.size_alloc] at h
  have z0 : Below w.heap.size w ((w.alloc (.cells (List.toArray [.int .i64 lr, .int .i64 lc, .int .i64 lt, .int .i64 hr, .int .i64 hc, .int .i64 ht]) 29)).alloc (.cells (List.toArray [.int .i64 0, .int .i64 0, .int .i64 0, .int .i64 0, .int .i64 0, .int .i64 0]) 29)) := ext_alloc (ext_alloc (ext_refl w) _) _
  cases h1 : policerB lr lc lt hr hc ht with
  | false =>
    have hg : awareB lr lc lt hr hc ht size given = false := by simp [awareB, h1]
    rw [hg]
    have hf : ∀ x, fp false x = 0 := fun x => rfl
    simp only [hf, awareI, hg, Bool.false_eq_true, if_false]
    clear hf hg
    go_enter Try.func33, Try.ntmps33
    go_wp2_with (first | (go_at_call 43; refine (poGood_any _ _ _ _ _ _ _).mono ?_; rintro e w1 ⟨rfl, hb1⟩; have b1 := b0.below hb1; have br1 := br0.below hb1; have z1 := ext_trans z0 hb1; obtain ⟨y1, x1, c1, f1⟩ := b1.six; obtain ⟨yr1, xr1, cr1, fr1⟩ := br1.six; clear hb1) | (go_at_call 49; refine (buSize_any _ _).mono ?_; rintro e w' ⟨rfl, rfl⟩) | (go_at_call 50; refine (poColour_any _ _).mono ?_; rintro e w' ⟨rfl, rfl⟩))
    exact bodyPost_ret (v := .tuple #[.agg #[.int .i64 0, .int .i64 0, .int .i64 0, .int .i64 0, .int .i64 0, .int .i64 0], .int .i64 0, .bool false]) (res_cell3 Try.results33 _ rfl ((((((br1.set_ 0 (.int .i64 0)).set_ 1 (.int .i64 0)).set_ 2 (.int .i64 0)).set_ 3 (.int .i64 0)).set_ 4 (.int .i64 0)).set_ 5 (.int .i64 0)) Try.underlying29 rfl (by kernel_rfl)) rfl ⟨rfl, ((((((z1.setCell (p := ⟨w.heap.size + 1, 0, none⟩) (by simp) (.int .i64 0)).setCell (p := ⟨w.heap.size + 1, 1, none⟩) (by simp) (.int .i64 0)).setCell (p := ⟨w.heap.size + 1, 2, none⟩) (by simp) (.int .i64 0)).setCell (p := ⟨w.heap.size + 1, 3, none⟩) (by simp) (.int .i64 0)).setCell (p := ⟨w.heap.size + 1, 4, none⟩) (by simp) (.int .i64 0)).setCell (p := ⟨w.heap.size + 1, 5, none⟩) (by simp) (.int .i64 0))⟩
  | true =>
    cases h2 : inB size 1 1500 with
    | false =>
      have hg : awareB lr lc lt hr hc ht size given = false := by simp [awareB, h1, h2]
      rw [hg]
      have hf : ∀ x, fp false x = 0 := fun x => rfl
      simp only [hf, awareI, hg, Bool.false_eq_true, if_false]
      clear hf hg
      go_enter Try.func33, Try.ntmps33
      go_wp2_with (first | (go_at_call 43; refine (poGood_any _ _ _ _ _ _ _).mono ?_; rintro e w1 ⟨rfl, hb1⟩; have b1 := b0.below hb1; have br1 := br0.below hb1; have z1 := ext_trans z0 hb1; obtain ⟨y1, x1, c1, f1⟩ := b1.six; obtain ⟨yr1, xr1, cr1, fr1⟩ := br1.six; clear hb1) | (go_at_call 49; refine (buSize_any _ _).mono ?_; rintro e w' ⟨rfl, rfl⟩) | (go_at_call 50; refine (poColour_any _ _).mono ?_; rintro e w' ⟨rfl, rfl⟩))
      exact bodyPost_ret (v := .tuple #[.agg #[.int .i64 0, .int .i64 0, .int .i64 0, .int .i64 0, .int .i64 0, .int .i64 0], .int .i64 0, .bool false]) (res_cell3 Try.results33 _ rfl ((((((br1.set_ 0 (.int .i64 0)).set_ 1 (.int .i64 0)).set_ 2 (.int .i64 0)).set_ 3 (.int .i64 0)).set_ 4 (.int .i64 0)).set_ 5 (.int .i64 0)) Try.underlying29 rfl (by kernel_rfl)) rfl ⟨rfl, ((((((z1.setCell (p := ⟨w.heap.size + 1, 0, none⟩) (by simp) (.int .i64 0)).setCell (p := ⟨w.heap.size + 1, 1, none⟩) (by simp) (.int .i64 0)).setCell (p := ⟨w.heap.size + 1, 2, none⟩) (by simp) (.int .i64 0)).setCell (p := ⟨w.heap.size + 1, 3, none⟩) (by simp) (.int .i64 0)).setCell (p := ⟨w.heap.size + 1, 4, none⟩) (by simp) (.int .i64 0)).setCell (p := ⟨w.heap.size + 1, 5, none⟩) (by simp) (.int .i64 0))⟩
    | true =>
      cases h3 : inB given 0 2 with
      | false =>
        have hg : awareB lr lc lt hr hc ht size given = false := by simp [awareB, h1, h2, h3]
        rw [hg]
        have hf : ∀ x, fp false x = 0 := fun x => rfl
        simp only [hf, awareI, hg, Bool.false_eq_true, if_false]
        clear hf hg
        go_enter Try.func33, Try.ntmps33
        go_wp2_with (first | (go_at_call 43; refine (poGood_any _ _ _ _ _ _ _).mono ?_; rintro e w1 ⟨rfl, hb1⟩; have b1 := b0.below hb1; have br1 := br0.below hb1; have z1 := ext_trans z0 hb1; obtain ⟨y1, x1, c1, f1⟩ := b1.six; obtain ⟨yr1, xr1, cr1, fr1⟩ := br1.six; clear hb1) | (go_at_call 49; refine (buSize_any _ _).mono ?_; rintro e w' ⟨rfl, rfl⟩) | (go_at_call 50; refine (poColour_any _ _).mono ?_; rintro e w' ⟨rfl, rfl⟩))
        exact bodyPost_ret (v := .tuple #[.agg #[.int .i64 0, .int .i64 0, .int .i64 0, .int .i64 0, .int .i64 0, .int .i64 0], .int .i64 0, .bool false]) (res_cell3 Try.results33 _ rfl ((((((br1.set_ 0 (.int .i64 0)).set_ 1 (.int .i64 0)).set_ 2 (.int .i64 0)).set_ 3 (.int .i64 0)).set_ 4 (.int .i64 0)).set_ 5 (.int .i64 0)) Try.underlying29 rfl (by kernel_rfl)) rfl ⟨rfl, ((((((z1.setCell (p := ⟨w.heap.size + 1, 0, none⟩) (by simp) (.int .i64 0)).setCell (p := ⟨w.heap.size + 1, 1, none⟩) (by simp) (.int .i64 0)).setCell (p := ⟨w.heap.size + 1, 2, none⟩) (by simp) (.int .i64 0)).setCell (p := ⟨w.heap.size + 1, 3, none⟩) (by simp) (.int .i64 0)).setCell (p := ⟨w.heap.size + 1, 4, none⟩) (by simp) (.int .i64 0)).setCell (p := ⟨w.heap.size + 1, 5, none⟩) (by simp) (.int .i64 0))⟩
      | true =>
        have hg : awareB lr lc lt hr hc ht size given = true := by simp [awareB, h1, h2, h3]
        rw [hg]
        have hf : ∀ x, fp true x = x := fun x => rfl
        simp only [hf, awareI, hg, if_true]
        clear hf hg
        have hh := policerB_iff.1 h1
        obtain ⟨n0, n1⟩ := inB_iff.1 h2
        have hcol := colour_cases lt ht size given
        go_enter Try.func33, Try.ntmps33
        go_wp2_with (first | (go_at_call 43; refine (poGood_any _ _ _ _ _ _ _).mono ?_; rintro e w1 ⟨rfl, hb1⟩; have b1 := b0.below hb1; have br1 := br0.below hb1; have z1 := ext_trans z0 hb1; obtain ⟨y1, x1, c1, f1⟩ := b1.six; obtain ⟨yr1, xr1, cr1, fr1⟩ := br1.six; clear hb1) | (go_at_call 49; refine (buSize_any _ _).mono ?_; rintro e w' ⟨rfl, rfl⟩) | (go_at_call 50; refine (poColour_any _ _).mono ?_; rintro e w' ⟨rfl, rfl⟩))
        refine (poOf_any _ _ _ _ _ _ _ _ _).mono ?_; rintro e w2 ⟨rfl, hb2⟩
        have b2 := b1.below hb2
        have br2 := br1.below hb2
        have z2 := ext_trans z1 hb2
        clear y1 x1 c1 f1 yr1 xr1 cr1 fr1 hb2
        obtain ⟨y2, x2, c2, f2⟩ := b2.six
        go_wp2_with fail
        refine (poAfter_any lr lc lt hr hc ht size _ hcol (by omega) (by omega) (by omega) (by omega) (by omega) (by omega) _).mono ?_; rintro e w3 ⟨rfl, hb3⟩
        have br3 := br2.below hb3
        have z3 := ext_trans z2 hb3
        clear y2 x2 c2 f2 hb3
        obtain ⟨y3, x3, c3, f3⟩ := br3.six
        go_wp2_with fail
        exact bodyPost_ret (v := .tuple #[.agg #[.int .i64 lr, .int .i64 lc, .int .i64 (lowAfter lt size (colourI lt ht size given)), .int .i64 hr, .int .i64 hc, .int .i64 (highAfter ht size (colourI lt ht size given))], .int .i64 (colourI lt ht size given), .bool true]) (res_cell3 Try.results33 _ rfl ((((((br3.set_ 0 (.int .i64 lr)).set_ 1 (.int .i64 lc)).set_ 2 (.int .i64 (lowAfter lt size (colourI lt ht size given)))).set_ 3 (.int .i64 hr)).set_ 4 (.int .i64 hc)).set_ 5 (.int .i64 (highAfter ht size (colourI lt ht size given)))) Try.underlying29 rfl (by kernel_rfl)) rfl ⟨rfl, ((((((z3.setCell (p := ⟨w.heap.size + 1, 0, none⟩) (by simp) (.int .i64 lr)).setCell (p := ⟨w.heap.size + 1, 1, none⟩) (by simp) (.int .i64 lc)).setCell (p := ⟨w.heap.size + 1, 2, none⟩) (by simp) (.int .i64 (lowAfter lt size (colourI lt ht size given)))).setCell (p := ⟨w.heap.size + 1, 3, none⟩) (by simp) (.int .i64 hr)).setCell (p := ⟨w.heap.size + 1, 4, none⟩) (by simp) (.int .i64 hc)).setCell (p := ⟨w.heap.size + 1, 5, none⟩) (by simp) (.int .i64 (highAfter ht size (colourI lt ht size given))))⟩

set_option maxHeartbeats 2000000 in
theorem implPolicePacket_any (lr lc lt hr hc ht size given : Int) (w : World) :
    Calls Try.prog 34 #[.agg #[.int .i64 lr, .int .i64 lc, .int .i64 lt, .int .i64 hr, .int .i64 hc, .int .i64 ht], .int .i64 size, .int .i64 given] w fun e w' => e = .returned (.tuple #[.agg #[.int .i64 (fp (awareB lr lc lt hr hc ht size given) lr), .int .i64 (fp (awareB lr lc lt hr hc ht size given) lc), .int .i64 (fp (awareB lr lc lt hr hc ht size given) (lowAfter lt size (colourI lt ht size given))), .int .i64 (fp (awareB lr lc lt hr hc ht size given) hr), .int .i64 (fp (awareB lr lc lt hr hc ht size given) hc), .int .i64 (fp (awareB lr lc lt hr hc ht size given) (highAfter ht size (colourI lt ht size given)))], .int .i64 (awareI lr lc lt hr hc ht size given), .bool (awareB lr lc lt hr hc ht size given)]) ∧ Below w.heap.size w w' := by
  have b0 : Blk ((w.alloc (.cells (List.toArray [.int .i64 lr, .int .i64 lc, .int .i64 lt, .int .i64 hr, .int .i64 hc, .int .i64 ht]) 29)).alloc (.cells (List.toArray [.int .i64 0, .int .i64 0, .int .i64 0, .int .i64 0, .int .i64 0, .int .i64 0]) 29)) w.heap.size 29 [.int .i64 lr, .int .i64 lc, .int .i64 lt, .int .i64 hr, .int .i64 hc, .int .i64 ht] := (Blk.new w 29 [.int .i64 lr, .int .i64 lc, .int .i64 lt, .int .i64 hr, .int .i64 hc, .int .i64 ht]).alloc _
  have br0 : Blk ((w.alloc (.cells (List.toArray [.int .i64 lr, .int .i64 lc, .int .i64 lt, .int .i64 hr, .int .i64 hc, .int .i64 ht]) 29)).alloc (.cells (List.toArray [.int .i64 0, .int .i64 0, .int .i64 0, .int .i64 0, .int .i64 0, .int .i64 0]) 29)) (w.heap.size + 1) 29 [.int .i64 0, .int .i64 0, .int .i64 0, .int .i64 0, .int .i64 0, .int .i64 0] := by have h := Blk.new (w.alloc (.cells (List.toArray [.int .i64 lr, .int .i64 lc, .int .i64 lt, .int .i64 hr, .int .i64 hc, .int .i64 ht]) 29)) 29 [.int .i64 0, .int .i64 0, .int .i64 0, .int .i64 0, .int .i64 0, .int .i64 0]; rwa [World.size_alloc] at h
  have z0 : Below w.heap.size w ((w.alloc (.cells (List.toArray [.int .i64 lr, .int .i64 lc, .int .i64 lt, .int .i64 hr, .int .i64 hc, .int .i64 ht]) 29)).alloc (.cells (List.toArray [.int .i64 0, .int .i64 0, .int .i64 0, .int .i64 0, .int .i64 0, .int .i64 0]) 29)) := ext_alloc (ext_alloc (ext_refl w) _) _
  cases h1 : policerB lr lc lt hr hc ht with
  | false =>
    have hg : awareB lr lc lt hr hc ht size given = false := by simp [awareB, h1]
    rw [hg]
    have hf : ∀ x, fp false x = 0 := fun x => rfl
    simp only [hf, awareI, hg, Bool.false_eq_true, if_false]
    clear hf hg
    go_enter Try.func34, Try.ntmps34
    go_wp2_with (first | (go_at_call 15; refine (implIsPolicer_any _ _ _ _ _ _ _).mono ?_; rintro e w1 ⟨rfl, hb1⟩; have b1 := b0.below hb1; have br1 := br0.below hb1; have z1 := ext_trans z0 hb1; obtain ⟨y1, x1, c1, f1⟩ := b1.six; obtain ⟨yr1, xr1, cr1, fr1⟩ := br1.six; clear hb1) | (go_at_call 52; refine (isSize_any _ _).mono ?_; rintro e w' ⟨rfl, rfl⟩) | (go_at_call 53; refine (isColour_any _ _).mono ?_; rintro e w' ⟨rfl, rfl⟩))
    exact bodyPost_ret (v := .tuple #[.agg #[.int .i64 0, .int .i64 0, .int .i64 0, .int .i64 0, .int .i64 0, .int .i64 0], .int .i64 0, .bool false]) (res_cell3 Try.results34 _ rfl ((((((br1.set_ 0 (.int .i64 0)).set_ 1 (.int .i64 0)).set_ 2 (.int .i64 0)).set_ 3 (.int .i64 0)).set_ 4 (.int .i64 0)).set_ 5 (.int .i64 0)) Try.underlying29 rfl (by kernel_rfl)) rfl ⟨rfl, ((((((z1.setCell (p := ⟨w.heap.size + 1, 0, none⟩) (by simp) (.int .i64 0)).setCell (p := ⟨w.heap.size + 1, 1, none⟩) (by simp) (.int .i64 0)).setCell (p := ⟨w.heap.size + 1, 2, none⟩) (by simp) (.int .i64 0)).setCell (p := ⟨w.heap.size + 1, 3, none⟩) (by simp) (.int .i64 0)).setCell (p := ⟨w.heap.size + 1, 4, none⟩) (by simp) (.int .i64 0)).setCell (p := ⟨w.heap.size + 1, 5, none⟩) (by simp) (.int .i64 0))⟩
  | true =>
    cases h2 : inB size 1 1500 with
    | false =>
      have hg : awareB lr lc lt hr hc ht size given = false := by simp [awareB, h1, h2]
      rw [hg]
      have hf : ∀ x, fp false x = 0 := fun x => rfl
      simp only [hf, awareI, hg, Bool.false_eq_true, if_false]
      clear hf hg
      go_enter Try.func34, Try.ntmps34
      go_wp2_with (first | (go_at_call 15; refine (implIsPolicer_any _ _ _ _ _ _ _).mono ?_; rintro e w1 ⟨rfl, hb1⟩; have b1 := b0.below hb1; have br1 := br0.below hb1; have z1 := ext_trans z0 hb1; obtain ⟨y1, x1, c1, f1⟩ := b1.six; obtain ⟨yr1, xr1, cr1, fr1⟩ := br1.six; clear hb1) | (go_at_call 52; refine (isSize_any _ _).mono ?_; rintro e w' ⟨rfl, rfl⟩) | (go_at_call 53; refine (isColour_any _ _).mono ?_; rintro e w' ⟨rfl, rfl⟩))
      exact bodyPost_ret (v := .tuple #[.agg #[.int .i64 0, .int .i64 0, .int .i64 0, .int .i64 0, .int .i64 0, .int .i64 0], .int .i64 0, .bool false]) (res_cell3 Try.results34 _ rfl ((((((br1.set_ 0 (.int .i64 0)).set_ 1 (.int .i64 0)).set_ 2 (.int .i64 0)).set_ 3 (.int .i64 0)).set_ 4 (.int .i64 0)).set_ 5 (.int .i64 0)) Try.underlying29 rfl (by kernel_rfl)) rfl ⟨rfl, ((((((z1.setCell (p := ⟨w.heap.size + 1, 0, none⟩) (by simp) (.int .i64 0)).setCell (p := ⟨w.heap.size + 1, 1, none⟩) (by simp) (.int .i64 0)).setCell (p := ⟨w.heap.size + 1, 2, none⟩) (by simp) (.int .i64 0)).setCell (p := ⟨w.heap.size + 1, 3, none⟩) (by simp) (.int .i64 0)).setCell (p := ⟨w.heap.size + 1, 4, none⟩) (by simp) (.int .i64 0)).setCell (p := ⟨w.heap.size + 1, 5, none⟩) (by simp) (.int .i64 0))⟩
    | true =>
      cases h3 : inB given 0 2 with
      | false =>
        have hg : awareB lr lc lt hr hc ht size given = false := by simp [awareB, h1, h2, h3]
        rw [hg]
        have hf : ∀ x, fp false x = 0 := fun x => rfl
        simp only [hf, awareI, hg, Bool.false_eq_true, if_false]
        clear hf hg
        go_enter Try.func34, Try.ntmps34
        go_wp2_with (first | (go_at_call 15; refine (implIsPolicer_any _ _ _ _ _ _ _).mono ?_; rintro e w1 ⟨rfl, hb1⟩; have b1 := b0.below hb1; have br1 := br0.below hb1; have z1 := ext_trans z0 hb1; obtain ⟨y1, x1, c1, f1⟩ := b1.six; obtain ⟨yr1, xr1, cr1, fr1⟩ := br1.six; clear hb1) | (go_at_call 52; refine (isSize_any _ _).mono ?_; rintro e w' ⟨rfl, rfl⟩) | (go_at_call 53; refine (isColour_any _ _).mono ?_; rintro e w' ⟨rfl, rfl⟩))
        exact bodyPost_ret (v := .tuple #[.agg #[.int .i64 0, .int .i64 0, .int .i64 0, .int .i64 0, .int .i64 0, .int .i64 0], .int .i64 0, .bool false]) (res_cell3 Try.results34 _ rfl ((((((br1.set_ 0 (.int .i64 0)).set_ 1 (.int .i64 0)).set_ 2 (.int .i64 0)).set_ 3 (.int .i64 0)).set_ 4 (.int .i64 0)).set_ 5 (.int .i64 0)) Try.underlying29 rfl (by kernel_rfl)) rfl ⟨rfl, ((((((z1.setCell (p := ⟨w.heap.size + 1, 0, none⟩) (by simp) (.int .i64 0)).setCell (p := ⟨w.heap.size + 1, 1, none⟩) (by simp) (.int .i64 0)).setCell (p := ⟨w.heap.size + 1, 2, none⟩) (by simp) (.int .i64 0)).setCell (p := ⟨w.heap.size + 1, 3, none⟩) (by simp) (.int .i64 0)).setCell (p := ⟨w.heap.size + 1, 4, none⟩) (by simp) (.int .i64 0)).setCell (p := ⟨w.heap.size + 1, 5, none⟩) (by simp) (.int .i64 0))⟩
      | true =>
        have hg : awareB lr lc lt hr hc ht size given = true := by simp [awareB, h1, h2, h3]
        rw [hg]
        have hf : ∀ x, fp true x = x := fun x => rfl
        simp only [hf, awareI, hg, if_true]
        clear hf hg
        have hh := policerB_iff.1 h1
        obtain ⟨n0, n1⟩ := inB_iff.1 h2
        have hcol := colour_cases lt ht size given
        go_enter Try.func34, Try.ntmps34
        go_wp2_with (first | (go_at_call 15; refine (implIsPolicer_any _ _ _ _ _ _ _).mono ?_; rintro e w1 ⟨rfl, hb1⟩; have b1 := b0.below hb1; have br1 := br0.below hb1; have z1 := ext_trans z0 hb1; obtain ⟨y1, x1, c1, f1⟩ := b1.six; obtain ⟨yr1, xr1, cr1, fr1⟩ := br1.six; clear hb1) | (go_at_call 52; refine (isSize_any _ _).mono ?_; rintro e w' ⟨rfl, rfl⟩) | (go_at_call 53; refine (isColour_any _ _).mono ?_; rintro e w' ⟨rfl, rfl⟩))
        refine (police_any lr lc lt hr hc ht size given w.heap.size 29 _ (by omega) (by omega) (by omega) (by omega) (by omega) (by omega) b1).mono ?_; rintro e w2 ⟨rfl, b2, hg2⟩
        have br2 := br1.grown hg2 (by simp)
        have z2 : Below w.heap.size w w2 := z1.grown hg2 z1.size (fun k hk => by injection hk with hk; omega)
        clear y1 x1 c1 f1 yr1 xr1 cr1 fr1 hg2
        obtain ⟨y2, x2, c2, f2⟩ := b2.six
        obtain ⟨y3, x3, c3, f3⟩ := br2.six
        go_wp2_with fail
        exact bodyPost_ret (v := .tuple #[.agg #[.int .i64 lr, .int .i64 lc, .int .i64 (lowAfter lt size (colourI lt ht size given)), .int .i64 hr, .int .i64 hc, .int .i64 (highAfter ht size (colourI lt ht size given))], .int .i64 (colourI lt ht size given), .bool true]) (res_cell3 Try.results34 _ rfl ((((((br2.set_ 0 (.int .i64 lr)).set_ 1 (.int .i64 lc)).set_ 2 (.int .i64 (lowAfter lt size (colourI lt ht size given)))).set_ 3 (.int .i64 hr)).set_ 4 (.int .i64 hc)).set_ 5 (.int .i64 (highAfter ht size (colourI lt ht size given)))) Try.underlying29 rfl (by kernel_rfl)) rfl ⟨rfl, ((((((z2.setCell (p := ⟨w.heap.size + 1, 0, none⟩) (by simp) (.int .i64 lr)).setCell (p := ⟨w.heap.size + 1, 1, none⟩) (by simp) (.int .i64 lc)).setCell (p := ⟨w.heap.size + 1, 2, none⟩) (by simp) (.int .i64 (lowAfter lt size (colourI lt ht size given)))).setCell (p := ⟨w.heap.size + 1, 3, none⟩) (by simp) (.int .i64 hr)).setCell (p := ⟨w.heap.size + 1, 4, none⟩) (by simp) (.int .i64 hc)).setCell (p := ⟨w.heap.size + 1, 5, none⟩) (by simp) (.int .i64 (highAfter ht size (colourI lt ht size given))))⟩

end Go.Proofs.Ytdhojfkdbpghmaa