/- RunPolicer: the contract of the program. -/
import Derived.Test.YtdhojfkdbpghmaaPoH
namespace Go.Proofs.Ytdhojfkdbpghmaa
open Go.RowKit

set_option maxRecDepth 100000 in
set_option maxHeartbeats 2000000 in
theorem implRunPolicer_any (lr lc lt hr hc ht : Int) (A : Option Addr) (n c : Nat) (xs : List Send) (B : Option Addr) (m d : Nat) (gs : List Int) (w : World) (hn : n ≤ 1048576) (hr' : Rd w 2 A n (xs.flatMap encSend)) (hm : m ≤ 1048576) (hs : Rd w 1 B m (gs.map (Value.int .i64))) :
    Calls Try.prog 42 #[.agg #[.int .i64 lr, .int .i64 lc, .int .i64 lt, .int .i64 hr, .int .i64 hc, .int .i64 ht], .slice A n c, .slice B m d] w (RetP 3 w (fp (rpB lr lc lt hr hc ht xs gs) lr) (fp (rpB lr lc lt hr hc ht xs gs) lc) (rpR lr lc lt hr hc ht xs gs).lt (fp (rpB lr lc lt hr hc ht xs gs) hr) (fp (rpB lr lc lt hr hc ht xs gs) hc) (rpR lr lc lt hr hc ht xs gs).ht (rpR lr lc lt hr hc ht xs gs).out (rpB lr lc lt hr hc ht xs gs)) := by
  obtain ⟨i0, hi, hz0, hz1, hz2⟩ := info_parts infoIntR
  have D0 : Blk ((w.alloc (.cells (List.toArray [.int .i64 lr, .int .i64 lc, .int .i64 lt, .int .i64 hr, .int .i64 hc, .int .i64 ht]) 29)).alloc (.cells (List.toArray [.int .i64 0, .int .i64 0, .int .i64 0, .int .i64 0, .int .i64 0, .int .i64 0]) 29)) w.heap.size 29 [.int .i64 lr, .int .i64 lc, .int .i64 lt, .int .i64 hr, .int .i64 hc, .int .i64 ht] := (Blk.new w 29 [.int .i64 lr, .int .i64 lc, .int .i64 lt, .int .i64 hr, .int .i64 hc, .int .i64 ht]).alloc _
  have Z0 : Blk ((w.alloc (.cells (List.toArray [.int .i64 lr, .int .i64 lc, .int .i64 lt, .int .i64 hr, .int .i64 hc, .int .i64 ht]) 29)).alloc (.cells (List.toArray [.int .i64 0, .int .i64 0, .int .i64 0, .int .i64 0, .int .i64 0, .int .i64 0]) 29)) (w.heap.size + 1) 29 [.int .i64 0, .int .i64 0, .int .i64 0, .int .i64 0, .int .i64 0, .int .i64 0] := by have h := Blk.new (w.alloc (.cells (List.toArray [.int .i64 lr, .int .i64 lc, .int .i64 lt, .int .i64 hr, .int .i64 hc, .int .i64 ht]) 29)) 29 [.int .i64 0, .int .i64 0, .int .i64 0, .int .i64 0, .int .i64 0, .int .i64 0]; rwa [World.size_alloc] at h
  have z0 : Below w.heap.size w ((w.alloc (.cells (List.toArray [.int .i64 lr, .int .i64 lc, .int .i64 lt, .int .i64 hr, .int .i64 hc, .int .i64 ht]) 29)).alloc (.cells (List.toArray [.int .i64 0, .int .i64 0, .int .i64 0, .int .i64 0, .int .i64 0, .int .i64 0]) 29)) := ext_alloc (ext_alloc (ext_refl w) _) _
  have hl : xs.length = n := by have h1 := hr'.1; rw [flat_len encSend 2 encSend_len] at h1; omega
  have hgl := hs.len1
  cases h1 : policerB lr lc lt hr hc ht with
  | false =>
    have e0 : rpB lr lc lt hr hc ht xs gs = false := by simp [rpB, h1]
    have e1 : rpR lr lc lt hr hc ht xs gs = ⟨0, 0, 0, []⟩ := by simp [rpR, e0]
    rw [e0, e1]
    have ef : ∀ x, fp false x = 0 := fun x => rfl
    simp only [ef]
    clear e0 e1 ef hl hgl
    go_enter Try.func42, Try.ntmps42
    go_wp2_with fail
    refine (implIsPolicer_any _ _ _ _ _ _ _ ).mono ?_; rintro e w1 ⟨rfl, hb1⟩
    rw [h1]
    have D1 := D0.below hb1
    have Z1 := Z0.below hb1
    have z1 := ext_trans z0 hb1
    clear D0 Z0 z0 hb1
    obtain ⟨yz1, xz1, dz1, fz1⟩ := Z1.six
    go_wp2_with fail
    exact bodyPost_ret (v := .tuple #[.agg #[.int .i64 0, .int .i64 0, .int .i64 0, .int .i64 0, .int .i64 0, .int .i64 0], .slice none 0 0, .bool false]) (res_cell3 Try.results42 _ rfl ((((((Z1.set_ 0 (.int .i64 0)).set_ 1 (.int .i64 0)).set_ 2 (.int .i64 0)).set_ 3 (.int .i64 0)).set_ 4 (.int .i64 0)).set_ 5 (.int .i64 0)) Try.underlying29 rfl (by kernel_rfl)) rfl ⟨none, 0, rfl, World.ownsRow_nil _ _ _ _, z1.grown (grownBy_setCell (grownBy_setCell (grownBy_setCell (grownBy_setCell (grownBy_setCell (grownBy_setCell (World.grownBy.refl w1 (some (w.heap.size + 1))) _ _) _ _) _ _) _ _) _ _) _ _) z1.size (fun q hq => by injection hq with hq; omega)⟩
  | true =>
    cases h2 : sendsB xs with
    | false =>
      have e0 : rpB lr lc lt hr hc ht xs gs = false := by simp [rpB, h2]
      have e1 : rpR lr lc lt hr hc ht xs gs = ⟨0, 0, 0, []⟩ := by simp [rpR, e0]
      rw [e0, e1]
      have ef : ∀ x, fp false x = 0 := fun x => rfl
      simp only [ef]
      clear e0 e1 ef hl hgl
      go_enter Try.func42, Try.ntmps42
      go_wp2_with fail
      refine (implIsPolicer_any _ _ _ _ _ _ _ ).mono ?_; rintro e w1 ⟨rfl, hb1⟩
      rw [h1]
      have D1 := D0.below hb1
      have Z1 := Z0.below hb1
      have z1 := ext_trans z0 hb1
      clear D0 Z0 z0 hb1
      obtain ⟨yz1, xz1, dz1, fz1⟩ := Z1.six
      go_wp2_with fail
      refine (areSends_any _ _ _ xs _ hn (hr'.below z1)).mono ?_; rintro e w2 ⟨rfl, hb2⟩
      rw [h2]
      have D2 := D1.below hb2
      have Z2 := Z1.below hb2
      have z2 := ext_trans z1 hb2
      clear D1 Z1 z1 hb2 yz1 xz1 dz1 fz1
      obtain ⟨yz2, xz2, dz2, fz2⟩ := Z2.six
      go_wp2_with fail
      exact bodyPost_ret (v := .tuple #[.agg #[.int .i64 0, .int .i64 0, .int .i64 0, .int .i64 0, .int .i64 0, .int .i64 0], .slice none 0 0, .bool false]) (res_cell3 Try.results42 _ rfl ((((((Z2.set_ 0 (.int .i64 0)).set_ 1 (.int .i64 0)).set_ 2 (.int .i64 0)).set_ 3 (.int .i64 0)).set_ 4 (.int .i64 0)).set_ 5 (.int .i64 0)) Try.underlying29 rfl (by kernel_rfl)) rfl ⟨none, 0, rfl, World.ownsRow_nil _ _ _ _, z2.grown (grownBy_setCell (grownBy_setCell (grownBy_setCell (grownBy_setCell (grownBy_setCell (grownBy_setCell (World.grownBy.refl w2 (some (w.heap.size + 1))) _ _) _ _) _ _) _ _) _ _) _ _) z2.size (fun q hq => by injection hq with hq; omega)⟩
    | true =>
      cases h3 : coloursB gs with
      | false =>
        have hx60 := sends_len h2
        have e0 : rpB lr lc lt hr hc ht xs gs = false := by unfold coloursB at h3; unfold rpB; cases ha : (gs.all fun x => inB x 0 2) with | false => simp | true => (rw [ha] at h3; simp at h3; simp; intro _ _; exact ⟨List.ne_nil_of_length_pos (by omega), by omega⟩)
        have e1 : rpR lr lc lt hr hc ht xs gs = ⟨0, 0, 0, []⟩ := by simp [rpR, e0]
        rw [e0, e1]
        have ef : ∀ x, fp false x = 0 := fun x => rfl
        simp only [ef]
        clear e0 e1 ef hl hgl
        clear hx60
        go_enter Try.func42, Try.ntmps42
        go_wp2_with fail
        refine (implIsPolicer_any _ _ _ _ _ _ _ ).mono ?_; rintro e w1 ⟨rfl, hb1⟩
        rw [h1]
        have D1 := D0.below hb1
        have Z1 := Z0.below hb1
        have z1 := ext_trans z0 hb1
        clear D0 Z0 z0 hb1
        obtain ⟨yz1, xz1, dz1, fz1⟩ := Z1.six
        go_wp2_with fail
        refine (areSends_any _ _ _ xs _ hn (hr'.below z1)).mono ?_; rintro e w2 ⟨rfl, hb2⟩
        rw [h2]
        have D2 := D1.below hb2
        have Z2 := Z1.below hb2
        have z2 := ext_trans z1 hb2
        clear D1 Z1 z1 hb2 yz1 xz1 dz1 fz1
        obtain ⟨yz2, xz2, dz2, fz2⟩ := Z2.six
        go_wp2_with fail
        refine (areColours_any _ _ _ gs _ hm (hs.below z2)).mono ?_; rintro e w' ⟨rfl, rfl⟩
        rw [h3]
        go_wp2_with fail
        exact bodyPost_ret (v := .tuple #[.agg #[.int .i64 0, .int .i64 0, .int .i64 0, .int .i64 0, .int .i64 0, .int .i64 0], .slice none 0 0, .bool false]) (res_cell3 Try.results42 _ rfl ((((((Z2.set_ 0 (.int .i64 0)).set_ 1 (.int .i64 0)).set_ 2 (.int .i64 0)).set_ 3 (.int .i64 0)).set_ 4 (.int .i64 0)).set_ 5 (.int .i64 0)) Try.underlying29 rfl (by kernel_rfl)) rfl ⟨none, 0, rfl, World.ownsRow_nil _ _ _ _, z2.grown (grownBy_setCell (grownBy_setCell (grownBy_setCell (grownBy_setCell (grownBy_setCell (grownBy_setCell (World.grownBy.refl w2 (some (w.heap.size + 1))) _ _) _ _) _ _) _ _) _ _) _ _) z2.size (fun q hq => by injection hq with hq; omega)⟩
      | true =>
        have hall : (gs.all fun x => inB x 0 2) = true := by simp only [coloursB, Bool.and_eq_true] at h3; exact h3.1
        by_cases hlen : 0 < m ∧ m ≠ n
        · obtain ⟨hm0, hmn⟩ := hlen
          have e0 : rpB lr lc lt hr hc ht xs gs = false := by have q1 : gs ≠ [] := List.ne_nil_of_length_pos (by omega); have q2 : ¬ gs.length = xs.length := (by omega); simp [rpB, q1, q2]
          have e1 : rpR lr lc lt hr hc ht xs gs = ⟨0, 0, 0, []⟩ := by simp [rpR, e0]
          rw [e0, e1]
          have ef : ∀ x, fp false x = 0 := fun x => rfl
          simp only [ef]
          clear e0 e1 ef hl hgl
          have g1 : decide ((0 : Int) < (m : Int)) = true := by simp; omega
          have g2 : ((m : Int) != (n : Int)) = true := by simp; omega
          have g3 : ((m : Int) != 0) = true := by simp; omega
          have g4 : decide (0 < m) = true := by simp; omega
          clear hmn hm0
          go_enter Try.func42, Try.ntmps42
          go_wp2_with fail
          refine (implIsPolicer_any _ _ _ _ _ _ _ ).mono ?_; rintro e w1 ⟨rfl, hb1⟩
          rw [h1]
          have D1 := D0.below hb1
          have Z1 := Z0.below hb1
          have z1 := ext_trans z0 hb1
          clear D0 Z0 z0 hb1
          obtain ⟨yz1, xz1, dz1, fz1⟩ := Z1.six
          go_wp2_with fail
          refine (areSends_any _ _ _ xs _ hn (hr'.below z1)).mono ?_; rintro e w2 ⟨rfl, hb2⟩
          rw [h2]
          have D2 := D1.below hb2
          have Z2 := Z1.below hb2
          have z2 := ext_trans z1 hb2
          clear D1 Z1 z1 hb2 yz1 xz1 dz1 fz1
          obtain ⟨yz2, xz2, dz2, fz2⟩ := Z2.six
          go_wp2_with fail
          refine (areColours_any _ _ _ gs _ hm (hs.below z2)).mono ?_; rintro e w' ⟨rfl, rfl⟩
          rw [h3]
          go_wp2_with fail
          exact bodyPost_ret (v := .tuple #[.agg #[.int .i64 0, .int .i64 0, .int .i64 0, .int .i64 0, .int .i64 0, .int .i64 0], .slice none 0 0, .bool false]) (res_cell3 Try.results42 _ rfl ((((((Z2.set_ 0 (.int .i64 0)).set_ 1 (.int .i64 0)).set_ 2 (.int .i64 0)).set_ 3 (.int .i64 0)).set_ 4 (.int .i64 0)).set_ 5 (.int .i64 0)) Try.underlying29 rfl (by kernel_rfl)) rfl ⟨none, 0, rfl, World.ownsRow_nil _ _ _ _, z2.grown (grownBy_setCell (grownBy_setCell (grownBy_setCell (grownBy_setCell (grownBy_setCell (grownBy_setCell (World.grownBy.refl w2 (some (w.heap.size + 1))) _ _) _ _) _ _) _ _) _ _) _ _) z2.size (fun q hq => by injection hq with hq; omega)⟩
        · have e0 : rpB lr lc lt hr hc ht xs gs = true := by
            unfold rpB
            rw [h1, h2, hall]
            by_cases hm0 : 0 < m
            · have : gs.length = xs.length := by omega
              simp [this]
            · have : gs = [] := List.eq_nil_of_length_eq_zero (by omega)
              simp [this]
          have e1 : rpR lr lc lt hr hc ht xs gs = rpTo lr lc lt hr hc ht xs gs n := by simp only [rpR, e0, if_true]; rw [hl]
          rw [e0, e1]
          have ef : ∀ x, fp true x = x := fun x => rfl
          simp only [ef]
          clear e0 e1 ef
          have h60 : n ≤ 60 := by have := sends_len h2; omega
          have HPB := Lib.hid (policerB_iff.1 h1)
          have HF := Lib.hid (fun k hk => rpTo_inv (gs := gs) h1 h2 k hk)
          have HS := Lib.hid h2
          have HL := Lib.hid hl
          have HGL := Lib.hid hgl
          have HALL := Lib.hid hall
          clear hl hall
          by_cases hm0 : 0 < m
          · obtain rfl : m = n := by omega
            have g1 : decide ((0 : Int) < (m : Int)) = true := by simp; omega
            have g2 : ((m : Int) != (m : Int)) = false := by simp
            have g3 : ((m : Int) != 0) = true := by simp; omega
            have g4 : decide (0 < m) = true := by simp; omega
            clear hlen hgl
            go_enter Try.func42, Try.ntmps42
            go_wp2_with fail
            refine (implIsPolicer_any _ _ _ _ _ _ _ ).mono ?_; rintro e w1 ⟨rfl, hb1⟩
            rw [h1]
            have D1 := D0.below hb1
            have Z1 := Z0.below hb1
            have z1 := ext_trans z0 hb1
            clear D0 Z0 z0 hb1
            obtain ⟨yz1, xz1, dz1, fz1⟩ := Z1.six
            go_wp2_with fail
            refine (areSends_any _ _ _ xs _ hn (hr'.below z1)).mono ?_; rintro e w2 ⟨rfl, hb2⟩
            rw [h2]
            have D2 := D1.below hb2
            have Z2 := Z1.below hb2
            have z2 := ext_trans z1 hb2
            clear D1 Z1 z1 hb2 yz1 xz1 dz1 fz1
            obtain ⟨yz2, xz2, dz2, fz2⟩ := Z2.six
            go_wp2_with fail
            refine (areColours_any _ _ _ gs _ hm (hs.below z2)).mono ?_; rintro e w' ⟨rfl, rfl⟩
            rw [h3]
            go_wp2_with fail
            clear yz2 xz2 dz2 fz2 h1 h2 h3
            go_loopw [9, 10, 43] (RpRel w m 29 3 (rpTo lr lc lt hr hc ht xs gs) lr lc hr hc) (fun _ _ i _ => m - (intOf i).toNat)
            case atStart => exact ⟨0, Nat.zero_le _, rfl, rfl, ownL_empty z2, D2.alloc _, Z2.alloc _⟩
            case round =>
              obtain ⟨k, hk, rfl, rfl, hO, hB, hZ⟩ := hrel
              obtain ⟨hinv, hnow⟩ := HF.out k (by rw [HL.out]; exact hk)
              by_cases hlt : k < m
              · have hb := hO.2
                obtain ⟨b, o, rfl, hblb, hcellb⟩ := hr'.2 (by omega)
                have hblrbx : b < wr.heap.size := Nat.lt_of_lt_of_le hblb hb.size
                have hlxx : k < xs.length := by rw [HL.out]; omega
                have hxx : xs[k]? = some xs[k] := List.getElem?_eq_getElem hlxx
                generalize xs[k] = x at hxx
                have c0 : wr.cell? ⟨b, o + (k * 2 + 0), none⟩ = some (.int .i64 x.tick) := (hb.cell (p := ⟨b, o + (k * 2 + 0), none⟩) hblb).trans (hcellb _ _ ((flat_get encSend 2 encSend_len xs k 0 x hxx (by omega)).trans rfl))
                have c1 : wr.cell? ⟨b, o + (k * 2 + 1), none⟩ = some (.int .i64 x.size) := (hb.cell (p := ⟨b, o + (k * 2 + 1), none⟩) hblb).trans (hcellb _ _ ((flat_get encSend 2 encSend_len xs k 1 x hxx (by omega)).trans rfl))
                simp only [Nat.add_zero, ← Nat.add_assoc] at c0 c1
                have HX := Lib.hid hxx
                clear hxx hlxx hcellb
                have hxb := sends_at HS.out HX.out
                have hxt := hxb.1
                have hxs := hxb.2.1
                have hnx := hnow x HX.out
                clear hxb hnow
                obtain ⟨b2, o2, gv, rfl, hbl2, hgx, hc2⟩ := hs.int k hlt
                have hgv := inB_iff.1 (all_get HALL.out hgx)
                have HG := Lib.hid (gAt_some hgx)
                clear hgx
                have hsu := rpTo_succ (lr := lr) (lc := lc) (lt := lt) (hr := hr) (hc := hc) (ht := ht) (gs := gs) HX.out
                rw [HG.out] at hsu
                have HSU := Lib.hid hsu
                clear hsu
                generalize hst : rpTo lr lc lt hr hc ht xs gs k = s at *
                have HST := Lib.hid hst
                clear hst
                have hpb := HPB.out
                have hbd := rpStep_bd (lr := lr) (lc := lc) (hr := hr) (hc := hc) x gv s hpb.1.1.1 hpb.2.1.1.1 hxs.1 hinv.l hinv.h hnx
                have i1 := hinv.l
                have i2 := hinv.h
                have i3 := hinv.n
                have HLO := Lib.hid hinv.o
                have q1 := hbd.1
                have q2 := hbd.2.1
                have hC0 := hB.alloc (.cells (List.toArray [.int .i64 x.tick, .int .i64 x.size]) 72)
                have hZ0 := hZ.alloc (.cells (List.toArray [.int .i64 x.tick, .int .i64 x.size]) 72)
                have hX0 := Blk.new wr 72 [.int .i64 x.tick, .int .i64 x.size]
                have hO0 := ownL_alloc hO (.cells (List.toArray [.int .i64 x.tick, .int .i64 x.size]) 72)
                have hwl := hZ.lt
                have hne1 : ¬ w.heap.size = wr.heap.size := by omega
                have hne2 : ¬ wr.heap.size = w.heap.size := by omega
                obtain ⟨y0, x0, d0, f0⟩ := hC0.six
                have bb1 := hpb.1.1
                have bb2 := hpb.1.2.1
                have bb3 := hpb.2.1.1
                have bb4 := hpb.2.1.2.1
                clear hbd hinv hB hZ hO hpb
                have hdd := wrap_in (x.tick - s.now) (by omega) (by omega)
                generalize hgl : fillI s.lt lr lc (x.tick - s.now) = fl at *
                generalize hgh : fillI s.ht hr hc (x.tick - s.now) = fh at *
                have HGL2 := Lib.hid hgl
                have HGH2 := Lib.hid hgh
                clear hgl hgh hdd
                go_wp2_with fail
                refine (filled_any s.lt lr lc (x.tick - s.now) (by omega) (by omega) (by omega) (by omega) (by omega) (by omega) _).mono ?_; rintro e w' ⟨rfl, rfl⟩
                rw [HGL2.out]
                have gg1 : (wr.alloc (.cells (List.toArray [.int .i64 x.tick, .int .i64 x.size]) 72)).grownBy ((wr.alloc (.cells (List.toArray [.int .i64 x.tick, .int .i64 x.size]) 72)).setCell ⟨w.heap.size, 2, none⟩ (.int .i64 fl)) (some w.heap.size) := grownBy_setCell (World.grownBy.refl _ (some w.heap.size)) 2 (.int .i64 fl)
                have C1 : Blk ((wr.alloc (.cells (List.toArray [.int .i64 x.tick, .int .i64 x.size]) 72)).setCell ⟨w.heap.size, 2, none⟩ (.int .i64 fl)) w.heap.size 29 [.int .i64 lr, .int .i64 lc, .int .i64 fl, .int .i64 hr, .int .i64 hc, .int .i64 s.ht] := hC0.set_ 2 (.int .i64 fl)
                have Z1 := hZ0.grown gg1 (by simp)
                have X1 := hX0.grown gg1 (by simp; omega)
                have O1 := ownL_kept hO0 hC0 (by decide) (Nat.le_refl _) gg1
                have hs1 : ((wr.alloc (.cells (List.toArray [.int .i64 x.tick, .int .i64 x.size]) 72)).setCell ⟨w.heap.size, 2, none⟩ (.int .i64 fl)).heap.size = wr.heap.size + 1 := by simp
                clear gg1 hC0 hZ0 hX0 hO0 hs1
                go_wp2_with fail
                refine (filled_any s.ht hr hc (x.tick - s.now) (by omega) (by omega) (by omega) (by omega) (by omega) (by omega) _).mono ?_; rintro e w' ⟨rfl, rfl⟩
                rw [HGH2.out]
                have gg2 : ((wr.alloc (.cells (List.toArray [.int .i64 x.tick, .int .i64 x.size]) 72)).setCell ⟨w.heap.size, 2, none⟩ (.int .i64 fl)).grownBy ((((wr.alloc (.cells (List.toArray [.int .i64 x.tick, .int .i64 x.size]) 72)).setCell ⟨w.heap.size, 2, none⟩ (.int .i64 fl))).setCell ⟨w.heap.size, 5, none⟩ (.int .i64 fh)) (some w.heap.size) := grownBy_setCell (World.grownBy.refl _ (some w.heap.size)) 5 (.int .i64 fh)
                have C2 : Blk ((((wr.alloc (.cells (List.toArray [.int .i64 x.tick, .int .i64 x.size]) 72)).setCell ⟨w.heap.size, 2, none⟩ (.int .i64 fl))).setCell ⟨w.heap.size, 5, none⟩ (.int .i64 fh)) w.heap.size 29 [.int .i64 lr, .int .i64 lc, .int .i64 fl, .int .i64 hr, .int .i64 hc, .int .i64 fh] := C1.set_ 5 (.int .i64 fh)
                have Z2 := Z1.grown gg2 (by simp)
                have X2 := X1.grown gg2 (by simp; omega)
                have O2 := ownL_kept O1 C1 (by decide) (Nat.le_refl _) gg2
                have gc4 : ((((wr.alloc (.cells (List.toArray [.int .i64 x.tick, .int .i64 x.size]) 72)).setCell ⟨w.heap.size, 2, none⟩ (.int .i64 fl))).setCell ⟨w.heap.size, 5, none⟩ (.int .i64 fh)).cell? ⟨b2, o2 + k, none⟩ = some (.int .i64 gv) := (O2.2.cell (p := ⟨b2, o2 + k, none⟩) hbl2).trans hc2
                have hne3 : ¬ b2 = w.heap.size := by omega
                have hne4 : ¬ w.heap.size = b2 := by omega
                clear gg2 C1 Z1 X1 O1
                go_wp2_with fail
                refine (police_any lr lc fl hr hc fh x.size gv w.heap.size 29 _ (by omega) (by omega) (by omega) (by omega) (by omega) (by omega) C2).mono ?_; rintro e w5 ⟨rfl, C5, hg5⟩
                have Z5 := Z2.grown hg5 (by simp)
                have O5 := ownL_kept O2 C2 (by decide) (Nat.le_refl _) hg5
                clear hg5 C2 Z2 X2 O2 y0 x0 d0 f0
                obtain ⟨co, hco⟩ : ∃ co, colourI fl fh x.size gv = co := ⟨_, rfl⟩
                rw [hco] at C5 ⊢
                have HCO := Lib.hid hco
                have HNEW := Lib.hid (show rpTo lr lc lt hr hc ht xs gs (k + 1) = ⟨lowAfter fl x.size co, highAfter fh x.size co, x.tick, s.out ++ [co]⟩ by rw [HSU.out]; unfold rpStep; rw [HGL2.out, HGH2.out, HCO.out])
                clear hco
                go_wp2_with (at_builtin; refine wpList_append_own _ rfl (.tmp 89) (.tmp 94) 41 rfl w.heap.size 3 i0 (.int .i64 0) 1 8 Try.underlying41 hi hz0 hz1 hz2 rfl (by decide) _ _ _ rfl (O5.1.alloc _) ⟨w5.heap.size, 0, none⟩ 1 1 [.int .i64 co] rfl rfl ?c1 ?c2 ?c3 ?c4 ?c5 ?_)
                case c1 => exact cell_one_new _ _ _
                case c2 => simp [Value.oneCell']
                case c3 => have := HLO.out; unfold maxLen; omega
                case c4 => have := HLO.out; omega
                case c5 => have := O5.2.size; simp; omega
                intro v' w8 hown1 hg1 _
                have O8 := ownL_push O5 hown1 hg1
                have C8 := (C5.alloc (.cells #[.int .i64 co] 3)).grown hg1 (box_ne (O5.1.alloc (.cells #[.int .i64 co] 3)) (C5.alloc (.cells #[.int .i64 co] 3)) (by decide))
                have Z8 := (Z5.alloc (.cells #[.int .i64 co] 3)).grown hg1 (box_ne (O5.1.alloc (.cells #[.int .i64 co] 3)) (Z5.alloc (.cells #[.int .i64 co] 3)) (by decide))
                have HO8 := Lib.hid O8
                clear O8 hown1 hg1 O5 C5 Z5
                go_wp2_with fail
                go_roundw
                case rel => first | exact rpRel_step hlt HNEW.out HO8.out C8 Z8 | ((repeat apply Exists.intro); exact ⟨rpRel_step hlt HNEW.out HO8.out C8 Z8, rfl⟩)
                case measure => simp [intOf]; omega
              · have hkn : m = k := by omega
                subst hkn
                obtain ⟨A8, c8, hsh⟩ := own_shape hO.1
                subst hsh
                obtain ⟨y0, x0, d0, f0⟩ := hB.six
                obtain ⟨yz0, xz0, dz0, fz0⟩ := hZ.six
                generalize rpTo lr lc lt hr hc ht xs gs m = s at *
                go_wp2_with fail
                exact bodyPost_ret (v := .tuple #[.agg #[.int .i64 lr, .int .i64 lc, .int .i64 s.lt, .int .i64 hr, .int .i64 hc, .int .i64 s.ht], .slice A8 s.out.length c8, .bool true]) (res_cell3 Try.results42 _ rfl ((((((hZ.set_ 0 (.int .i64 lr)).set_ 1 (.int .i64 lc)).set_ 2 (.int .i64 s.lt)).set_ 3 (.int .i64 hr)).set_ 4 (.int .i64 hc)).set_ 5 (.int .i64 s.ht)) Try.underlying29 rfl (by kernel_rfl)) rfl ⟨A8, c8, rfl, (ownL_kept hO hZ (by decide) (by omega) (grownBy_setCell (grownBy_setCell (grownBy_setCell (grownBy_setCell (grownBy_setCell (grownBy_setCell (World.grownBy.refl wr (some (w.heap.size + 1))) _ _) _ _) _ _) _ _) _ _) _ _)).1, (ownL_kept hO hZ (by decide) (by omega) (grownBy_setCell (grownBy_setCell (grownBy_setCell (grownBy_setCell (grownBy_setCell (grownBy_setCell (World.grownBy.refl wr (some (w.heap.size + 1))) _ _) _ _) _ _) _ _) _ _) _ _)).2⟩
          · obtain rfl : m = 0 := by omega
            clear hlen hgl hm0
            go_enter Try.func42, Try.ntmps42
            go_wp2_with fail
            refine (implIsPolicer_any _ _ _ _ _ _ _ ).mono ?_; rintro e w1 ⟨rfl, hb1⟩
            rw [h1]
            have D1 := D0.below hb1
            have Z1 := Z0.below hb1
            have z1 := ext_trans z0 hb1
            clear D0 Z0 z0 hb1
            obtain ⟨yz1, xz1, dz1, fz1⟩ := Z1.six
            go_wp2_with fail
            refine (areSends_any _ _ _ xs _ hn (hr'.below z1)).mono ?_; rintro e w2 ⟨rfl, hb2⟩
            rw [h2]
            have D2 := D1.below hb2
            have Z2 := Z1.below hb2
            have z2 := ext_trans z1 hb2
            clear D1 Z1 z1 hb2 yz1 xz1 dz1 fz1
            obtain ⟨yz2, xz2, dz2, fz2⟩ := Z2.six
            go_wp2_with fail
            refine (areColours_any _ _ _ gs _ hm (hs.below z2)).mono ?_; rintro e w' ⟨rfl, rfl⟩
            rw [h3]
            go_wp2_with fail
            clear yz2 xz2 dz2 fz2 h1 h2 h3
            go_loopw [9, 10, 43] (RpRel w n 29 3 (rpTo lr lc lt hr hc ht xs gs) lr lc hr hc) (fun _ _ i _ => n - (intOf i).toNat)
            case atStart => exact ⟨0, Nat.zero_le _, rfl, rfl, ownL_empty z2, D2.alloc _, Z2.alloc _⟩
            case round =>
              obtain ⟨k, hk, rfl, rfl, hO, hB, hZ⟩ := hrel
              obtain ⟨hinv, hnow⟩ := HF.out k (by rw [HL.out]; exact hk)
              by_cases hlt : k < n
              · have hb := hO.2
                obtain ⟨b, o, rfl, hblb, hcellb⟩ := hr'.2 (by omega)
                have hblrbx : b < wr.heap.size := Nat.lt_of_lt_of_le hblb hb.size
                have hlxx : k < xs.length := by rw [HL.out]; omega
                have hxx : xs[k]? = some xs[k] := List.getElem?_eq_getElem hlxx
                generalize xs[k] = x at hxx
                have c0 : wr.cell? ⟨b, o + (k * 2 + 0), none⟩ = some (.int .i64 x.tick) := (hb.cell (p := ⟨b, o + (k * 2 + 0), none⟩) hblb).trans (hcellb _ _ ((flat_get encSend 2 encSend_len xs k 0 x hxx (by omega)).trans rfl))
                have c1 : wr.cell? ⟨b, o + (k * 2 + 1), none⟩ = some (.int .i64 x.size) := (hb.cell (p := ⟨b, o + (k * 2 + 1), none⟩) hblb).trans (hcellb _ _ ((flat_get encSend 2 encSend_len xs k 1 x hxx (by omega)).trans rfl))
                simp only [Nat.add_zero, ← Nat.add_assoc] at c0 c1
                have HX := Lib.hid hxx
                clear hxx hlxx hcellb
                have hxb := sends_at HS.out HX.out
                have hxt := hxb.1
                have hxs := hxb.2.1
                have hnx := hnow x HX.out
                clear hxb hnow
                have HG := Lib.hid (gAt_nil HGL.out k)
                have hsu := rpTo_succ (lr := lr) (lc := lc) (lt := lt) (hr := hr) (hc := hc) (ht := ht) (gs := gs) HX.out
                rw [HG.out] at hsu
                have HSU := Lib.hid hsu
                clear hsu
                generalize hst : rpTo lr lc lt hr hc ht xs gs k = s at *
                have HST := Lib.hid hst
                clear hst
                have hpb := HPB.out
                have hbd := rpStep_bd (lr := lr) (lc := lc) (hr := hr) (hc := hc) x 2 s hpb.1.1.1 hpb.2.1.1.1 hxs.1 hinv.l hinv.h hnx
                have i1 := hinv.l
                have i2 := hinv.h
                have i3 := hinv.n
                have HLO := Lib.hid hinv.o
                have q1 := hbd.1
                have q2 := hbd.2.1
                have hC0 := hB.alloc (.cells (List.toArray [.int .i64 x.tick, .int .i64 x.size]) 72)
                have hZ0 := hZ.alloc (.cells (List.toArray [.int .i64 x.tick, .int .i64 x.size]) 72)
                have hX0 := Blk.new wr 72 [.int .i64 x.tick, .int .i64 x.size]
                have hO0 := ownL_alloc hO (.cells (List.toArray [.int .i64 x.tick, .int .i64 x.size]) 72)
                have hwl := hZ.lt
                have hne1 : ¬ w.heap.size = wr.heap.size := by omega
                have hne2 : ¬ wr.heap.size = w.heap.size := by omega
                obtain ⟨y0, x0, d0, f0⟩ := hC0.six
                have bb1 := hpb.1.1
                have bb2 := hpb.1.2.1
                have bb3 := hpb.2.1.1
                have bb4 := hpb.2.1.2.1
                clear hbd hinv hB hZ hO hpb
                have hdd := wrap_in (x.tick - s.now) (by omega) (by omega)
                generalize hgl : fillI s.lt lr lc (x.tick - s.now) = fl at *
                generalize hgh : fillI s.ht hr hc (x.tick - s.now) = fh at *
                have HGL2 := Lib.hid hgl
                have HGH2 := Lib.hid hgh
                clear hgl hgh hdd
                go_wp2_with fail
                refine (filled_any s.lt lr lc (x.tick - s.now) (by omega) (by omega) (by omega) (by omega) (by omega) (by omega) _).mono ?_; rintro e w' ⟨rfl, rfl⟩
                rw [HGL2.out]
                have gg1 : (wr.alloc (.cells (List.toArray [.int .i64 x.tick, .int .i64 x.size]) 72)).grownBy ((wr.alloc (.cells (List.toArray [.int .i64 x.tick, .int .i64 x.size]) 72)).setCell ⟨w.heap.size, 2, none⟩ (.int .i64 fl)) (some w.heap.size) := grownBy_setCell (World.grownBy.refl _ (some w.heap.size)) 2 (.int .i64 fl)
                have C1 : Blk ((wr.alloc (.cells (List.toArray [.int .i64 x.tick, .int .i64 x.size]) 72)).setCell ⟨w.heap.size, 2, none⟩ (.int .i64 fl)) w.heap.size 29 [.int .i64 lr, .int .i64 lc, .int .i64 fl, .int .i64 hr, .int .i64 hc, .int .i64 s.ht] := hC0.set_ 2 (.int .i64 fl)
                have Z1 := hZ0.grown gg1 (by simp)
                have X1 := hX0.grown gg1 (by simp; omega)
                have O1 := ownL_kept hO0 hC0 (by decide) (Nat.le_refl _) gg1
                have hs1 : ((wr.alloc (.cells (List.toArray [.int .i64 x.tick, .int .i64 x.size]) 72)).setCell ⟨w.heap.size, 2, none⟩ (.int .i64 fl)).heap.size = wr.heap.size + 1 := by simp
                clear gg1 hC0 hZ0 hX0 hO0 hs1
                go_wp2_with fail
                refine (filled_any s.ht hr hc (x.tick - s.now) (by omega) (by omega) (by omega) (by omega) (by omega) (by omega) _).mono ?_; rintro e w' ⟨rfl, rfl⟩
                rw [HGH2.out]
                have gg2 : ((wr.alloc (.cells (List.toArray [.int .i64 x.tick, .int .i64 x.size]) 72)).setCell ⟨w.heap.size, 2, none⟩ (.int .i64 fl)).grownBy ((((wr.alloc (.cells (List.toArray [.int .i64 x.tick, .int .i64 x.size]) 72)).setCell ⟨w.heap.size, 2, none⟩ (.int .i64 fl))).setCell ⟨w.heap.size, 5, none⟩ (.int .i64 fh)) (some w.heap.size) := grownBy_setCell (World.grownBy.refl _ (some w.heap.size)) 5 (.int .i64 fh)
                have C2 : Blk ((((wr.alloc (.cells (List.toArray [.int .i64 x.tick, .int .i64 x.size]) 72)).setCell ⟨w.heap.size, 2, none⟩ (.int .i64 fl))).setCell ⟨w.heap.size, 5, none⟩ (.int .i64 fh)) w.heap.size 29 [.int .i64 lr, .int .i64 lc, .int .i64 fl, .int .i64 hr, .int .i64 hc, .int .i64 fh] := C1.set_ 5 (.int .i64 fh)
                have Z2 := Z1.grown gg2 (by simp)
                have X2 := X1.grown gg2 (by simp; omega)
                have O2 := ownL_kept O1 C1 (by decide) (Nat.le_refl _) gg2
                skip
                skip
                skip
                clear gg2 C1 Z1 X1 O1
                go_wp2_with fail
                refine (police_any lr lc fl hr hc fh x.size 2 w.heap.size 29 _ (by omega) (by omega) (by omega) (by omega) (by omega) (by omega) C2).mono ?_; rintro e w5 ⟨rfl, C5, hg5⟩
                have Z5 := Z2.grown hg5 (by simp)
                have O5 := ownL_kept O2 C2 (by decide) (Nat.le_refl _) hg5
                clear hg5 C2 Z2 X2 O2 y0 x0 d0 f0
                obtain ⟨co, hco⟩ : ∃ co, colourI fl fh x.size 2 = co := ⟨_, rfl⟩
                rw [hco] at C5 ⊢
                have HCO := Lib.hid hco
                have HNEW := Lib.hid (show rpTo lr lc lt hr hc ht xs gs (k + 1) = ⟨lowAfter fl x.size co, highAfter fh x.size co, x.tick, s.out ++ [co]⟩ by rw [HSU.out]; unfold rpStep; rw [HGL2.out, HGH2.out, HCO.out])
                clear hco
                go_wp2_with (at_builtin; refine wpList_append_own _ rfl (.tmp 89) (.tmp 94) 41 rfl w.heap.size 3 i0 (.int .i64 0) 1 8 Try.underlying41 hi hz0 hz1 hz2 rfl (by decide) _ _ _ rfl (O5.1.alloc _) ⟨w5.heap.size, 0, none⟩ 1 1 [.int .i64 co] rfl rfl ?c1 ?c2 ?c3 ?c4 ?c5 ?_)
                case c1 => exact cell_one_new _ _ _
                case c2 => simp [Value.oneCell']
                case c3 => have := HLO.out; unfold maxLen; omega
                case c4 => have := HLO.out; omega
                case c5 => have := O5.2.size; simp; omega
                intro v' w8 hown1 hg1 _
                have O8 := ownL_push O5 hown1 hg1
                have C8 := (C5.alloc (.cells #[.int .i64 co] 3)).grown hg1 (box_ne (O5.1.alloc (.cells #[.int .i64 co] 3)) (C5.alloc (.cells #[.int .i64 co] 3)) (by decide))
                have Z8 := (Z5.alloc (.cells #[.int .i64 co] 3)).grown hg1 (box_ne (O5.1.alloc (.cells #[.int .i64 co] 3)) (Z5.alloc (.cells #[.int .i64 co] 3)) (by decide))
                have HO8 := Lib.hid O8
                clear O8 hown1 hg1 O5 C5 Z5
                go_wp2_with fail
                go_roundw
                case rel => first | exact rpRel_step hlt HNEW.out HO8.out C8 Z8 | ((repeat apply Exists.intro); exact ⟨rpRel_step hlt HNEW.out HO8.out C8 Z8, rfl⟩)
                case measure => simp [intOf]; omega
              · have hkn : n = k := by omega
                subst hkn
                obtain ⟨A8, c8, hsh⟩ := own_shape hO.1
                subst hsh
                obtain ⟨y0, x0, d0, f0⟩ := hB.six
                obtain ⟨yz0, xz0, dz0, fz0⟩ := hZ.six
                generalize rpTo lr lc lt hr hc ht xs gs n = s at *
                go_wp2_with fail
                exact bodyPost_ret (v := .tuple #[.agg #[.int .i64 lr, .int .i64 lc, .int .i64 s.lt, .int .i64 hr, .int .i64 hc, .int .i64 s.ht], .slice A8 s.out.length c8, .bool true]) (res_cell3 Try.results42 _ rfl ((((((hZ.set_ 0 (.int .i64 lr)).set_ 1 (.int .i64 lc)).set_ 2 (.int .i64 s.lt)).set_ 3 (.int .i64 hr)).set_ 4 (.int .i64 hc)).set_ 5 (.int .i64 s.ht)) Try.underlying29 rfl (by kernel_rfl)) rfl ⟨A8, c8, rfl, (ownL_kept hO hZ (by decide) (by omega) (grownBy_setCell (grownBy_setCell (grownBy_setCell (grownBy_setCell (grownBy_setCell (grownBy_setCell (World.grownBy.refl wr (some (w.heap.size + 1))) _ _) _ _) _ _) _ _) _ _) _ _)).1, (ownL_kept hO hZ (by decide) (by omega) (grownBy_setCell (grownBy_setCell (grownBy_setCell (grownBy_setCell (grownBy_setCell (grownBy_setCell (World.grownBy.refl wr (some (w.heap.size + 1))) _ _) _ _) _ _) _ _) _ _) _ _)).2⟩

end Go.Proofs.Ytdhojfkdbpghmaa