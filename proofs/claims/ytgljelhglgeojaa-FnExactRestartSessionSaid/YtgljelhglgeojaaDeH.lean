/- RestartSession: contracts of the program's and the reference's; the law's walk. -/
import Derived.Test.YtgljelhglgeojaaDeG
import Derived.Deep.RegionHeld3
namespace Go.Proofs.Ytgljelhglgeojaa
open Go.RowKit

theorem restR_no {x : Ses} {t : Int} (h : restOk x t = false) : restR x t = zeroS := by simp [restR, h]
theorem restR_old {x : Ses} {t : Int} (h : restOk x t = true) (h2 : restBad x t = true) : restR x t = x := by simp [restR, h, h2]
theorem restR_new {x : Ses} {t : Int} (h : restOk x t = true) (h2 : restBad x t = false) : restR x t = outS x t := by simp [restR, h, h2]
theorem restOk_bad {x : Ses} {t : Int} (h : svcOk x t = false) : restOk x t = false := by simp [restOk, h]
theorem restOk_big {x : Ses} {t : Int} (h : 1000000 < x.se) : restOk x t = false := by
  have : ¬ x.se ≤ 1000000 := by omega
  simp [restOk, this]
theorem restOk_yes {x : Ses} {t : Int} (h : svcOk x t = true) (h2 : x.se ≤ 1000000) : restOk x t = true := by simp [restOk, h, h2]
theorem svcOk_iff {x : Ses} {t : Int} : svcOk x t = true ↔ SesOk x ∧ x.st ≤ t ∧ t ≤ 100000 := by simp only [svcOk, Bool.and_eq_true, sesB_iff, inB_iff]

set_option maxRecDepth 100000 in
set_option maxHeartbeats 4000000 in
theorem specRestartSession_at (x : Ses) (t : Int) (A : Option Addr) (m c : Nat) (w : World) (hm : m ≤ 1048576) (_hmc : m ≤ c) (hr : Rd w 1 A m (x.zs.map (Value.int .i64))) :
    Calls Try.prog 29 #[.agg #[.int .i64 x.f, .int .i64 x.l, .int .i64 x.s, .int .i64 x.st, .int .i64 x.ba, .int .i64 x.se, .slice A m c], .int .i64 t] w fun e w' => ∃ A' c', e = .returned (.tuple #[.agg #[.int .i64 (restR x t).f, .int .i64 (restR x t).l, .int .i64 (restR x t).s, .int .i64 (restR x t).st, .int .i64 (restR x t).ba, .int .i64 (restR x t).se, .slice A' (restR x t).zs.length c'], .bool (restOk x t)]) ∧ w'.ownsRow w.heap.size 3 1 (.slice A' (restR x t).zs.length c') (restR x t).zs.length ((restR x t).zs.map (Value.int .i64)) ∧ Below w.heap.size w w' := by
  have b0 : Blk ((w.alloc (.cells (List.toArray [.int .i64 x.f, .int .i64 x.l, .int .i64 x.s, .int .i64 x.st, .int .i64 x.ba, .int .i64 x.se, .slice A m c]) 39)).alloc (.cells (List.toArray [.int .i64 0, .int .i64 0, .int .i64 0, .int .i64 0, .int .i64 0, .int .i64 0, .slice none 0 0]) 39)) w.heap.size 39 [.int .i64 x.f, .int .i64 x.l, .int .i64 x.s, .int .i64 x.st, .int .i64 x.ba, .int .i64 x.se, .slice A m c] := (Blk.new w 39 [.int .i64 x.f, .int .i64 x.l, .int .i64 x.s, .int .i64 x.st, .int .i64 x.ba, .int .i64 x.se, .slice A m c]).alloc _
  have r0 : Blk ((w.alloc (.cells (List.toArray [.int .i64 x.f, .int .i64 x.l, .int .i64 x.s, .int .i64 x.st, .int .i64 x.ba, .int .i64 x.se, .slice A m c]) 39)).alloc (.cells (List.toArray [.int .i64 0, .int .i64 0, .int .i64 0, .int .i64 0, .int .i64 0, .int .i64 0, .slice none 0 0]) 39)) (w.heap.size + 1) 39 [.int .i64 0, .int .i64 0, .int .i64 0, .int .i64 0, .int .i64 0, .int .i64 0, .slice none 0 0] := by have h := Blk.new (w.alloc (.cells (List.toArray [.int .i64 x.f, .int .i64 x.l, .int .i64 x.s, .int .i64 x.st, .int .i64 x.ba, .int .i64 x.se, .slice A m c]) 39)) 39 [.int .i64 0, .int .i64 0, .int .i64 0, .int .i64 0, .int .i64 0, .int .i64 0, .slice none 0 0]; rwa [World.size_alloc] at h
  have z0 : Below w.heap.size w ((w.alloc (.cells (List.toArray [.int .i64 x.f, .int .i64 x.l, .int .i64 x.s, .int .i64 x.st, .int .i64 x.ba, .int .i64 x.se, .slice A m c]) 39)).alloc (.cells (List.toArray [.int .i64 0, .int .i64 0, .int .i64 0, .int .i64 0, .int .i64 0, .int .i64 0, .slice none 0 0]) 39)) := ext_alloc (ext_alloc (ext_refl w) _) _
  cases h1 : svcOk x t with
  | false =>
    have e0 : restOk x t = false := restOk_bad h1
    rw [restR_no e0, e0]
    clear e0
    go_enter Try.func29, Try.ntmps29
    go_wp2_with fail
    refine (hfLater_any ⟨x, A, m, c⟩ t _ hm (hr.below z0)).mono ?_; rintro e w1 ⟨rfl, hb1⟩
    have b1 := b0.below hb1
    have r1 := r0.below hb1
    have z1 := ext_trans z0 hb1
    obtain ⟨yb1, xb1, cb1, fb1⟩ := b1.seven
    obtain ⟨yr1, xr1, cr1, fr1⟩ := r1.seven
    rw [show svcOk (SesV.toSes ⟨x, A, m, c⟩) t = false from h1]
    go_wp2_with fail
    exact bodyPost_ret (v := .tuple #[.agg #[.int .i64 0, .int .i64 0, .int .i64 0, .int .i64 0, .int .i64 0, .int .i64 0, .slice none 0 0], .bool false]) (res_cell2 Try.results29 _ rfl (((((((r1.set_ 0 (.int .i64 0)).set_ 1 (.int .i64 0)).set_ 2 (.int .i64 0)).set_ 3 (.int .i64 0)).set_ 4 (.int .i64 0)).set_ 5 (.int .i64 0)).set_ 6 (.slice none 0 0)) Try.underlying39 rfl (by kernel_rfl)) rfl ⟨none, 0, rfl, World.ownsRow_nil _ _ _ _, (((((((z1.setCell (p := ⟨w.heap.size + 1, 0, none⟩) (by simp) (.int .i64 0)).setCell (p := ⟨w.heap.size + 1, 1, none⟩) (by simp) (.int .i64 0)).setCell (p := ⟨w.heap.size + 1, 2, none⟩) (by simp) (.int .i64 0)).setCell (p := ⟨w.heap.size + 1, 3, none⟩) (by simp) (.int .i64 0)).setCell (p := ⟨w.heap.size + 1, 4, none⟩) (by simp) (.int .i64 0)).setCell (p := ⟨w.heap.size + 1, 5, none⟩) (by simp) (.int .i64 0)).setCell (p := ⟨w.heap.size + 1, 6, none⟩) (by simp) (.slice none 0 0))⟩
  | true =>
    by_cases hbig : 1000000 < x.se
    · 
      have e0 : restOk x t = false := restOk_big hbig
      rw [restR_no e0, e0]
      clear e0
      go_enter Try.func29, Try.ntmps29
      go_wp2_with fail
      refine (hfLater_any ⟨x, A, m, c⟩ t _ hm (hr.below z0)).mono ?_; rintro e w1 ⟨rfl, hb1⟩
      have b1 := b0.below hb1
      have r1 := r0.below hb1
      have z1 := ext_trans z0 hb1
      obtain ⟨yb1, xb1, cb1, fb1⟩ := b1.seven
      obtain ⟨yr1, xr1, cr1, fr1⟩ := r1.seven
      rw [show svcOk (SesV.toSes ⟨x, A, m, c⟩) t = true from h1]
      go_wp2_with fail
      exact bodyPost_ret (v := .tuple #[.agg #[.int .i64 0, .int .i64 0, .int .i64 0, .int .i64 0, .int .i64 0, .int .i64 0, .slice none 0 0], .bool false]) (res_cell2 Try.results29 _ rfl (((((((r1.set_ 0 (.int .i64 0)).set_ 1 (.int .i64 0)).set_ 2 (.int .i64 0)).set_ 3 (.int .i64 0)).set_ 4 (.int .i64 0)).set_ 5 (.int .i64 0)).set_ 6 (.slice none 0 0)) Try.underlying39 rfl (by kernel_rfl)) rfl ⟨none, 0, rfl, World.ownsRow_nil _ _ _ _, (((((((z1.setCell (p := ⟨w.heap.size + 1, 0, none⟩) (by simp) (.int .i64 0)).setCell (p := ⟨w.heap.size + 1, 1, none⟩) (by simp) (.int .i64 0)).setCell (p := ⟨w.heap.size + 1, 2, none⟩) (by simp) (.int .i64 0)).setCell (p := ⟨w.heap.size + 1, 3, none⟩) (by simp) (.int .i64 0)).setCell (p := ⟨w.heap.size + 1, 4, none⟩) (by simp) (.int .i64 0)).setCell (p := ⟨w.heap.size + 1, 5, none⟩) (by simp) (.int .i64 0)).setCell (p := ⟨w.heap.size + 1, 6, none⟩) (by simp) (.slice none 0 0))⟩
    · have hse : x.se ≤ 1000000 := by omega
      have hh := svcOk_iff.1 h1
      have HH := Lib.hid hh
      have HSE := Lib.hid hse
      have ek := restOk_yes h1 hse
      cases hbd : restBad x t with
      | true =>
        rw [restR_old ek hbd, ek]
        clear ek hh hse
        go_enter Try.func29, Try.ntmps29
        go_wp2_with fail
        refine (hfLater_any ⟨x, A, m, c⟩ t _ hm (hr.below z0)).mono ?_; rintro e w1 ⟨rfl, hb1⟩
        have b1 := b0.below hb1
        have r1 := r0.below hb1
        have z1 := ext_trans z0 hb1
        obtain ⟨yb1, xb1, cb1, fb1⟩ := b1.seven
        obtain ⟨yr1, xr1, cr1, fr1⟩ := r1.seven
        rw [show svcOk (SesV.toSes ⟨x, A, m, c⟩) t = true from h1]
        go_wp2_with fail
        refine (hfOwn_at x A m c _ hm (hr.below z1)).mono ?_; rintro e w2 ⟨A2, c2, rfl, ow2, hb2⟩
        clear yb1 xb1 cb1 fb1 yr1 xr1 cr1 fr1
        have b2 := (b1.below hb2).alloc (.cells (List.toArray [.int .i64 x.f, .int .i64 x.l, .int .i64 x.s, .int .i64 t, .int .i64 x.se, .int .i64 x.se, .slice A2 x.zs.length c2]) 39)
        have r2 := (r1.below hb2).alloc (.cells (List.toArray [.int .i64 x.f, .int .i64 x.l, .int .i64 x.s, .int .i64 t, .int .i64 x.se, .int .i64 x.se, .slice A2 x.zs.length c2]) 39)
        have o2 := Blk.new w2 39 [.int .i64 x.f, .int .i64 x.l, .int .i64 x.s, .int .i64 t, .int .i64 x.se, .int .i64 x.se, .slice A2 x.zs.length c2]
        have z2 := ext_alloc (ext_trans z1 hb2) (.cells (List.toArray [.int .i64 x.f, .int .i64 x.l, .int .i64 x.s, .int .i64 t, .int .i64 x.se, .int .i64 x.se, .slice A2 x.zs.length c2]) 39)
        obtain ⟨yq, xq, cq, fq⟩ := (b1.below hb2).seven
        have hbl2 : w.heap.size < w2.heap.size := by have := (b1.below hb2).lt; exact this
        obtain ⟨yb2, xb2, cb2, fb2⟩ := b2.seven
        obtain ⟨yr2, xr2, cr2, fr2⟩ := r2.seven
        obtain ⟨yo2, xo2, co2, fo2⟩ := o2.seven
        go_wp2_with fail
        refine (hfBelow_at x t A2 x.zs.length c2 A m c _ HH.out.1 HSE.out HH.out.2.1 HH.out.2.2).mono ?_; rintro e w3 ⟨rfl, hb3⟩
        clear yq xq cq fq
        clear yb2 xb2 cb2 fb2 yr2 xr2 cr2 fr2 yo2 xo2 co2 fo2
        have b3 := b2.below hb3
        have r3 := r2.below hb3
        have z3 := ext_trans z2 hb3
        obtain ⟨yb3, xb3, cb3, fb3⟩ := b3.seven
        obtain ⟨yr3, xr3, cr3, fr3⟩ := r3.seven
        rw [hbd]
        go_wp2_with fail
        refine (hfOwn_at x A m c _ hm (hr.below z3)).mono ?_; rintro e w4 ⟨A4, c4, rfl, ow4, hb4⟩
        clear yb3 xb3 cb3 fb3 yr3 xr3 cr3 fr3
        have b4 := b3.below hb4
        have r4 := r3.below hb4
        have z4 := ext_trans z3 hb4
        obtain ⟨yb4, xb4, cb4, fb4⟩ := b4.seven
        obtain ⟨yr4, xr4, cr4, fr4⟩ := r4.seven
        have own4 := own_base ow4 z3.size
        go_wp2_with fail
        have gB := (grownBy_setCell (grownBy_setCell (grownBy_setCell (grownBy_setCell (grownBy_setCell (grownBy_setCell (grownBy_setCell (World.grownBy.refl w4 (some (w.heap.size + 1))) 0 (.int .i64 x.f)) 1 (.int .i64 x.l)) 2 (.int .i64 x.s)) 3 (.int .i64 x.st)) 4 (.int .i64 x.ba)) 5 (.int .i64 x.se)) 6 (.slice A4 x.zs.length c4))
        exact bodyPost_ret (v := .tuple #[.agg #[.int .i64 x.f, .int .i64 x.l, .int .i64 x.s, .int .i64 x.st, .int .i64 x.ba, .int .i64 x.se, .slice A4 x.zs.length c4], .bool true]) (res_cell2 Try.results29 _ rfl (((((((r4.set_ 0 (.int .i64 x.f)).set_ 1 (.int .i64 x.l)).set_ 2 (.int .i64 x.s)).set_ 3 (.int .i64 x.st)).set_ 4 (.int .i64 x.ba)).set_ 5 (.int .i64 x.se)).set_ 6 (.slice A4 x.zs.length c4)) Try.underlying39 rfl (by kernel_rfl)) rfl ⟨A4, c4, rfl, own4.kept gB (.inr fun e => box_ne own4 r4 (by decide) e.symm), (((((((z4.setCell (p := ⟨w.heap.size + 1, 0, none⟩) (by simp) (.int .i64 x.f)).setCell (p := ⟨w.heap.size + 1, 1, none⟩) (by simp) (.int .i64 x.l)).setCell (p := ⟨w.heap.size + 1, 2, none⟩) (by simp) (.int .i64 x.s)).setCell (p := ⟨w.heap.size + 1, 3, none⟩) (by simp) (.int .i64 x.st)).setCell (p := ⟨w.heap.size + 1, 4, none⟩) (by simp) (.int .i64 x.ba)).setCell (p := ⟨w.heap.size + 1, 5, none⟩) (by simp) (.int .i64 x.se)).setCell (p := ⟨w.heap.size + 1, 6, none⟩) (by simp) (.slice A4 x.zs.length c4))⟩
      | false =>
        rw [restR_new ek hbd, ek]
        clear ek hh hse
        go_enter Try.func29, Try.ntmps29
        go_wp2_with fail
        refine (hfLater_any ⟨x, A, m, c⟩ t _ hm (hr.below z0)).mono ?_; rintro e w1 ⟨rfl, hb1⟩
        have b1 := b0.below hb1
        have r1 := r0.below hb1
        have z1 := ext_trans z0 hb1
        obtain ⟨yb1, xb1, cb1, fb1⟩ := b1.seven
        obtain ⟨yr1, xr1, cr1, fr1⟩ := r1.seven
        rw [show svcOk (SesV.toSes ⟨x, A, m, c⟩) t = true from h1]
        go_wp2_with fail
        refine (hfOwn_at x A m c _ hm (hr.below z1)).mono ?_; rintro e w2 ⟨A2, c2, rfl, ow2, hb2⟩
        clear yb1 xb1 cb1 fb1 yr1 xr1 cr1 fr1
        have b2 := (b1.below hb2).alloc (.cells (List.toArray [.int .i64 x.f, .int .i64 x.l, .int .i64 x.s, .int .i64 t, .int .i64 x.se, .int .i64 x.se, .slice A2 x.zs.length c2]) 39)
        have r2 := (r1.below hb2).alloc (.cells (List.toArray [.int .i64 x.f, .int .i64 x.l, .int .i64 x.s, .int .i64 t, .int .i64 x.se, .int .i64 x.se, .slice A2 x.zs.length c2]) 39)
        have o2 := Blk.new w2 39 [.int .i64 x.f, .int .i64 x.l, .int .i64 x.s, .int .i64 t, .int .i64 x.se, .int .i64 x.se, .slice A2 x.zs.length c2]
        have z2 := ext_alloc (ext_trans z1 hb2) (.cells (List.toArray [.int .i64 x.f, .int .i64 x.l, .int .i64 x.s, .int .i64 t, .int .i64 x.se, .int .i64 x.se, .slice A2 x.zs.length c2]) 39)
        have own2 := (own_base ow2 z1.size).alloc (.cells (List.toArray [.int .i64 x.f, .int .i64 x.l, .int .i64 x.s, .int .i64 t, .int .i64 x.se, .int .i64 x.se, .slice A2 x.zs.length c2]) 39)
        obtain ⟨yq, xq, cq, fq⟩ := (b1.below hb2).seven
        have hbl2 : w.heap.size < w2.heap.size := by have := (b1.below hb2).lt; exact this
        obtain ⟨yb2, xb2, cb2, fb2⟩ := b2.seven
        obtain ⟨yr2, xr2, cr2, fr2⟩ := r2.seven
        obtain ⟨yo2, xo2, co2, fo2⟩ := o2.seven
        go_wp2_with fail
        refine (hfBelow_at x t A2 x.zs.length c2 A m c _ HH.out.1 HSE.out HH.out.2.1 HH.out.2.2).mono ?_; rintro e w3 ⟨rfl, hb3⟩
        clear yq xq cq fq
        clear yb2 xb2 cb2 fb2 yr2 xr2 cr2 fr2 yo2 xo2 co2 fo2
        have b3 := b2.below hb3
        have r3 := r2.below hb3
        have o3 := o2.below hb3
        have z3 := ext_trans z2 hb3
        obtain ⟨yb3, xb3, cb3, fb3⟩ := b3.seven
        obtain ⟨yr3, xr3, cr3, fr3⟩ := r3.seven
        obtain ⟨yo3, xo3, co3, fo3⟩ := o3.seven
        have own3 := own_ext own2 hb3
        rw [hbd]
        go_wp2_with fail
        have gB := (grownBy_setCell (grownBy_setCell (grownBy_setCell (grownBy_setCell (grownBy_setCell (grownBy_setCell (grownBy_setCell (World.grownBy.refl w3 (some (w.heap.size + 1))) 0 (.int .i64 x.f)) 1 (.int .i64 x.l)) 2 (.int .i64 x.s)) 3 (.int .i64 t)) 4 (.int .i64 x.se)) 5 (.int .i64 x.se)) 6 (.slice A2 x.zs.length c2))
        exact bodyPost_ret (v := .tuple #[.agg #[.int .i64 x.f, .int .i64 x.l, .int .i64 x.s, .int .i64 t, .int .i64 x.se, .int .i64 x.se, .slice A2 x.zs.length c2], .bool true]) (res_cell2 Try.results29 _ rfl (((((((r3.set_ 0 (.int .i64 x.f)).set_ 1 (.int .i64 x.l)).set_ 2 (.int .i64 x.s)).set_ 3 (.int .i64 t)).set_ 4 (.int .i64 x.se)).set_ 5 (.int .i64 x.se)).set_ 6 (.slice A2 x.zs.length c2)) Try.underlying39 rfl (by kernel_rfl)) rfl ⟨A2, c2, rfl, own3.kept gB (.inr fun e => box_ne own3 r3 (by decide) e.symm), (((((((z3.setCell (p := ⟨w.heap.size + 1, 0, none⟩) (by simp) (.int .i64 x.f)).setCell (p := ⟨w.heap.size + 1, 1, none⟩) (by simp) (.int .i64 x.l)).setCell (p := ⟨w.heap.size + 1, 2, none⟩) (by simp) (.int .i64 x.s)).setCell (p := ⟨w.heap.size + 1, 3, none⟩) (by simp) (.int .i64 t)).setCell (p := ⟨w.heap.size + 1, 4, none⟩) (by simp) (.int .i64 x.se)).setCell (p := ⟨w.heap.size + 1, 5, none⟩) (by simp) (.int .i64 x.se)).setCell (p := ⟨w.heap.size + 1, 6, none⟩) (by simp) (.slice A2 x.zs.length c2))⟩

def RRel (w : World) (gO gU : Nat) (x : Ses) (t : Int) (CB CR CO : List Value) (A2 : Option Addr) (c2 : Nat) (i : Value) (wr : World) : Prop :=
  ∃ k : Nat, k ≤ 4 ∧ i = .int .i64 k ∧ (∀ j u, j < k → (usL x t)[j]? = some u → badU x t u = false) ∧ Blk wr gU 3 ((usL x t).map (Value.int .i64)) ∧ Blk wr w.heap.size 39 CB ∧ Blk wr (w.heap.size + 1) 39 CR ∧ Blk wr gO 39 CO ∧
    wr.ownsRow w.heap.size 3 1 (.slice A2 x.zs.length c2) x.zs.length (x.zs.map (Value.int .i64)) ∧ Below w.heap.size w wr
theorem bad_lo {x : Ses} {t u : Int} (h : ¬ t ≤ u) : badU x t u = false := by simp [badU, h]
theorem bad_hi {x : Ses} {t u : Int} (h : ¬ u ≤ 100000) : badU x t u = false := by simp [badU, h]
theorem bad_at {x : Ses} {t u : Int} (h : t ≤ u) (h2 : u ≤ 100000) : badU x t u = decide (srvI x u < srvI (outS x t) u) := by simp [badU, h, h2]
theorem us_bd {x : Ses} {t : Int} (h : SesOk x) (ht : 0 ≤ t ∧ t ≤ 100000) {k : Nat} {u : Int} (hu : (usL x t)[k]? = some u) : 0 ≤ u ∧ u ≤ 200000 := by
  have := List.mem_of_getElem? hu
  have h1 := h.st
  have h2 := h.l
  simp only [usL, List.mem_cons, List.not_mem_nil, or_false] at this
  omega
theorem no_more {x : Ses} {t u : Int} {k : Nat} (hall : ∀ j u, j < k → (usL x t)[j]? = some u → badU x t u = false) (hu : (usL x t)[k]? = some u) (hb : badU x t u = false) : ∀ j v, j < k + 1 → (usL x t)[j]? = some v → badU x t v = false := by
  intro j v hj hv
  by_cases hjk : j = k
  · subst hjk
    have e := hu.symm.trans hv
    injection e with e
    subst e
    exact hb
  · exact hall j v (by omega) hv

set_option maxRecDepth 100000 in
set_option maxHeartbeats 4000000 in
theorem implRestartSession_at (x : Ses) (t : Int) (A : Option Addr) (m c : Nat) (w : World) (hm : m ≤ 1048576) (_hmc : m ≤ c) (hr : Rd w 1 A m (x.zs.map (Value.int .i64))) :
    Calls Try.prog 30 #[.agg #[.int .i64 x.f, .int .i64 x.l, .int .i64 x.s, .int .i64 x.st, .int .i64 x.ba, .int .i64 x.se, .slice A m c], .int .i64 t] w fun e w' => ∃ A' c', e = .returned (.tuple #[.agg #[.int .i64 (restR x t).f, .int .i64 (restR x t).l, .int .i64 (restR x t).s, .int .i64 (restR x t).st, .int .i64 (restR x t).ba, .int .i64 (restR x t).se, .slice A' (restR x t).zs.length c'], .bool (restOk x t)]) ∧ w'.ownsRow w.heap.size 3 1 (.slice A' (restR x t).zs.length c') (restR x t).zs.length ((restR x t).zs.map (Value.int .i64)) ∧ Below w.heap.size w w' := by
  have b0 : Blk ((w.alloc (.cells (List.toArray [.int .i64 x.f, .int .i64 x.l, .int .i64 x.s, .int .i64 x.st, .int .i64 x.ba, .int .i64 x.se, .slice A m c]) 39)).alloc (.cells (List.toArray [.int .i64 0, .int .i64 0, .int .i64 0, .int .i64 0, .int .i64 0, .int .i64 0, .slice none 0 0]) 39)) w.heap.size 39 [.int .i64 x.f, .int .i64 x.l, .int .i64 x.s, .int .i64 x.st, .int .i64 x.ba, .int .i64 x.se, .slice A m c] := (Blk.new w 39 [.int .i64 x.f, .int .i64 x.l, .int .i64 x.s, .int .i64 x.st, .int .i64 x.ba, .int .i64 x.se, .slice A m c]).alloc _
  have r0 : Blk ((w.alloc (.cells (List.toArray [.int .i64 x.f, .int .i64 x.l, .int .i64 x.s, .int .i64 x.st, .int .i64 x.ba, .int .i64 x.se, .slice A m c]) 39)).alloc (.cells (List.toArray [.int .i64 0, .int .i64 0, .int .i64 0, .int .i64 0, .int .i64 0, .int .i64 0, .slice none 0 0]) 39)) (w.heap.size + 1) 39 [.int .i64 0, .int .i64 0, .int .i64 0, .int .i64 0, .int .i64 0, .int .i64 0, .slice none 0 0] := by have h := Blk.new (w.alloc (.cells (List.toArray [.int .i64 x.f, .int .i64 x.l, .int .i64 x.s, .int .i64 x.st, .int .i64 x.ba, .int .i64 x.se, .slice A m c]) 39)) 39 [.int .i64 0, .int .i64 0, .int .i64 0, .int .i64 0, .int .i64 0, .int .i64 0, .slice none 0 0]; rwa [World.size_alloc] at h
  have z0 : Below w.heap.size w ((w.alloc (.cells (List.toArray [.int .i64 x.f, .int .i64 x.l, .int .i64 x.s, .int .i64 x.st, .int .i64 x.ba, .int .i64 x.se, .slice A m c]) 39)).alloc (.cells (List.toArray [.int .i64 0, .int .i64 0, .int .i64 0, .int .i64 0, .int .i64 0, .int .i64 0, .slice none 0 0]) 39)) := ext_alloc (ext_alloc (ext_refl w) _) _
  cases h1 : sesB x with
  | false =>
    have e0 : restOk x t = false := restOk_bad (by simp [svcOk, h1])
    rw [restR_no e0, e0]
    clear e0
    go_enter Try.func30, Try.ntmps30
    go_wp2_with fail
    refine (implIsSession_at x A m c _ hm (hr.below z0)).mono ?_; rintro e w1 ⟨rfl, hb1⟩
    have b1 := b0.below hb1
    have r1 := r0.below hb1
    have z1 := ext_trans z0 hb1
    obtain ⟨yb1, xb1, cb1, fb1⟩ := b1.seven
    obtain ⟨yr1, xr1, cr1, fr1⟩ := r1.seven
    rw [h1]
    go_wp2_with (go_at_call 56; refine (isTime_any _ _).mono ?_; rintro e w' ⟨rfl, rfl⟩)
    exact bodyPost_ret (v := .tuple #[.agg #[.int .i64 0, .int .i64 0, .int .i64 0, .int .i64 0, .int .i64 0, .int .i64 0, .slice none 0 0], .bool false]) (res_cell2 Try.results30 _ rfl (((((((r1.set_ 0 (.int .i64 0)).set_ 1 (.int .i64 0)).set_ 2 (.int .i64 0)).set_ 3 (.int .i64 0)).set_ 4 (.int .i64 0)).set_ 5 (.int .i64 0)).set_ 6 (.slice none 0 0)) Try.underlying39 rfl (by kernel_rfl)) rfl ⟨none, 0, rfl, World.ownsRow_nil _ _ _ _, (((((((z1.setCell (p := ⟨w.heap.size + 1, 0, none⟩) (by simp) (.int .i64 0)).setCell (p := ⟨w.heap.size + 1, 1, none⟩) (by simp) (.int .i64 0)).setCell (p := ⟨w.heap.size + 1, 2, none⟩) (by simp) (.int .i64 0)).setCell (p := ⟨w.heap.size + 1, 3, none⟩) (by simp) (.int .i64 0)).setCell (p := ⟨w.heap.size + 1, 4, none⟩) (by simp) (.int .i64 0)).setCell (p := ⟨w.heap.size + 1, 5, none⟩) (by simp) (.int .i64 0)).setCell (p := ⟨w.heap.size + 1, 6, none⟩) (by simp) (.slice none 0 0))⟩
  | true =>
    have HOK := Lib.hid (sesB_iff.1 h1)
    have hst := HOK.out.st
    have hlb := HOK.out.l
    cases h2 : inB t 0 100000 with
    | false =>
      have e00 : svcOk x t = false := by
        rw [Bool.eq_false_iff]; intro h; have := svcOk_iff.1 h; have := inB_not h2; omega
      have e0 : restOk x t = false := restOk_bad e00
      rw [restR_no e0, e0]
      clear e0
      go_enter Try.func30, Try.ntmps30
      go_wp2_with fail
      refine (implIsSession_at x A m c _ hm (hr.below z0)).mono ?_; rintro e w1 ⟨rfl, hb1⟩
      have b1 := b0.below hb1
      have r1 := r0.below hb1
      have z1 := ext_trans z0 hb1
      obtain ⟨yb1, xb1, cb1, fb1⟩ := b1.seven
      obtain ⟨yr1, xr1, cr1, fr1⟩ := r1.seven
      rw [h1]
      go_wp2_with (go_at_call 56; refine (isTime_any _ _).mono ?_; rintro e w' ⟨rfl, rfl⟩)
      exact bodyPost_ret (v := .tuple #[.agg #[.int .i64 0, .int .i64 0, .int .i64 0, .int .i64 0, .int .i64 0, .int .i64 0, .slice none 0 0], .bool false]) (res_cell2 Try.results30 _ rfl (((((((r1.set_ 0 (.int .i64 0)).set_ 1 (.int .i64 0)).set_ 2 (.int .i64 0)).set_ 3 (.int .i64 0)).set_ 4 (.int .i64 0)).set_ 5 (.int .i64 0)).set_ 6 (.slice none 0 0)) Try.underlying39 rfl (by kernel_rfl)) rfl ⟨none, 0, rfl, World.ownsRow_nil _ _ _ _, (((((((z1.setCell (p := ⟨w.heap.size + 1, 0, none⟩) (by simp) (.int .i64 0)).setCell (p := ⟨w.heap.size + 1, 1, none⟩) (by simp) (.int .i64 0)).setCell (p := ⟨w.heap.size + 1, 2, none⟩) (by simp) (.int .i64 0)).setCell (p := ⟨w.heap.size + 1, 3, none⟩) (by simp) (.int .i64 0)).setCell (p := ⟨w.heap.size + 1, 4, none⟩) (by simp) (.int .i64 0)).setCell (p := ⟨w.heap.size + 1, 5, none⟩) (by simp) (.int .i64 0)).setCell (p := ⟨w.heap.size + 1, 6, none⟩) (by simp) (.slice none 0 0))⟩
    | true =>
      have ht := inB_iff.1 h2
      by_cases h3 : t < x.st
      · have e00 : svcOk x t = false := by
          rw [Bool.eq_false_iff]; intro h; have := svcOk_iff.1 h; omega
        have e0 : restOk x t = false := restOk_bad e00
        rw [restR_no e0, e0]
        clear e0
        go_enter Try.func30, Try.ntmps30
        go_wp2_with fail
        refine (implIsSession_at x A m c _ hm (hr.below z0)).mono ?_; rintro e w1 ⟨rfl, hb1⟩
        have b1 := b0.below hb1
        have r1 := r0.below hb1
        have z1 := ext_trans z0 hb1
        obtain ⟨yb1, xb1, cb1, fb1⟩ := b1.seven
        obtain ⟨yr1, xr1, cr1, fr1⟩ := r1.seven
        rw [h1]
        go_wp2_with (go_at_call 56; refine (isTime_any _ _).mono ?_; rintro e w' ⟨rfl, rfl⟩)
        exact bodyPost_ret (v := .tuple #[.agg #[.int .i64 0, .int .i64 0, .int .i64 0, .int .i64 0, .int .i64 0, .int .i64 0, .slice none 0 0], .bool false]) (res_cell2 Try.results30 _ rfl (((((((r1.set_ 0 (.int .i64 0)).set_ 1 (.int .i64 0)).set_ 2 (.int .i64 0)).set_ 3 (.int .i64 0)).set_ 4 (.int .i64 0)).set_ 5 (.int .i64 0)).set_ 6 (.slice none 0 0)) Try.underlying39 rfl (by kernel_rfl)) rfl ⟨none, 0, rfl, World.ownsRow_nil _ _ _ _, (((((((z1.setCell (p := ⟨w.heap.size + 1, 0, none⟩) (by simp) (.int .i64 0)).setCell (p := ⟨w.heap.size + 1, 1, none⟩) (by simp) (.int .i64 0)).setCell (p := ⟨w.heap.size + 1, 2, none⟩) (by simp) (.int .i64 0)).setCell (p := ⟨w.heap.size + 1, 3, none⟩) (by simp) (.int .i64 0)).setCell (p := ⟨w.heap.size + 1, 4, none⟩) (by simp) (.int .i64 0)).setCell (p := ⟨w.heap.size + 1, 5, none⟩) (by simp) (.int .i64 0)).setCell (p := ⟨w.heap.size + 1, 6, none⟩) (by simp) (.slice none 0 0))⟩
      · by_cases hbig : 1000000 < x.se
        · 
          have e0 : restOk x t = false := restOk_big hbig
          rw [restR_no e0, e0]
          clear e0
          go_enter Try.func30, Try.ntmps30
          go_wp2_with fail
          refine (implIsSession_at x A m c _ hm (hr.below z0)).mono ?_; rintro e w1 ⟨rfl, hb1⟩
          have b1 := b0.below hb1
          have r1 := r0.below hb1
          have z1 := ext_trans z0 hb1
          obtain ⟨yb1, xb1, cb1, fb1⟩ := b1.seven
          obtain ⟨yr1, xr1, cr1, fr1⟩ := r1.seven
          rw [h1]
          go_wp2_with (go_at_call 56; refine (isTime_any _ _).mono ?_; rintro e w' ⟨rfl, rfl⟩)
          exact bodyPost_ret (v := .tuple #[.agg #[.int .i64 0, .int .i64 0, .int .i64 0, .int .i64 0, .int .i64 0, .int .i64 0, .slice none 0 0], .bool false]) (res_cell2 Try.results30 _ rfl (((((((r1.set_ 0 (.int .i64 0)).set_ 1 (.int .i64 0)).set_ 2 (.int .i64 0)).set_ 3 (.int .i64 0)).set_ 4 (.int .i64 0)).set_ 5 (.int .i64 0)).set_ 6 (.slice none 0 0)) Try.underlying39 rfl (by kernel_rfl)) rfl ⟨none, 0, rfl, World.ownsRow_nil _ _ _ _, (((((((z1.setCell (p := ⟨w.heap.size + 1, 0, none⟩) (by simp) (.int .i64 0)).setCell (p := ⟨w.heap.size + 1, 1, none⟩) (by simp) (.int .i64 0)).setCell (p := ⟨w.heap.size + 1, 2, none⟩) (by simp) (.int .i64 0)).setCell (p := ⟨w.heap.size + 1, 3, none⟩) (by simp) (.int .i64 0)).setCell (p := ⟨w.heap.size + 1, 4, none⟩) (by simp) (.int .i64 0)).setCell (p := ⟨w.heap.size + 1, 5, none⟩) (by simp) (.int .i64 0)).setCell (p := ⟨w.heap.size + 1, 6, none⟩) (by simp) (.slice none 0 0))⟩
        · have hse : x.se ≤ 1000000 := by omega
          have ek := restOk_yes (svcOk_iff.2 ⟨HOK.out, by omega, ht.2⟩) hse
          have EK := Lib.hid ek
          have hok2 := out_ok HOK.out ht hse
          have hcA : ∀ u A m c w, 0 ≤ u → u ≤ 100000 → Calls Try.prog 60 #[.agg #[.int .i64 x.f, .int .i64 x.l, .int .i64 x.s, .int .i64 t, .int .i64 x.se, .int .i64 x.se, .slice A m c], .int .i64 u] w fun e w' => e = .returned (.int .i64 (srvI (outS x t) u)) ∧ Below w.heap.size w w' := fun u A m c w h1 h2 => serviceAt_any ⟨outS x t, A, m, c⟩ u w hok2 h1 (by omega) (by simp only [outS]; omega)
          have hcB : ∀ u w, 0 ≤ u → u ≤ 100000 → Calls Try.prog 60 #[.agg #[.int .i64 x.f, .int .i64 x.l, .int .i64 x.s, .int .i64 x.st, .int .i64 x.ba, .int .i64 x.se, .slice A m c], .int .i64 u] w fun e w' => e = .returned (.int .i64 (srvI x u)) ∧ Below w.heap.size w w' := fun u w h1 h2 => serviceAt_any ⟨x, A, m, c⟩ u w HOK.out h1 (by omega) (by simp only; omega)
          have HUB := Lib.hid (fun k u => us_bd (k := k) (u := u) HOK.out ht)
          clear ek hok2
          go_enter Try.func30, Try.ntmps30
          go_wp2_with fail
          refine (implIsSession_at x A m c _ hm (hr.below z0)).mono ?_; rintro e w1 ⟨rfl, hb1⟩
          have b1 := b0.below hb1
          have r1 := r0.below hb1
          have z1 := ext_trans z0 hb1
          obtain ⟨yb1, xb1, cb1, fb1⟩ := b1.seven
          obtain ⟨yr1, xr1, cr1, fr1⟩ := r1.seven
          rw [h1]
          go_wp2_with (go_at_call 56; refine (isTime_any _ _).mono ?_; rintro e w' ⟨rfl, rfl⟩)
          refine (copySession_at x A m c _ hm (hr.below z1)).mono ?_; rintro e w2 ⟨A2, c2, rfl, ow2, hb2⟩
          clear yb1 xb1 cb1 fb1 yr1 xr1 cr1 fr1
          have b2 := ((b1.below hb2).alloc (.cells (List.toArray [.int .i64 x.f, .int .i64 x.l, .int .i64 x.s, .int .i64 t, .int .i64 x.se, .int .i64 x.se, .slice A2 x.zs.length c2]) 39)).alloc (.cells (List.toArray [.int .i64 t, .int .i64 (x.st + x.l), .int .i64 (t + x.l), .int .i64 100000]) 3)
          have r2 := ((r1.below hb2).alloc (.cells (List.toArray [.int .i64 x.f, .int .i64 x.l, .int .i64 x.s, .int .i64 t, .int .i64 x.se, .int .i64 x.se, .slice A2 x.zs.length c2]) 39)).alloc (.cells (List.toArray [.int .i64 t, .int .i64 (x.st + x.l), .int .i64 (t + x.l), .int .i64 100000]) 3)
          have o2 := (Blk.new w2 39 [.int .i64 x.f, .int .i64 x.l, .int .i64 x.s, .int .i64 t, .int .i64 x.se, .int .i64 x.se, .slice A2 x.zs.length c2]).alloc (.cells (List.toArray [.int .i64 t, .int .i64 (x.st + x.l), .int .i64 (t + x.l), .int .i64 100000]) 3)
          have u2 : Blk ((w2.alloc (.cells (List.toArray [.int .i64 x.f, .int .i64 x.l, .int .i64 x.s, .int .i64 t, .int .i64 x.se, .int .i64 x.se, .slice A2 x.zs.length c2]) 39)).alloc (.cells (List.toArray [.int .i64 t, .int .i64 (x.st + x.l), .int .i64 (t + x.l), .int .i64 100000]) 3)) (w2.heap.size + 1) 3 ((usL x t).map (Value.int .i64)) := by have h := Blk.new (w2.alloc (.cells (List.toArray [.int .i64 x.f, .int .i64 x.l, .int .i64 x.s, .int .i64 t, .int .i64 x.se, .int .i64 x.se, .slice A2 x.zs.length c2]) 39)) 3 [.int .i64 t, .int .i64 (x.st + x.l), .int .i64 (t + x.l), .int .i64 100000]; rw [World.size_alloc] at h; exact h
          have z2 := ext_alloc (ext_alloc (ext_trans z1 hb2) (.cells (List.toArray [.int .i64 x.f, .int .i64 x.l, .int .i64 x.s, .int .i64 t, .int .i64 x.se, .int .i64 x.se, .slice A2 x.zs.length c2]) 39)) (.cells (List.toArray [.int .i64 t, .int .i64 (x.st + x.l), .int .i64 (t + x.l), .int .i64 100000]) 3)
          have own2 := ((own_base ow2 z1.size).alloc (.cells (List.toArray [.int .i64 x.f, .int .i64 x.l, .int .i64 x.s, .int .i64 t, .int .i64 x.se, .int .i64 x.se, .slice A2 x.zs.length c2]) 39)).alloc (.cells (List.toArray [.int .i64 t, .int .i64 (x.st + x.l), .int .i64 (t + x.l), .int .i64 100000]) 3)
          obtain ⟨yq, xq, cq, fq⟩ := (b1.below hb2).seven
          have q3 := ((b1.below hb2).alloc (.cells (List.toArray [.int .i64 x.f, .int .i64 x.l, .int .i64 x.s, .int .i64 t, .int .i64 x.se, .int .i64 x.se, .slice A2 x.zs.length c2]) 39)).seven
          obtain ⟨yv, xv, cv, fv⟩ := q3
          have hbl2 : w.heap.size < w2.heap.size := by have := (b1.below hb2).lt; exact this
          go_wp2_with fail
          clear yq xq cq fq yv xv cv fv
          generalize hgO : w2.heap.size = gO at *
          generalize hgU : gO + 1 = gU at *
          go_loopw [50] (RRel w gO gU x t [.int .i64 x.f, .int .i64 x.l, .int .i64 x.s, .int .i64 x.st, .int .i64 x.ba, .int .i64 x.se, .slice A m c] [.int .i64 0, .int .i64 0, .int .i64 0, .int .i64 0, .int .i64 0, .int .i64 0, .slice none 0 0] [.int .i64 x.f, .int .i64 x.l, .int .i64 x.s, .int .i64 t, .int .i64 x.se, .int .i64 x.se, .slice A2 x.zs.length c2] A2 c2) (fun i _ => 4 - (intOf i).toNat)
          case atStart => exact ⟨0, Nat.zero_le _, rfl, fun j u hj => by omega, u2, b2, r2, o2, own2, z2⟩
          case round =>
            obtain ⟨k, hk, rfl, hall, u4, b4, r4, o4, own4, z4⟩ := hrel
            clear u2 b2 r2 o2 own2 z2
            have HA := Lib.hid hall
            clear hall
            by_cases hlt : k < 4
            · obtain ⟨u, hu⟩ : ∃ u, (usL x t)[k]? = some u := ⟨(usL x t)[k]'(by simp [usL]; omega), List.getElem?_eq_getElem _⟩
              have cu := u4.cell k
              rw [List.getElem?_map, hu] at cu
              simp only [Option.map_some] at cu
              have hul := u4.lt
              have HU := Lib.hid hu
              have hub := HUB.out k u hu
              clear hu
              by_cases k1 : t ≤ u
              · have g1 : decide (t ≤ u) = true := by simp; omega
                by_cases k2 : u ≤ 100000
                · have g2 : decide (u ≤ 100000) = true := by simp; omega
                  have HBA := Lib.hid (bad_at (x := x) k1 k2)
                  have hca := fun w => hcA u A2 x.zs.length c2 w hub.1 k2
                  have hcb := fun w => hcB u w hub.1 k2
                  clear hcA hcB
                  cases hgt : decide (srvI x u < srvI (outS x t) u) with
                  | true =>
                    have HG := Lib.hid (HBA.out.trans hgt)
                    have hd := of_decide_eq_true hgt
                    clear hgt HBA
                    generalize srvI x u = s1 at *
                    generalize srvI (outS x t) u = s2 at *
                    go_wp2_with fail
                    refine wp_region_grow (by kernel_rfl) (by kernel_rfl) ?_
                    intro S hne hkS ho
                    have kk0 : ∀ s : InC S, s.W.cell? ⟨gO, 0, none⟩ = some (.int .i64 x.f) := fun s => (o4.below (ho s)).cell 0
                    have kk1 : ∀ s : InC S, s.W.cell? ⟨gO, 1, none⟩ = some (.int .i64 x.l) := fun s => (o4.below (ho s)).cell 1
                    have kk2 : ∀ s : InC S, s.W.cell? ⟨gO, 2, none⟩ = some (.int .i64 x.s) := fun s => (o4.below (ho s)).cell 2
                    have kk3 : ∀ s : InC S, s.W.cell? ⟨gO, 3, none⟩ = some (.int .i64 t) := fun s => (o4.below (ho s)).cell 3
                    have kk4 : ∀ s : InC S, s.W.cell? ⟨gO, 4, none⟩ = some (.int .i64 x.se) := fun s => (o4.below (ho s)).cell 4
                    have kk5 : ∀ s : InC S, s.W.cell? ⟨gO, 5, none⟩ = some (.int .i64 x.se) := fun s => (o4.below (ho s)).cell 5
                    have kk6 : ∀ s : InC S, s.W.cell? ⟨gO, 6, none⟩ = some (.slice A2 x.zs.length c2) := fun s => (o4.below (ho s)).cell 6
                    have ee0 : ∀ s : InC S, s.W.cell? ⟨w.heap.size, 0, none⟩ = some (.int .i64 x.f) := fun s => (b4.below (ho s)).cell 0
                    have ee1 : ∀ s : InC S, s.W.cell? ⟨w.heap.size, 1, none⟩ = some (.int .i64 x.l) := fun s => (b4.below (ho s)).cell 1
                    have ee2 : ∀ s : InC S, s.W.cell? ⟨w.heap.size, 2, none⟩ = some (.int .i64 x.s) := fun s => (b4.below (ho s)).cell 2
                    have ee3 : ∀ s : InC S, s.W.cell? ⟨w.heap.size, 3, none⟩ = some (.int .i64 x.st) := fun s => (b4.below (ho s)).cell 3
                    have ee4 : ∀ s : InC S, s.W.cell? ⟨w.heap.size, 4, none⟩ = some (.int .i64 x.ba) := fun s => (b4.below (ho s)).cell 4
                    have ee5 : ∀ s : InC S, s.W.cell? ⟨w.heap.size, 5, none⟩ = some (.int .i64 x.se) := fun s => (b4.below (ho s)).cell 5
                    have ee6 : ∀ s : InC S, s.W.cell? ⟨w.heap.size, 6, none⟩ = some (.slice A m c) := fun s => (b4.below (ho s)).cell 6
                    repeat (go_big_quiet_step ((go_at_call 60; first | with_reducible exact grow_call hkS (hca _) rfl | with_reducible exact grow_call hkS (hcb _) rfl)))
                    refine wpQuiet_nil ?_
                    rintro _ ⟨s, rfl⟩
                    have hg5 := ho s
                    clear kk0 kk1 kk2 kk3 kk4 kk5 kk6 ee0 ee1 ee2 ee3 ee4 ee5 ee6 ho hkS hne
                    generalize s.W = w5 at *
                    clear s S
                    have b5 := b4.below hg5
                    have r5 := r4.below hg5
                    have z5 := ext_trans z4 hg5
                    obtain ⟨yb5, xb5, cb5, fb5⟩ := b5.seven
                    obtain ⟨yr5, xr5, cr5, fr5⟩ := r5.seven
                    go_wp2_with fail
                    refine (copySession_at x A m c _ hm (hr.below z5)).mono ?_; rintro e w6 ⟨A4, c4, rfl, ow4, hb6⟩
                    clear yb5 xb5 cb5 fb5 yr5 xr5 cr5 fr5
                    have b6 := b5.below hb6
                    have r6 := r5.below hb6
                    have z6 := ext_trans z5 hb6
                    obtain ⟨yb6, xb6, cb6, fb6⟩ := b6.seven
                    obtain ⟨yr6, xr6, cr6, fr6⟩ := r6.seven
                    have own4 := own_base ow4 z5.size
                    go_wp2_with fail
                    have gB := (grownBy_setCell (grownBy_setCell (grownBy_setCell (grownBy_setCell (grownBy_setCell (grownBy_setCell (grownBy_setCell (World.grownBy.refl w6 (some (w.heap.size + 1))) 0 (.int .i64 x.f)) 1 (.int .i64 x.l)) 2 (.int .i64 x.s)) 3 (.int .i64 x.st)) 4 (.int .i64 x.ba)) 5 (.int .i64 x.se)) 6 (.slice A4 x.zs.length c4))
                    exact bodyPost_ret (v := .tuple #[.agg #[.int .i64 x.f, .int .i64 x.l, .int .i64 x.s, .int .i64 x.st, .int .i64 x.ba, .int .i64 x.se, .slice A4 x.zs.length c4], .bool true]) (res_cell2 Try.results30 _ rfl (((((((r6.set_ 0 (.int .i64 x.f)).set_ 1 (.int .i64 x.l)).set_ 2 (.int .i64 x.s)).set_ 3 (.int .i64 x.st)).set_ 4 (.int .i64 x.ba)).set_ 5 (.int .i64 x.se)).set_ 6 (.slice A4 x.zs.length c4)) Try.underlying39 rfl (by kernel_rfl)) rfl (by rw [restR_old EK.out (any_to HU.out HG.out), EK.out]; exact ⟨A4, c4, rfl, own4.kept gB (.inr fun e => box_ne own4 r6 (by decide) e.symm), (((((((z6.setCell (p := ⟨w.heap.size + 1, 0, none⟩) (by simp) (.int .i64 x.f)).setCell (p := ⟨w.heap.size + 1, 1, none⟩) (by simp) (.int .i64 x.l)).setCell (p := ⟨w.heap.size + 1, 2, none⟩) (by simp) (.int .i64 x.s)).setCell (p := ⟨w.heap.size + 1, 3, none⟩) (by simp) (.int .i64 x.st)).setCell (p := ⟨w.heap.size + 1, 4, none⟩) (by simp) (.int .i64 x.ba)).setCell (p := ⟨w.heap.size + 1, 5, none⟩) (by simp) (.int .i64 x.se)).setCell (p := ⟨w.heap.size + 1, 6, none⟩) (by simp) (.slice A4 x.zs.length c4))⟩)
                  | false =>
                    have HG := Lib.hid (HBA.out.trans hgt)
                    have hd := of_decide_eq_false hgt
                    clear hgt HBA
                    generalize srvI x u = s1 at *
                    generalize srvI (outS x t) u = s2 at *
                    go_wp2_with fail
                    refine wp_region_grow (by kernel_rfl) (by kernel_rfl) ?_
                    intro S hne hkS ho
                    have kk0 : ∀ s : InC S, s.W.cell? ⟨gO, 0, none⟩ = some (.int .i64 x.f) := fun s => (o4.below (ho s)).cell 0
                    have kk1 : ∀ s : InC S, s.W.cell? ⟨gO, 1, none⟩ = some (.int .i64 x.l) := fun s => (o4.below (ho s)).cell 1
                    have kk2 : ∀ s : InC S, s.W.cell? ⟨gO, 2, none⟩ = some (.int .i64 x.s) := fun s => (o4.below (ho s)).cell 2
                    have kk3 : ∀ s : InC S, s.W.cell? ⟨gO, 3, none⟩ = some (.int .i64 t) := fun s => (o4.below (ho s)).cell 3
                    have kk4 : ∀ s : InC S, s.W.cell? ⟨gO, 4, none⟩ = some (.int .i64 x.se) := fun s => (o4.below (ho s)).cell 4
                    have kk5 : ∀ s : InC S, s.W.cell? ⟨gO, 5, none⟩ = some (.int .i64 x.se) := fun s => (o4.below (ho s)).cell 5
                    have kk6 : ∀ s : InC S, s.W.cell? ⟨gO, 6, none⟩ = some (.slice A2 x.zs.length c2) := fun s => (o4.below (ho s)).cell 6
                    have ee0 : ∀ s : InC S, s.W.cell? ⟨w.heap.size, 0, none⟩ = some (.int .i64 x.f) := fun s => (b4.below (ho s)).cell 0
                    have ee1 : ∀ s : InC S, s.W.cell? ⟨w.heap.size, 1, none⟩ = some (.int .i64 x.l) := fun s => (b4.below (ho s)).cell 1
                    have ee2 : ∀ s : InC S, s.W.cell? ⟨w.heap.size, 2, none⟩ = some (.int .i64 x.s) := fun s => (b4.below (ho s)).cell 2
                    have ee3 : ∀ s : InC S, s.W.cell? ⟨w.heap.size, 3, none⟩ = some (.int .i64 x.st) := fun s => (b4.below (ho s)).cell 3
                    have ee4 : ∀ s : InC S, s.W.cell? ⟨w.heap.size, 4, none⟩ = some (.int .i64 x.ba) := fun s => (b4.below (ho s)).cell 4
                    have ee5 : ∀ s : InC S, s.W.cell? ⟨w.heap.size, 5, none⟩ = some (.int .i64 x.se) := fun s => (b4.below (ho s)).cell 5
                    have ee6 : ∀ s : InC S, s.W.cell? ⟨w.heap.size, 6, none⟩ = some (.slice A m c) := fun s => (b4.below (ho s)).cell 6
                    repeat (go_big_quiet_step ((go_at_call 60; first | with_reducible exact grow_call hkS (hca _) rfl | with_reducible exact grow_call hkS (hcb _) rfl)))
                    refine wpQuiet_nil ?_
                    rintro _ ⟨s, rfl⟩
                    have hg5 := ho s
                    clear kk0 kk1 kk2 kk3 kk4 kk5 kk6 ee0 ee1 ee2 ee3 ee4 ee5 ee6 ho hkS hne
                    generalize s.W = w5 at *
                    clear s S
                    go_wp2_with fail
                    go_roundw
                    case rel =>
                      have hr2 : RRel w gO gU x t [.int .i64 x.f, .int .i64 x.l, .int .i64 x.s, .int .i64 x.st, .int .i64 x.ba, .int .i64 x.se, .slice A m c] [.int .i64 0, .int .i64 0, .int .i64 0, .int .i64 0, .int .i64 0, .int .i64 0, .slice none 0 0] [.int .i64 x.f, .int .i64 x.l, .int .i64 x.s, .int .i64 t, .int .i64 x.se, .int .i64 x.se, .slice A2 x.zs.length c2] A2 c2 (.int .i64 ((k : Int) + 1)) w5 := ⟨k + 1, by omega, by simp, no_more HA.out HU.out (HG.out), u4.below hg5, b4.below hg5, r4.below hg5, o4.below hg5, own_ext own4 hg5, ext_trans z4 hg5⟩
                      first | exact hr2 | ((repeat apply Exists.intro); exact ⟨hr2, rfl⟩)
                    case measure => simp [intOf]; omega
                · have g2 : decide (u ≤ 100000) = false := by simp; omega
                  have HG := Lib.hid (bad_hi (x := x) (t := t) k2)
                  go_wp2_with fail
                  refine wp_region_grow (by kernel_rfl) (by kernel_rfl) ?_
                  intro S hne hkS ho
                  have kk0 : ∀ s : InC S, s.W.cell? ⟨gO, 0, none⟩ = some (.int .i64 x.f) := fun s => (o4.below (ho s)).cell 0
                  have kk1 : ∀ s : InC S, s.W.cell? ⟨gO, 1, none⟩ = some (.int .i64 x.l) := fun s => (o4.below (ho s)).cell 1
                  have kk2 : ∀ s : InC S, s.W.cell? ⟨gO, 2, none⟩ = some (.int .i64 x.s) := fun s => (o4.below (ho s)).cell 2
                  have kk3 : ∀ s : InC S, s.W.cell? ⟨gO, 3, none⟩ = some (.int .i64 t) := fun s => (o4.below (ho s)).cell 3
                  have kk4 : ∀ s : InC S, s.W.cell? ⟨gO, 4, none⟩ = some (.int .i64 x.se) := fun s => (o4.below (ho s)).cell 4
                  have kk5 : ∀ s : InC S, s.W.cell? ⟨gO, 5, none⟩ = some (.int .i64 x.se) := fun s => (o4.below (ho s)).cell 5
                  have kk6 : ∀ s : InC S, s.W.cell? ⟨gO, 6, none⟩ = some (.slice A2 x.zs.length c2) := fun s => (o4.below (ho s)).cell 6
                  have ee0 : ∀ s : InC S, s.W.cell? ⟨w.heap.size, 0, none⟩ = some (.int .i64 x.f) := fun s => (b4.below (ho s)).cell 0
                  have ee1 : ∀ s : InC S, s.W.cell? ⟨w.heap.size, 1, none⟩ = some (.int .i64 x.l) := fun s => (b4.below (ho s)).cell 1
                  have ee2 : ∀ s : InC S, s.W.cell? ⟨w.heap.size, 2, none⟩ = some (.int .i64 x.s) := fun s => (b4.below (ho s)).cell 2
                  have ee3 : ∀ s : InC S, s.W.cell? ⟨w.heap.size, 3, none⟩ = some (.int .i64 x.st) := fun s => (b4.below (ho s)).cell 3
                  have ee4 : ∀ s : InC S, s.W.cell? ⟨w.heap.size, 4, none⟩ = some (.int .i64 x.ba) := fun s => (b4.below (ho s)).cell 4
                  have ee5 : ∀ s : InC S, s.W.cell? ⟨w.heap.size, 5, none⟩ = some (.int .i64 x.se) := fun s => (b4.below (ho s)).cell 5
                  have ee6 : ∀ s : InC S, s.W.cell? ⟨w.heap.size, 6, none⟩ = some (.slice A m c) := fun s => (b4.below (ho s)).cell 6
                  repeat (go_big_quiet_step (fail))
                  refine wpQuiet_nil ?_
                  rintro _ ⟨s, rfl⟩
                  have hg5 := ho s
                  clear kk0 kk1 kk2 kk3 kk4 kk5 kk6 ee0 ee1 ee2 ee3 ee4 ee5 ee6 ho hkS hne
                  generalize s.W = w5 at *
                  clear s S
                  go_wp2_with fail
                  go_roundw
                  case rel =>
                    have hr2 : RRel w gO gU x t [.int .i64 x.f, .int .i64 x.l, .int .i64 x.s, .int .i64 x.st, .int .i64 x.ba, .int .i64 x.se, .slice A m c] [.int .i64 0, .int .i64 0, .int .i64 0, .int .i64 0, .int .i64 0, .int .i64 0, .slice none 0 0] [.int .i64 x.f, .int .i64 x.l, .int .i64 x.s, .int .i64 t, .int .i64 x.se, .int .i64 x.se, .slice A2 x.zs.length c2] A2 c2 (.int .i64 ((k : Int) + 1)) w5 := ⟨k + 1, by omega, by simp, no_more HA.out HU.out (HG.out), u4.below hg5, b4.below hg5, r4.below hg5, o4.below hg5, own_ext own4 hg5, ext_trans z4 hg5⟩
                    first | exact hr2 | ((repeat apply Exists.intro); exact ⟨hr2, rfl⟩)
                  case measure => simp [intOf]; omega
              · have g1 : decide (t ≤ u) = false := by simp; omega
                have HG := Lib.hid (bad_lo (x := x) k1)
                go_wp2_with fail
                refine wp_region_grow (by kernel_rfl) (by kernel_rfl) ?_
                intro S hne hkS ho
                have kk0 : ∀ s : InC S, s.W.cell? ⟨gO, 0, none⟩ = some (.int .i64 x.f) := fun s => (o4.below (ho s)).cell 0
                have kk1 : ∀ s : InC S, s.W.cell? ⟨gO, 1, none⟩ = some (.int .i64 x.l) := fun s => (o4.below (ho s)).cell 1
                have kk2 : ∀ s : InC S, s.W.cell? ⟨gO, 2, none⟩ = some (.int .i64 x.s) := fun s => (o4.below (ho s)).cell 2
                have kk3 : ∀ s : InC S, s.W.cell? ⟨gO, 3, none⟩ = some (.int .i64 t) := fun s => (o4.below (ho s)).cell 3
                have kk4 : ∀ s : InC S, s.W.cell? ⟨gO, 4, none⟩ = some (.int .i64 x.se) := fun s => (o4.below (ho s)).cell 4
                have kk5 : ∀ s : InC S, s.W.cell? ⟨gO, 5, none⟩ = some (.int .i64 x.se) := fun s => (o4.below (ho s)).cell 5
                have kk6 : ∀ s : InC S, s.W.cell? ⟨gO, 6, none⟩ = some (.slice A2 x.zs.length c2) := fun s => (o4.below (ho s)).cell 6
                have ee0 : ∀ s : InC S, s.W.cell? ⟨w.heap.size, 0, none⟩ = some (.int .i64 x.f) := fun s => (b4.below (ho s)).cell 0
                have ee1 : ∀ s : InC S, s.W.cell? ⟨w.heap.size, 1, none⟩ = some (.int .i64 x.l) := fun s => (b4.below (ho s)).cell 1
                have ee2 : ∀ s : InC S, s.W.cell? ⟨w.heap.size, 2, none⟩ = some (.int .i64 x.s) := fun s => (b4.below (ho s)).cell 2
                have ee3 : ∀ s : InC S, s.W.cell? ⟨w.heap.size, 3, none⟩ = some (.int .i64 x.st) := fun s => (b4.below (ho s)).cell 3
                have ee4 : ∀ s : InC S, s.W.cell? ⟨w.heap.size, 4, none⟩ = some (.int .i64 x.ba) := fun s => (b4.below (ho s)).cell 4
                have ee5 : ∀ s : InC S, s.W.cell? ⟨w.heap.size, 5, none⟩ = some (.int .i64 x.se) := fun s => (b4.below (ho s)).cell 5
                have ee6 : ∀ s : InC S, s.W.cell? ⟨w.heap.size, 6, none⟩ = some (.slice A m c) := fun s => (b4.below (ho s)).cell 6
                repeat (go_big_quiet_step (fail))
                refine wpQuiet_nil ?_
                rintro _ ⟨s, rfl⟩
                have hg5 := ho s
                clear kk0 kk1 kk2 kk3 kk4 kk5 kk6 ee0 ee1 ee2 ee3 ee4 ee5 ee6 ho hkS hne
                generalize s.W = w5 at *
                clear s S
                go_wp2_with fail
                go_roundw
                case rel =>
                  have hr2 : RRel w gO gU x t [.int .i64 x.f, .int .i64 x.l, .int .i64 x.s, .int .i64 x.st, .int .i64 x.ba, .int .i64 x.se, .slice A m c] [.int .i64 0, .int .i64 0, .int .i64 0, .int .i64 0, .int .i64 0, .int .i64 0, .slice none 0 0] [.int .i64 x.f, .int .i64 x.l, .int .i64 x.s, .int .i64 t, .int .i64 x.se, .int .i64 x.se, .slice A2 x.zs.length c2] A2 c2 (.int .i64 ((k : Int) + 1)) w5 := ⟨k + 1, by omega, by simp, no_more HA.out HU.out (HG.out), u4.below hg5, b4.below hg5, r4.below hg5, o4.below hg5, own_ext own4 hg5, ext_trans z4 hg5⟩
                  first | exact hr2 | ((repeat apply Exists.intro); exact ⟨hr2, rfl⟩)
                case measure => simp [intOf]; omega
            · obtain ⟨yo, xo, co, fo⟩ := o4.seven
              obtain ⟨yr4, xr4, cr4, fr4⟩ := r4.seven
              go_wp2_with fail
              have gB := (grownBy_setCell (grownBy_setCell (grownBy_setCell (grownBy_setCell (grownBy_setCell (grownBy_setCell (grownBy_setCell (World.grownBy.refl wr (some (w.heap.size + 1))) 0 (.int .i64 x.f)) 1 (.int .i64 x.l)) 2 (.int .i64 x.s)) 3 (.int .i64 t)) 4 (.int .i64 x.se)) 5 (.int .i64 x.se)) 6 (.slice A2 x.zs.length c2))
              exact bodyPost_ret (v := .tuple #[.agg #[.int .i64 x.f, .int .i64 x.l, .int .i64 x.s, .int .i64 t, .int .i64 x.se, .int .i64 x.se, .slice A2 x.zs.length c2], .bool true]) (res_cell2 Try.results30 _ rfl (((((((r4.set_ 0 (.int .i64 x.f)).set_ 1 (.int .i64 x.l)).set_ 2 (.int .i64 x.s)).set_ 3 (.int .i64 t)).set_ 4 (.int .i64 x.se)).set_ 5 (.int .i64 x.se)).set_ 6 (.slice A2 x.zs.length c2)) Try.underlying39 rfl (by kernel_rfl)) rfl (by rw [restR_new EK.out (any_no (n := 4) (by simp [usL]) (fun j a hj ha => HA.out j a (by omega) ha)), EK.out]; exact ⟨A2, c2, rfl, own4.kept gB (.inr fun e => box_ne own4 r4 (by decide) e.symm), (((((((z4.setCell (p := ⟨w.heap.size + 1, 0, none⟩) (by simp) (.int .i64 x.f)).setCell (p := ⟨w.heap.size + 1, 1, none⟩) (by simp) (.int .i64 x.l)).setCell (p := ⟨w.heap.size + 1, 2, none⟩) (by simp) (.int .i64 x.s)).setCell (p := ⟨w.heap.size + 1, 3, none⟩) (by simp) (.int .i64 t)).setCell (p := ⟨w.heap.size + 1, 4, none⟩) (by simp) (.int .i64 x.se)).setCell (p := ⟨w.heap.size + 1, 5, none⟩) (by simp) (.int .i64 x.se)).setCell (p := ⟨w.heap.size + 1, 6, none⟩) (by simp) (.slice A2 x.zs.length c2))⟩)

set_option maxRecDepth 100000 in
set_option maxHeartbeats 4000000 in
theorem walkRestartSession (x : SesV) (t : Int) (w : World) (hx : SRd w x) :
    Calls Try.prog 8 #[.agg #[.int .i64 x.f, .int .i64 x.l, .int .i64 x.s, .int .i64 x.st, .int .i64 x.ba, .int .i64 x.se, .slice x.A x.m x.c], .int .i64 t] w fun e w' => e = .returned (.bool true) ∧ Below w.heap.size w w' := by
  have B0 := Blk.new w 34 [.int .i64 x.f, .int .i64 x.l, .int .i64 x.s, .int .i64 x.st, .int .i64 x.ba, .int .i64 x.se, .slice x.A x.m x.c]
  have z0 := ext_alloc (ext_refl w) (.cells (List.toArray [.int .i64 x.f, .int .i64 x.l, .int .i64 x.s, .int .i64 x.st, .int .i64 x.ba, .int .i64 x.se, .slice x.A x.m x.c]) 34)
  obtain ⟨hn, hr⟩ := hx
  by_cases hbig : 1048576 < x.m
  · go_enter Try.func8, Try.ntmps8
    go_wp2_with fail
    refine (szSession_any x _ _ hn (by omega) (by omega)).mono ?_; rintro e w1 ⟨rfl, hb1⟩
    rw [if_pos (by omega)]
    go_wp2_with fail
    go_ret
    exact ⟨rfl, ext_trans z0 hb1⟩
  have hm : x.m ≤ 1048576 := by omega
  have hs : (if (1048576 : Int) < (x.m : Int) then (-1 : Int) else 1048576 - x.m) = 1048576 - x.m := by { split <;> omega }
  have HS := Lib.hid hs
  clear hs
  have hS := fun (A : Option Addr) (c : Nat) (w : World) => specRestartSession_at x.toSes t A x.m c w hm
  have hI := fun (A : Option Addr) (c : Nat) (w : World) => implRestartSession_at x.toSes t A x.m c w hm
  have hy : (restR x.toSes t).zs.length ≤ 1048576 := by have := hr.len1; exact restR_len x.toSes t (by omega)
  generalize restR x.toSes t = y at *
  generalize restOk x.toSes t = v0 at *
  go_enter Try.func8, Try.ntmps8
  go_wp2_with fail
  refine (szSession_any x _ _ hn (by omega) (by omega)).mono ?_; rintro e w1 ⟨rfl, hb1⟩
  have bB1 := B0.below hb1
  have z1 := ext_trans z0 hb1
  rw [HS.out]
  obtain ⟨qyB1, qxB1, qcB1, qfB1⟩ := bB1.seven
  go_wp2_with fail
  clear qyB1 qxB1 qcB1 qfB1
  refine (toSession_any x _ hm (hr.below z1)).mono ?_; rintro e w2 ⟨gt, rfl, owt, hb2⟩
  have bB2 := bB1.below hb2
  have ot2 := own_base owt z1.size
  have z2 := ext_trans z1 hb2
  go_wp2_with fail
  refine (hS (some ⟨gt, 0, none⟩) x.m _ (Nat.le_refl _) (Rd.of_own ot2)).mono ?_; rintro e w3 ⟨Aw, cw, rfl, oww, hb3⟩
  have ot3 := own_ext ot2 hb3
  have bB3 := bB2.below hb3
  have apwt := apart_before ot2.lt oww.lt
  have ow3 := own_base oww z2.size
  have z3 := ext_trans z2 hb3
  have ow4 := ow3.alloc (.cells (List.toArray [.int .i64 y.f, .int .i64 y.l, .int .i64 y.s, .int .i64 y.st, .int .i64 y.ba, .int .i64 y.se, .slice Aw y.zs.length cw]) 39)
  have bB4 := bB3.alloc (.cells (List.toArray [.int .i64 y.f, .int .i64 y.l, .int .i64 y.s, .int .i64 y.st, .int .i64 y.ba, .int .i64 y.se, .slice Aw y.zs.length cw]) 39)
  have bW4 := Blk.new w3 39 [.int .i64 y.f, .int .i64 y.l, .int .i64 y.s, .int .i64 y.st, .int .i64 y.ba, .int .i64 y.se, .slice Aw y.zs.length cw]
  have z4 := ext_alloc z3 (.cells (List.toArray [.int .i64 y.f, .int .i64 y.l, .int .i64 y.s, .int .i64 y.st, .int .i64 y.ba, .int .i64 y.se, .slice Aw y.zs.length cw]) 39)
  obtain ⟨qyB4, qxB4, qcB4, qfB4⟩ := bB4.seven
  go_wp2_with fail
  clear qyB4 qxB4 qcB4 qfB4
  refine (toSession_any x _ hm (hr.below z4)).mono ?_; rintro e w4 ⟨gx, rfl, owx, hb4⟩
  have ow5 := own_ext ow4 hb4
  have bB5 := bB4.below hb4
  have bW5 := bW4.below hb4
  have apxw := apart_before ow4.lt owx.lt
  have ox5 := own_base owx z4.size
  have z5 := ext_trans z4 hb4
  have ow6 := ow5.alloc (.cells (List.toArray [.int .i64 x.f, .int .i64 x.l, .int .i64 x.s, .int .i64 x.st, .int .i64 x.ba, .int .i64 x.se, .slice (some ⟨gx, 0, none⟩) x.m x.m]) 39)
  have ox6 := ox5.alloc (.cells (List.toArray [.int .i64 x.f, .int .i64 x.l, .int .i64 x.s, .int .i64 x.st, .int .i64 x.ba, .int .i64 x.se, .slice (some ⟨gx, 0, none⟩) x.m x.m]) 39)
  have bB6 := bB5.alloc (.cells (List.toArray [.int .i64 x.f, .int .i64 x.l, .int .i64 x.s, .int .i64 x.st, .int .i64 x.ba, .int .i64 x.se, .slice (some ⟨gx, 0, none⟩) x.m x.m]) 39)
  have bW6 := bW5.alloc (.cells (List.toArray [.int .i64 x.f, .int .i64 x.l, .int .i64 x.s, .int .i64 x.st, .int .i64 x.ba, .int .i64 x.se, .slice (some ⟨gx, 0, none⟩) x.m x.m]) 39)
  have bX6 := Blk.new w4 39 [.int .i64 x.f, .int .i64 x.l, .int .i64 x.s, .int .i64 x.st, .int .i64 x.ba, .int .i64 x.se, .slice (some ⟨gx, 0, none⟩) x.m x.m]
  have z6 := ext_alloc z5 (.cells (List.toArray [.int .i64 x.f, .int .i64 x.l, .int .i64 x.s, .int .i64 x.st, .int .i64 x.ba, .int .i64 x.se, .slice (some ⟨gx, 0, none⟩) x.m x.m]) 39)
  obtain ⟨qyX6, qxX6, qcX6, qfX6⟩ := bX6.seven
  go_wp2_with fail
  clear qyX6 qxX6 qcX6 qfX6
  refine (hI (some ⟨gx, 0, none⟩) x.m _ (Nat.le_refl _) (Rd.of_own ox6)).mono ?_; rintro e w5 ⟨Ag, cg, rfl, owg, hb5⟩
  have ow7 := own_ext ow6 hb5
  have ox7 := own_ext ox6 hb5
  have bB7 := bB6.below hb5
  have bW7 := bW6.below hb5
  have bX7 := bX6.below hb5
  have apgw := apart_before ow6.lt owg.lt
  have apgx := apart_before ox6.lt owg.lt
  have og7 := own_base owg z6.size
  have z7 := ext_trans z6 hb5
  have ow8 := ow7.alloc (.cells (List.toArray [.int .i64 y.f, .int .i64 y.l, .int .i64 y.s, .int .i64 y.st, .int .i64 y.ba, .int .i64 y.se, .slice Ag y.zs.length cg]) 39)
  have ox8 := ox7.alloc (.cells (List.toArray [.int .i64 y.f, .int .i64 y.l, .int .i64 y.s, .int .i64 y.st, .int .i64 y.ba, .int .i64 y.se, .slice Ag y.zs.length cg]) 39)
  have og8 := og7.alloc (.cells (List.toArray [.int .i64 y.f, .int .i64 y.l, .int .i64 y.s, .int .i64 y.st, .int .i64 y.ba, .int .i64 y.se, .slice Ag y.zs.length cg]) 39)
  have bB8 := bB7.alloc (.cells (List.toArray [.int .i64 y.f, .int .i64 y.l, .int .i64 y.s, .int .i64 y.st, .int .i64 y.ba, .int .i64 y.se, .slice Ag y.zs.length cg]) 39)
  have bW8 := bW7.alloc (.cells (List.toArray [.int .i64 y.f, .int .i64 y.l, .int .i64 y.s, .int .i64 y.st, .int .i64 y.ba, .int .i64 y.se, .slice Ag y.zs.length cg]) 39)
  have bX8 := bX7.alloc (.cells (List.toArray [.int .i64 y.f, .int .i64 y.l, .int .i64 y.s, .int .i64 y.st, .int .i64 y.ba, .int .i64 y.se, .slice Ag y.zs.length cg]) 39)
  have bG8 := Blk.new w5 39 [.int .i64 y.f, .int .i64 y.l, .int .i64 y.s, .int .i64 y.st, .int .i64 y.ba, .int .i64 y.se, .slice Ag y.zs.length cg]
  have z8 := ext_alloc z7 (.cells (List.toArray [.int .i64 y.f, .int .i64 y.l, .int .i64 y.s, .int .i64 y.st, .int .i64 y.ba, .int .i64 y.se, .slice Ag y.zs.length cg]) 39)
  obtain ⟨qyG8, qxG8, qcG8, qfG8⟩ := bG8.seven
  obtain ⟨qyW8, qxW8, qcW8, qfW8⟩ := bW8.seven
  go_wp2_with fail
  clear qyG8 qxG8 qcG8 qfG8 qyW8 qxW8 qcW8 qfW8
  refine (eqSession_same ⟨y, Ag, y.zs.length, cg⟩ Aw cw _ hy (Rd.of_own og8) (Rd.of_own ow8)).mono ?_; rintro e w6 ⟨rfl, hb6⟩
  have ow9 := own_ext ow8 hb6
  have ox9 := own_ext ox8 hb6
  have og9 := own_ext og8 hb6
  have bB9 := bB8.below hb6
  have bW9 := bW8.below hb6
  have bX9 := bX8.below hb6
  have bG9 := bG8.below hb6
  have z9 := ext_trans z8 hb6
  obtain ⟨qyB9, qxB9, qcB9, qfB9⟩ := bB9.seven
  obtain ⟨qyX9, qxX9, qcX9, qfX9⟩ := bX9.seven
  go_wp2_with fail
  clear qyB9 qxB9 qcB9 qfB9 qyX9 qxX9 qcX9 qfX9
  have ow10 := ow9.drew
  have ox10 := ox9.drew
  have og10 := og9.drew
  have bB10 := bB9.drew
  have bW10 := bW9.drew
  have bX10 := bX9.drew
  have bG10 := bG9.drew
  have C0 := and8 bB10.seven.2.2.1 bX10.seven.2.2.1
  go_region_held3 (fun w' => w'.cell? ⟨w.heap.size, 0, none⟩ = some (.int .i64 x.f) ∧ w'.cell? ⟨w.heap.size, 1, none⟩ = some (.int .i64 x.l) ∧ w'.cell? ⟨w.heap.size, 2, none⟩ = some (.int .i64 x.s) ∧ w'.cell? ⟨w.heap.size, 3, none⟩ = some (.int .i64 x.st) ∧ w'.cell? ⟨w.heap.size, 4, none⟩ = some (.int .i64 x.ba) ∧ w'.cell? ⟨w.heap.size, 5, none⟩ = some (.int .i64 x.se) ∧ w'.cell? ⟨w.heap.size, 6, none⟩ = some (.slice x.A x.m x.c) ∧ w'.cell? ⟨w4.heap.size, 0, none⟩ = some (.int .i64 x.f) ∧ w'.cell? ⟨w4.heap.size, 1, none⟩ = some (.int .i64 x.l) ∧ w'.cell? ⟨w4.heap.size, 2, none⟩ = some (.int .i64 x.s) ∧ w'.cell? ⟨w4.heap.size, 3, none⟩ = some (.int .i64 x.st) ∧ w'.cell? ⟨w4.heap.size, 4, none⟩ = some (.int .i64 x.ba) ∧ w'.cell? ⟨w4.heap.size, 5, none⟩ = some (.int .i64 x.se) ∧ w'.cell? ⟨w4.heap.size, 6, none⟩ = some (.slice (some ⟨gx, 0, none⟩) x.m x.m))
    (first | with_reducible exact C2 | with_reducible exact C1 | with_reducible exact C0)
    (first | (go_at_call 20; refine (toSession_any x _ hm (hr.below z9.drew)).mono ?_; rintro e w7 ⟨gy, rfl, owy, hb7⟩; have BB7 := bB10.below hb7; have BX7 := bX10.below hb7; have OX7 := own_ext ox10 hb7; have C1 := and8 BB7.seven.2.2.1 BX7.seven.2.2.1) | (go_at_call 22; refine (eqSession_same ⟨x.toSes, (some ⟨gx, 0, none⟩), x.m, x.m⟩ (some ⟨gy, 0, none⟩) x.m _ hm (Rd.of_own OX7) (Rd.of_own owy)).mono ?_; rintro e w8 ⟨rfl, hb8⟩; have C2 := and8 (BB7.below hb8).seven.2.2.1 (BX7.below hb8).seven.2.2.1))
  have ow11 := own_ext ow10 hb7
  have ox11 := own_ext ox10 hb7
  have og11 := own_ext og10 hb7
  have bB11 := bB10.below hb7
  have bW11 := bW10.below hb7
  have bX11 := bX10.below hb7
  have bG11 := bG10.below hb7
  have z11 := ext_trans z9.drew hb7
  have ow12 := own_ext ow11 hb8
  have ox12 := own_ext ox11 hb8
  have og12 := own_ext og11 hb8
  have bB12 := bB11.below hb8
  have bW12 := bW11.below hb8
  have bX12 := bX11.below hb8
  have bG12 := bG11.below hb8
  have z12 := ext_trans z11 hb8
  clear C0 C1 C2
  obtain ⟨qyX12, qxX12, qcX12, qfX12⟩ := bX12.seven
  go_wp2_with fail
  clear qyX12 qxX12 qcX12 qfX12
  refine (markSession_own ⟨x.toSes, (some ⟨gx, 0, none⟩), x.m, x.m⟩ w.heap.size _ 1 _ hm (by omega) (by omega) ox12).mono ?_; rintro e w9 ⟨rfl, ox13, hg9⟩
  have ow13 := ow12.kept hg9 apxw.1
  have og13 := og12.kept hg9 apgx.2
  have bB13 := bB12.grown hg9 (box_ne ox12 bB12 (by decide))
  have bW13 := bW12.grown hg9 (box_ne ox12 bW12 (by decide))
  have bX13 := bX12.grown hg9 (box_ne ox12 bX12 (by decide))
  have bG13 := bG12.grown hg9 (box_ne ox12 bG12 (by decide))
  have z13 := below_marked z12 ox12 (Nat.le_refl _) hg9
  obtain ⟨qyG13, qxG13, qcG13, qfG13⟩ := bG13.seven
  obtain ⟨qyW13, qxW13, qcW13, qfW13⟩ := bW13.seven
  go_wp2_with fail
  clear qyG13 qxG13 qcG13 qfG13 qyW13 qxW13 qcW13 qfW13
  refine (eqSession_same ⟨y, Ag, y.zs.length, cg⟩ Aw cw _ hy (Rd.of_own og13) (Rd.of_own ow13)).mono ?_; rintro e w10 ⟨rfl, hb10⟩
  have ow14 := own_ext ow13 hb10
  have og14 := own_ext og13 hb10
  have bB14 := bB13.below hb10
  have bW14 := bW13.below hb10
  have bX14 := bX13.below hb10
  have bG14 := bG13.below hb10
  have z14 := ext_trans z13 hb10
  obtain ⟨qyG14, qxG14, qcG14, qfG14⟩ := bG14.seven
  go_wp2_with fail
  clear qyG14 qxG14 qcG14 qfG14
  refine (markSession_own ⟨y, Ag, y.zs.length, cg⟩ w.heap.size _ 1 _ hy (by omega) (by omega) og14).mono ?_; rintro e w11 ⟨rfl, og15, hg11⟩
  have ow15 := ow14.kept hg11 apgw.1
  have bB15 := bB14.grown hg11 (box_ne og14 bB14 (by decide))
  have bW15 := bW14.grown hg11 (box_ne og14 bW14 (by decide))
  have bX15 := bX14.grown hg11 (box_ne og14 bX14 (by decide))
  have bG15 := bG14.grown hg11 (box_ne og14 bG14 (by decide))
  have z15 := below_marked z14 og14 (Nat.le_refl _) hg11
  obtain ⟨qyG15, qxG15, qcG15, qfG15⟩ := bG15.seven
  go_wp2_with fail
  clear qyG15 qxG15 qcG15 qfG15
  refine (heldSession_any ⟨y, Ag, y.zs.length, cg⟩ 1 _ hy (by omega) (by omega) (Rd.of_own og15)).mono ?_; rintro e w12 ⟨rfl, hb12⟩
  have ow16 := own_ext ow15 hb12
  have og16 := own_ext og15 hb12
  have bB16 := bB15.below hb12
  have bW16 := bW15.below hb12
  have bX16 := bX15.below hb12
  have bG16 := bG15.below hb12
  have z16 := ext_trans z15 hb12
  obtain ⟨qyB16, qxB16, qcB16, qfB16⟩ := bB16.seven
  go_wp2_with fail
  clear qyB16 qxB16 qcB16 qfB16
  refine (toSession_any x _ hm (hr.below z16)).mono ?_; rintro e w13 ⟨gt, rfl, owt, hb13⟩
  have ow17 := own_ext ow16 hb13
  have og17 := own_ext og16 hb13
  have bB17 := bB16.below hb13
  have bW17 := bW16.below hb13
  have bX17 := bX16.below hb13
  have bG17 := bG16.below hb13
  have aptw := apart_before ow16.lt owt.lt
  have aptg := apart_before og16.lt owt.lt
  have ot17 := own_base owt z16.size
  have z17 := ext_trans z16 hb13
  go_wp2_with fail
  refine (hI (some ⟨gt, 0, none⟩) x.m _ (Nat.le_refl _) (Rd.of_own ot17)).mono ?_; rintro e w14 ⟨Ah, ch, rfl, owh, hb14⟩
  have ow18 := own_ext ow17 hb14
  have og18 := own_ext og17 hb14
  have ot18 := own_ext ot17 hb14
  have bB18 := bB17.below hb14
  have bW18 := bW17.below hb14
  have bX18 := bX17.below hb14
  have bG18 := bG17.below hb14
  have aphw := apart_before ow17.lt owh.lt
  have aphg := apart_before og17.lt owh.lt
  have apht := apart_before ot17.lt owh.lt
  have oh18 := own_base owh z17.size
  have z18 := ext_trans z17 hb14
  have ow19 := ow18.alloc (.cells (List.toArray [.int .i64 y.f, .int .i64 y.l, .int .i64 y.s, .int .i64 y.st, .int .i64 y.ba, .int .i64 y.se, .slice Ah y.zs.length ch]) 39)
  have og19 := og18.alloc (.cells (List.toArray [.int .i64 y.f, .int .i64 y.l, .int .i64 y.s, .int .i64 y.st, .int .i64 y.ba, .int .i64 y.se, .slice Ah y.zs.length ch]) 39)
  have oh19 := oh18.alloc (.cells (List.toArray [.int .i64 y.f, .int .i64 y.l, .int .i64 y.s, .int .i64 y.st, .int .i64 y.ba, .int .i64 y.se, .slice Ah y.zs.length ch]) 39)
  have bB19 := bB18.alloc (.cells (List.toArray [.int .i64 y.f, .int .i64 y.l, .int .i64 y.s, .int .i64 y.st, .int .i64 y.ba, .int .i64 y.se, .slice Ah y.zs.length ch]) 39)
  have bW19 := bW18.alloc (.cells (List.toArray [.int .i64 y.f, .int .i64 y.l, .int .i64 y.s, .int .i64 y.st, .int .i64 y.ba, .int .i64 y.se, .slice Ah y.zs.length ch]) 39)
  have bX19 := bX18.alloc (.cells (List.toArray [.int .i64 y.f, .int .i64 y.l, .int .i64 y.s, .int .i64 y.st, .int .i64 y.ba, .int .i64 y.se, .slice Ah y.zs.length ch]) 39)
  have bG19 := bG18.alloc (.cells (List.toArray [.int .i64 y.f, .int .i64 y.l, .int .i64 y.s, .int .i64 y.st, .int .i64 y.ba, .int .i64 y.se, .slice Ah y.zs.length ch]) 39)
  have bH19 := Blk.new w14 39 [.int .i64 y.f, .int .i64 y.l, .int .i64 y.s, .int .i64 y.st, .int .i64 y.ba, .int .i64 y.se, .slice Ah y.zs.length ch]
  have z19 := ext_alloc z18 (.cells (List.toArray [.int .i64 y.f, .int .i64 y.l, .int .i64 y.s, .int .i64 y.st, .int .i64 y.ba, .int .i64 y.se, .slice Ah y.zs.length ch]) 39)
  obtain ⟨qyH19, qxH19, qcH19, qfH19⟩ := bH19.seven
  obtain ⟨qyW19, qxW19, qcW19, qfW19⟩ := bW19.seven
  go_wp2_with fail
  clear qyH19 qxH19 qcH19 qfH19 qyW19 qxW19 qcW19 qfW19
  refine (eqSession_same ⟨y, Ah, y.zs.length, ch⟩ Aw cw _ hy (Rd.of_own oh19) (Rd.of_own ow19)).mono ?_; rintro e w15 ⟨rfl, hb15⟩
  have ow20 := own_ext ow19 hb15
  have og20 := own_ext og19 hb15
  have oh20 := own_ext oh19 hb15
  have bB20 := bB19.below hb15
  have bW20 := bW19.below hb15
  have bX20 := bX19.below hb15
  have bG20 := bG19.below hb15
  have bH20 := bH19.below hb15
  have z20 := ext_trans z19 hb15
  obtain ⟨qyG20, qxG20, qcG20, qfG20⟩ := bG20.seven
  go_wp2_with fail
  clear qyG20 qxG20 qcG20 qfG20
  refine (heldSession_any ⟨y, Ag, y.zs.length, cg⟩ 1 _ hy (by omega) (by omega) (Rd.of_own og20)).mono ?_; rintro e w16 ⟨rfl, hb16⟩
  have ow21 := own_ext ow20 hb16
  have og21 := own_ext og20 hb16
  have oh21 := own_ext oh20 hb16
  have bB21 := bB20.below hb16
  have bW21 := bW20.below hb16
  have bX21 := bX20.below hb16
  have bG21 := bG20.below hb16
  have bH21 := bH20.below hb16
  have z21 := ext_trans z20 hb16
  go_wp2_with fail
  go_ret
  exact ⟨rfl, z21⟩

end Go.Proofs.Ytgljelhglgeojaa