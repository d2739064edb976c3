/- DeadlineOf: the search of the least time by the program and by the reference; contracts; the law's walk. -/
import Derived.Test.YtgljelhglgeojaaDeC
import Derived.BigRegion
namespace Go.Proofs.Ytgljelhglgeojaa
open Go.RowKit

def LeastRel (w : World) (g : Nat) (t : TypeId) (f l s y : Int) (lo hi : Value) (wr : World) : Prop :=
  ∃ a b : Nat, lo = .int .i64 a ∧ hi = .int .i64 b ∧ a ≤ b ∧ b ≤ 100000 ∧ y ≤ curI f l s b ∧ (∀ j : Nat, j < a → curI f l s j < y) ∧ Blk wr g t [.int .i64 f, .int .i64 l, .int .i64 s] ∧ Below w.heap.size w wr
theorem mid_eq (a b : Nat) : ((a : Int) + (b : Int)) / 2 = ((a + b) / 2 : Nat) ∧ ((a : Int) + (b : Int)).tdiv 2 = ((a + b) / 2 : Nat) := by
  rw [Int.tdiv_eq_ediv_of_nonneg (by omega)]
  omega

set_option maxRecDepth 100000 in
set_option maxHeartbeats 2000000 in
theorem cuLeast_any (f l s y : Int) (w : World) (hf : 0 ≤ f ∧ f ≤ 100000) (hl : 0 ≤ l ∧ l ≤ 10000) (hs : 0 ≤ s ∧ s ≤ 100000) :
    Calls Try.prog 86 #[.agg #[.int .i64 f, .int .i64 l, .int .i64 s], .int .i64 y] w fun e w' => e = .returned (.int .i64 (leastI f l s y)) ∧ Below w.heap.size w w' := by
  have B0 := Blk.new w 37 [.int .i64 f, .int .i64 l, .int .i64 s]
  have z0 := ext_alloc (ext_refl w) (.cells (List.toArray [.int .i64 f, .int .i64 l, .int .i64 s]) 37)
  have hc : ∀ (t : Int) w, -100000 ≤ t → t ≤ 200000 → Calls Try.prog 78 #[.agg #[.int .i64 f, .int .i64 l, .int .i64 s], .int .i64 t] w fun e w' => e = .returned (.int .i64 (curI f l s t)) ∧ Below w.heap.size w w' := fun t w h1 h2 => cuAt_any f l s t w hf hl hs ⟨h1, h2⟩
  by_cases h : curI f l s 100000 < y
  · rw [leastI_none hf.1 hs.1 h]
    go_enter Try.func86, Try.ntmps86
    go_wp2_with (go_at_call 78; refine (hc 100000 _ (by omega) (by omega)).mono ?_; rintro e w1 ⟨rfl, hb1⟩; have B1 := B0.below hb1; have z1 := ext_trans z0 hb1; obtain ⟨y1, x1, c1, f1⟩ := B1.three)
    go_ret
    exact ⟨rfl, z1⟩
  · have hge : y ≤ curI f l s 100000 := by omega
    have HGE := Lib.hid hge
    clear hge
    go_enter Try.func86, Try.ntmps86
    go_wp2_with (go_at_call 78; refine (hc 100000 _ (by omega) (by omega)).mono ?_; rintro e w1 ⟨rfl, hb1⟩; have B1 := B0.below hb1; have z1 := ext_trans z0 hb1; obtain ⟨y1, x1, c1, f1⟩ := B1.three)
    clear h
    go_loopw [5, 6] (LeastRel w w.heap.size 37 f l s y) (fun a b _ => (intOf b).toNat - (intOf a).toNat)
    case atStart => exact ⟨0, 100000, rfl, rfl, by omega, by omega, HGE.out, fun j hj => by omega, B1, z1⟩
    case round =>
      obtain ⟨a, b, rfl, rfl, hab, hb5, hbb, hno, B2, zr⟩ := hrel
      have HB := Lib.hid hbb
      have HN := Lib.hid hno
      clear hbb hno y1 x1 c1 f1
      obtain ⟨y2, x2, c2, f2⟩ := B2.three
      by_cases hlt : a < b
      · have hm1 := (mid_eq a b).1
        have hm2 := (mid_eq a b).2
        have ha1 : a ≤ (a + b) / 2 := by omega
        have hb1 : (a + b) / 2 < b := by omega
        generalize (a + b) / 2 = m at *
        go_wp2_with fail
        refine (hc (m : Int) _ (by omega) (by omega)).mono ?_; rintro e w3 ⟨rfl, hb3⟩
        have B3 := B2.below hb3
        have z3 := ext_trans zr hb3
        by_cases h3 : curI f l s m < y
        · have HM := Lib.hid h3
          go_wp2_with fail
          go_roundw
          case rel =>
            refine ⟨m + 1, b, by simp, rfl, by omega, hb5, HB.out, fun j hj => ?_, B3, z3⟩
            have h4 := curI_mono (l := l) hf.1 hs.1 (show (j : Int) ≤ (m : Int) by omega)
            have h5 := HM.out
            omega
          case measure => simp [intOf]; omega
        · have HM := Lib.hid (show y ≤ curI f l s m by omega)
          go_wp2_with fail
          go_roundw
          case rel => exact ⟨a, m, rfl, rfl, by omega, by omega, HM.out, HN.out, B3, z3⟩
          case measure => simp [intOf]; omega
      · obtain rfl : a = b := by omega
        go_wp2_with fail
        go_ret
        exact ⟨ret_int (leastI_some hb5 HB.out HN.out).symm, zr⟩

theorem dead_some {x : Ses} (hx : SesOk x) (hz : x.zs ≠ []) (h : needI x ≤ srvI x 100000) : 0 ≤ deadI x := by
  have hst := hx.st
  rw [dead_by_least hz]
  rcases leastI_cases (f := x.f) (l := x.l) (s := x.s) (y := needI x - x.ba) with ⟨h1, h2⟩ | ⟨d, h1, h2, h3, h4⟩
  · exfalso
    have := curI_mono (f := x.f) (l := x.l) (s := x.s) hx.f.1 hx.s.1 (show 100000 - x.st ≤ 100000 by omega)
    unfold srvI at h
    omega
  · have h5 : (d : Int) ≤ 100000 - x.st := by
      apply Classical.byContradiction
      intro h6
      have h7 := h4 (100000 - x.st).toNat (by omega)
      rw [show (((100000 - x.st).toNat : Nat) : Int) = 100000 - x.st by omega] at h7
      unfold srvI at h
      omega
    rw [h2, if_neg (by omega)]
    omega

set_option maxRecDepth 100000 in
set_option maxHeartbeats 2000000 in
theorem closure_any (x : SesV) (g1 g2 : Nat) (need t : Int) (w : World) (h : SesOk x.toSes) (h0 : 0 ≤ t) (h1 : t ≤ 100000) (hB : Blk w g1 39 [.int .i64 x.f, .int .i64 x.l, .int .i64 x.s, .int .i64 x.st, .int .i64 x.ba, .int .i64 x.se, .slice x.A x.m x.c]) (hN : Blk w g2 3 [.int .i64 need]) :
    Calls Try.prog 88 #[.int .i64 t, .pointer (some ⟨g1, 0, none⟩), .pointer (some ⟨g2, 0, none⟩)] w fun e w' => e = .returned (.bool (decide (need ≤ srvI x.toSes t))) ∧ Below w.heap.size w w' := by
  have hst := h.st
  have hcv : ∀ w, Calls Try.prog 60 #[.agg #[.int .i64 x.f, .int .i64 x.l, .int .i64 x.s, .int .i64 x.st, .int .i64 x.ba, .int .i64 x.se, .slice x.A x.m x.c], .int .i64 t] w fun e w' => e = .returned (.int .i64 (srvI x.toSes t)) ∧ Below w.heap.size w w' := fun w => serviceAt_any x t w h h0 (by omega) (by omega)
  generalize srvI x.toSes t = cv at *
  go_enter Try.func88, Try.ntmps88
  go_wp2_with fail
  refine wp_region_grow (by kernel_rfl) (by kernel_rfl) ?_
  intro S hne hkS ho
  have c0 : ∀ s : InC S, s.W.cell? ⟨g1, 0, none⟩ = some (.int .i64 x.f) := fun s => (hB.below (ho s)).cell 0
  have c1 : ∀ s : InC S, s.W.cell? ⟨g1, 1, none⟩ = some (.int .i64 x.l) := fun s => (hB.below (ho s)).cell 1
  have c2 : ∀ s : InC S, s.W.cell? ⟨g1, 2, none⟩ = some (.int .i64 x.s) := fun s => (hB.below (ho s)).cell 2
  have c3 : ∀ s : InC S, s.W.cell? ⟨g1, 3, none⟩ = some (.int .i64 x.st) := fun s => (hB.below (ho s)).cell 3
  have c4 : ∀ s : InC S, s.W.cell? ⟨g1, 4, none⟩ = some (.int .i64 x.ba) := fun s => (hB.below (ho s)).cell 4
  have c5 : ∀ s : InC S, s.W.cell? ⟨g1, 5, none⟩ = some (.int .i64 x.se) := fun s => (hB.below (ho s)).cell 5
  have c6 : ∀ s : InC S, s.W.cell? ⟨g1, 6, none⟩ = some (.slice x.A x.m x.c) := fun s => (hB.below (ho s)).cell 6
  have d0 : ∀ s : InC S, s.W.cell? ⟨g2, 0, none⟩ = some (.int .i64 need) := fun s => (hN.below (ho s)).cell 0
  repeat (go_big_quiet_step ((go_at_call 60; exact grow_call hkS (hcv _) (rfl))))
  refine wpQuiet_nil ?_
  rintro _ ⟨s, rfl⟩
  have hg1 := ho s
  clear c0 c1 c2 c3 c4 c5 c6 d0 ho hkS hne
  generalize s.W = w1 at *
  clear s S
  go_wp2_with fail
  go_ret
  exact ⟨rfl, hg1⟩

def FirstRel (w : World) (g1 g2 : Nat) (x : SesV) (need : Int) (lo hi : Value) (wr : World) : Prop :=
  ∃ a b : Int, lo = .int .i64 a ∧ hi = .int .i64 b ∧ x.st ≤ a ∧ a ≤ b + 1 ∧ b ≤ 100000 ∧ (∀ u, x.st ≤ u → u < a → srvI x.toSes u < need) ∧ (∀ u, b < u → u ≤ 100000 → need ≤ srvI x.toSes u) ∧
    Blk wr g1 39 [.int .i64 x.f, .int .i64 x.l, .int .i64 x.s, .int .i64 x.st, .int .i64 x.ba, .int .i64 x.se, .slice x.A x.m x.c] ∧ Blk wr g2 3 [.int .i64 need] ∧ Below w.heap.size w wr
theorem srv_mono {x : Ses} (h : SesOk x) {a b : Int} (hab : a ≤ b) : srvI x a ≤ srvI x b := by
  have := curI_mono (f := x.f) (l := x.l) (s := x.s) h.f.1 h.s.1 (show a - x.st ≤ b - x.st by omega)
  unfold srvI
  omega
theorem midI (a b : Int) (h : 0 ≤ a) (hab : a ≤ b) : (a + b) / 2 = (a + b).tdiv 2 ∧ a ≤ (a + b).tdiv 2 ∧ (a + b).tdiv 2 ≤ b := by
  rw [Int.tdiv_eq_ediv_of_nonneg (by omega)]
  omega

set_option maxRecDepth 100000 in
set_option maxHeartbeats 2000000 in
theorem firstTime_any (x : SesV) (g1 g2 : Nat) (w : World) (h : SesOk x.toSes) (hz : x.zs ≠ []) (hge : needI x.toSes ≤ srvI x.toSes 100000) (hB : Blk w g1 39 [.int .i64 x.f, .int .i64 x.l, .int .i64 x.s, .int .i64 x.st, .int .i64 x.ba, .int .i64 x.se, .slice x.A x.m x.c]) (hN : Blk w g2 3 [.int .i64 (needI x.toSes)]) :
    Calls Try.prog 87 #[.int .i64 x.st, .int .i64 100000, .func (.func 88) #[] #[.pointer (some ⟨g1, 0, none⟩), .pointer (some ⟨g2, 0, none⟩)]] w fun e w' => e = .returned (.int .i64 (deadI x.toSes)) ∧ Below w.heap.size w w' := by
  have hst := h.st
  have HGE := Lib.hid hge
  have HZ := Lib.hid hz
  clear hge hz
  go_enter Try.func87, Try.ntmps87
  go_wp2_with fail
  go_loopw [0, 1] (FirstRel w g1 g2 x (needI x.toSes)) (fun a b _ => (intOf b + 1 - intOf a).toNat)
  case atStart => exact ⟨x.st, 100000, rfl, rfl, by omega, by omega, by omega, fun u h1 h2 => by omega, fun u h1 h2 => by omega, hB, hN, ext_refl w⟩
  case round =>
    obtain ⟨a, b, rfl, rfl, ha, hab, hb5, hno, hyes, B2, N2, zr⟩ := hrel
    have HN := Lib.hid hno
    have HY := Lib.hid hyes
    clear hno hyes
    by_cases hlt : a ≤ b
    · obtain ⟨hm1, hm2, hm3⟩ := midI a b (by omega) hlt
      generalize (a + b).tdiv 2 = m at *
      go_wp2_with fail
      refine (closure_any x g1 g2 (needI x.toSes) m _ h (by omega) (by omega) B2 N2).mono ?_; rintro e w3 ⟨rfl, hb3⟩
      have B3 := B2.below hb3
      have N3 := N2.below hb3
      have z3 := ext_trans zr hb3
      by_cases h3 : needI x.toSes ≤ srvI x.toSes m
      · have HM := Lib.hid h3
        go_wp2_with fail
        go_roundw
        case rel => exact ⟨a, m - 1, rfl, rfl, ha, by omega, by omega, HN.out, fun u h1 h2 => Int.le_trans HM.out (srv_mono h (by omega)), B3, N3, z3⟩
        case measure => simp [intOf]; omega
      · have HM := Lib.hid (show srvI x.toSes m < needI x.toSes by omega)
        go_wp2_with fail
        go_roundw
        case rel => exact ⟨m + 1, b, rfl, rfl, by omega, by omega, hb5, fun u h1 h2 => Int.lt_of_le_of_lt (srv_mono h (by omega)) HM.out, HY.out, B3, N3, z3⟩
        case measure => simp [intOf]; omega
    · have ha5 : a ≤ 100000 := by
        apply Classical.byContradiction
        intro h6
        have h7 := HN.out 100000 (by omega) (by omega)
        have := HGE.out
        omega
      go_wp2_with fail
      go_ret
      exact ⟨ret_int (dead_at h HZ.out ha ha5 (HY.out a (by omega) ha5) HN.out).symm, zr⟩

theorem need_at {x : Ses} {z : Int} (h : x.zs[0]? = some z) : needI x = x.se + z := by
  unfold needI
  cases hz : x.zs with
  | nil => simp [hz] at h
  | cons a b => simp [hz] at h; simp [h]
theorem ne_of_at {x : Ses} {z : Int} (h : x.zs[0]? = some z) : x.zs ≠ [] := by intro e; simp [e] at h

set_option maxRecDepth 100000 in
set_option maxHeartbeats 2000000 in
theorem hfDeadline_any (x : SesV) (w : World) (h : SesOk x.toSes) (hm : x.m ≤ 1048576) (hr : Rd w 1 x.A x.m (x.zs.map (Value.int .i64))) :
    Calls Try.prog 64 #[.agg #[.int .i64 x.f, .int .i64 x.l, .int .i64 x.s, .int .i64 x.st, .int .i64 x.ba, .int .i64 x.se, .slice x.A x.m x.c]] w fun e w' => e = .returned (.int .i64 (deadI x.toSes)) ∧ Below w.heap.size w w' := by
  obtain ⟨⟨f, l, u, st, ba, se, zs⟩, A, m, c⟩ := x
  simp only at hm hr ⊢
  have HL := Lib.hid hr.len1
  generalize hx : (⟨f, l, u, st, ba, se, zs⟩ : Ses) = x at h
  have q0 : x.f = f ∧ x.l = l ∧ x.s = u ∧ x.st = st ∧ x.ba = ba ∧ x.se = se ∧ x.zs = zs := by subst hx; exact ⟨rfl, rfl, rfl, rfl, rfl, rfl, rfl⟩
  have hb := And.intro h.f (And.intro h.l (And.intro h.s (And.intro h.st (And.intro h.ba h.se))))
  rw [q0.1, q0.2.1, q0.2.2.1, q0.2.2.2.1, q0.2.2.2.2.1, q0.2.2.2.2.2.1] at hb
  obtain ⟨hf, hl, hs, hst, hba, hse⟩ := hb
  have Q0 := Lib.hid q0
  have H := Lib.hid h
  clear hx q0 h
  have B0 := Blk.new w 39 [.int .i64 f, .int .i64 l, .int .i64 u, .int .i64 st, .int .i64 ba, .int .i64 se, .slice A m c]
  have z0 := ext_alloc (ext_refl w) (.cells (List.toArray [.int .i64 f, .int .i64 l, .int .i64 u, .int .i64 st, .int .i64 ba, .int .i64 se, .slice A m c]) 39)
  rcases Nat.eq_zero_or_pos m with hm0 | hpos
  · subst hm0
    have e0 : deadI x = -1 := dead_nil (by rw [Q0.out.2.2.2.2.2.2]; exact List.eq_nil_of_length_eq_zero HL.out)
    have E0 := Lib.hid e0
    clear e0
    go_enter Try.func64, Try.ntmps64
    go_wp2_with fail
    go_ret
    exact ⟨ret_int E0.out.symm, z0⟩
  · obtain ⟨b, o, z, rfl, hbl, hz, hcz⟩ := hr.int 0 hpos
    have hzb := H.out.zs z (by rw [Q0.out.2.2.2.2.2.2]; exact List.mem_of_getElem? hz)
    simp only [Nat.add_zero] at hcz
    have e1 : needI x - x.ba = se + z - ba := by rw [need_at (by rw [Q0.out.2.2.2.2.2.2]; exact hz), Q0.out.2.2.2.2.2.1, Q0.out.2.2.2.2.1]
    have e2 : deadI x = (if leastI f l u (se + z - ba) < 0 ∨ 100000 < st + leastI f l u (se + z - ba) then -1 else st + leastI f l u (se + z - ba)) := by
      rw [dead_by_least (ne_of_at (by rw [Q0.out.2.2.2.2.2.2]; exact hz)), e1, Q0.out.1, Q0.out.2.1, Q0.out.2.2.1, Q0.out.2.2.2.1]
    have E2 := Lib.hid e2
    have hlv : ∀ w, Calls Try.prog 86 #[.agg #[.int .i64 f, .int .i64 l, .int .i64 u], .int .i64 (se + z - ba)] w fun e w' => e = .returned (.int .i64 (leastI f l u (se + z - ba))) ∧ Below w.heap.size w w' := fun w => cuLeast_any f l u (se + z - ba) w hf hl hs
    have hlb : -1 ≤ leastI f l u (se + z - ba) ∧ leastI f l u (se + z - ba) ≤ 100000 := by
      rcases leastI_cases (f := f) (l := l) (s := u) (y := se + z - ba) with ⟨h1, _⟩ | ⟨d, h1, h2, _⟩ <;> omega
    clear e1 e2 hz
    generalize leastI f l u (se + z - ba) = d at *
    have i0 : (0 : Int) < (m : Int) := by omega
    have i1 : decide ((m : Int) = 0) = false := by simp; omega
    have i2 : decide (m = 0) = false := by simp; omega
    have hw0 := wrap_in (se + z) (by omega) (by omega)
    have hw1 := wrap_in (se + z - ba) (by omega) (by omega)
    rw [E2.out]
    clear E2
    have HC := Lib.hid hcz
    have HBL := Lib.hid hbl
    clear hcz
    by_cases hd : d < 0 ∨ 100000 < st + d
    · rw [if_pos hd]
      go_enter Try.func64, Try.ntmps64
      go_wp2_with fail
      refine wp_region_grow (by kernel_rfl) (by kernel_rfl) ?_
      intro S hne hkS ho
      have c0 : ∀ s : InC S, s.W.cell? ⟨w.heap.size, 0, none⟩ = some (.int .i64 f) := fun s => (B0.below (ho s)).cell 0
      have c1 : ∀ s : InC S, s.W.cell? ⟨w.heap.size, 1, none⟩ = some (.int .i64 l) := fun s => (B0.below (ho s)).cell 1
      have c2 : ∀ s : InC S, s.W.cell? ⟨w.heap.size, 2, none⟩ = some (.int .i64 u) := fun s => (B0.below (ho s)).cell 2
      have c3 : ∀ s : InC S, s.W.cell? ⟨w.heap.size, 3, none⟩ = some (.int .i64 st) := fun s => (B0.below (ho s)).cell 3
      have c4 : ∀ s : InC S, s.W.cell? ⟨w.heap.size, 4, none⟩ = some (.int .i64 ba) := fun s => (B0.below (ho s)).cell 4
      have c5 : ∀ s : InC S, s.W.cell? ⟨w.heap.size, 5, none⟩ = some (.int .i64 se) := fun s => (B0.below (ho s)).cell 5
      have c6 : ∀ s : InC S, s.W.cell? ⟨w.heap.size, 6, none⟩ = some (.slice (some ⟨b, o, none⟩) m c) := fun s => (B0.below (ho s)).cell 6
      have d0 : ∀ s : InC S, s.W.cell? ⟨b, o, none⟩ = some (.int .i64 z) := fun s => ((ext_trans z0 (ho s)).cell (p := ⟨b, o, none⟩) HBL.out).trans HC.out
      repeat (go_big_quiet_step ((go_at_call 86; exact grow_call hkS (hlv _) (rfl))))
      refine wpQuiet_nil ?_
      rintro _ ⟨s, rfl⟩
      have hg1 := ho s
      clear c0 c1 c2 c3 c4 c5 c6 d0 ho hkS hne
      generalize s.W = w1 at *
      clear s S
      have B1 := B0.below hg1
      obtain ⟨y1, x1, c1, f1⟩ := B1.seven
      go_wp2_with fail
      all_goals first | exact (show False by omega).elim | (go_ret; exact ⟨rfl, ext_trans z0 hg1⟩)
    · rw [if_neg hd]
      go_enter Try.func64, Try.ntmps64
      go_wp2_with fail
      refine wp_region_grow (by kernel_rfl) (by kernel_rfl) ?_
      intro S hne hkS ho
      have c0 : ∀ s : InC S, s.W.cell? ⟨w.heap.size, 0, none⟩ = some (.int .i64 f) := fun s => (B0.below (ho s)).cell 0
      have c1 : ∀ s : InC S, s.W.cell? ⟨w.heap.size, 1, none⟩ = some (.int .i64 l) := fun s => (B0.below (ho s)).cell 1
      have c2 : ∀ s : InC S, s.W.cell? ⟨w.heap.size, 2, none⟩ = some (.int .i64 u) := fun s => (B0.below (ho s)).cell 2
      have c3 : ∀ s : InC S, s.W.cell? ⟨w.heap.size, 3, none⟩ = some (.int .i64 st) := fun s => (B0.below (ho s)).cell 3
      have c4 : ∀ s : InC S, s.W.cell? ⟨w.heap.size, 4, none⟩ = some (.int .i64 ba) := fun s => (B0.below (ho s)).cell 4
      have c5 : ∀ s : InC S, s.W.cell? ⟨w.heap.size, 5, none⟩ = some (.int .i64 se) := fun s => (B0.below (ho s)).cell 5
      have c6 : ∀ s : InC S, s.W.cell? ⟨w.heap.size, 6, none⟩ = some (.slice (some ⟨b, o, none⟩) m c) := fun s => (B0.below (ho s)).cell 6
      have d0 : ∀ s : InC S, s.W.cell? ⟨b, o, none⟩ = some (.int .i64 z) := fun s => ((ext_trans z0 (ho s)).cell (p := ⟨b, o, none⟩) HBL.out).trans HC.out
      repeat (go_big_quiet_step ((go_at_call 86; exact grow_call hkS (hlv _) (rfl))))
      refine wpQuiet_nil ?_
      rintro _ ⟨s, rfl⟩
      have hg1 := ho s
      clear c0 c1 c2 c3 c4 c5 c6 d0 ho hkS hne
      generalize s.W = w1 at *
      clear s S
      have B1 := B0.below hg1
      obtain ⟨y1, x1, c1, f1⟩ := B1.seven
      go_wp2_with fail
      all_goals first | exact (show False by omega).elim | (go_ret; exact ⟨rfl, ext_trans z0 hg1⟩)

def deadB (x : Ses) : Bool := decide (0 ≤ deadI x)
def deadV (x : Ses) : Int := if 0 ≤ deadI x then deadI x else 0

set_option maxRecDepth 100000 in
set_option maxHeartbeats 2000000 in
theorem deadlineOf_at (x : Ses) (A : Option Addr) (m c : Nat) (w : World) (h : SesOk x) (hm : m ≤ 1048576) (hr : Rd w 1 A m (x.zs.map (Value.int .i64))) :
    Calls Try.prog 65 #[.agg #[.int .i64 x.f, .int .i64 x.l, .int .i64 x.s, .int .i64 x.st, .int .i64 x.ba, .int .i64 x.se, .slice A m c]] w fun e w' => e = .returned (.tuple #[.int .i64 (deadV x), .bool (deadB x)]) ∧ Below w.heap.size w w' := by
  have HL := Lib.hid hr.len1
  have hst := h.st
  have hba := h.ba
  have hse := h.se
  rcases Nat.eq_zero_or_pos m with hm0 | hpos
  · subst hm0
    have e0 : deadI x = -1 := dead_nil (List.eq_nil_of_length_eq_zero HL.out)
    have e1 : deadB x = false := by simp [deadB, e0]
    have e2 : deadV x = 0 := by simp [deadV, e0]
    rw [e1, e2]
    clear e0 e1 e2
    go_enter Try.func65, Try.ntmps65
    go_wp2_with fail
    go_ret2
    exact ⟨rfl, ext_alloc (ext_refl w) _⟩
  · obtain ⟨b, o, z, rfl, hbl, hz, hcz⟩ := hr.int 0 hpos
    have B0 := Blk.new w 39 [.int .i64 x.f, .int .i64 x.l, .int .i64 x.s, .int .i64 x.st, .int .i64 x.ba, .int .i64 x.se, .slice (some ⟨b, o, none⟩) m c]
    have z0 := ext_alloc (ext_refl w) (.cells (List.toArray [.int .i64 x.f, .int .i64 x.l, .int .i64 x.s, .int .i64 x.st, .int .i64 x.ba, .int .i64 x.se, .slice (some ⟨b, o, none⟩) m c]) 39)
    have B1 := (B0.alloc (.cells (List.toArray [.int .i64 (x.se + z)]) 3)).drew
    have N1 : Blk ((w.alloc (.cells (List.toArray [.int .i64 x.f, .int .i64 x.l, .int .i64 x.s, .int .i64 x.st, .int .i64 x.ba, .int .i64 x.se, .slice (some ⟨b, o, none⟩) m c]) 39)).alloc (.cells (List.toArray [.int .i64 (x.se + z)]) 3)).drew (w.heap.size + 1) 3 [.int .i64 (x.se + z)] := by
      have h := Blk.new (w.alloc (.cells (List.toArray [.int .i64 x.f, .int .i64 x.l, .int .i64 x.s, .int .i64 x.st, .int .i64 x.ba, .int .i64 x.se, .slice (some ⟨b, o, none⟩) m c]) 39)) 3 [.int .i64 (x.se + z)]
      rw [World.size_alloc] at h
      exact h.drew
    have z1 := (ext_alloc z0 (.cells (List.toArray [.int .i64 (x.se + z)]) 3)).drew
    have hzb := h.zs z (List.mem_of_getElem? hz)
    simp only [Nat.add_zero] at hcz
    have c0 := (z0.cell (p := ⟨b, o, none⟩) hbl).trans hcz
    have HNE := Lib.hid (need_at hz)
    have HZN := Lib.hid (ne_of_at hz)
    have i0 : (0 : Int) < (m : Int) := by omega
    have i1 : ((m : Int) == 0) = false := by simp; omega
    have hw0 := wrap_in (x.se + z) (by omega) (by omega)
    have hcv : ∀ w, Calls Try.prog 60 #[.agg #[.int .i64 x.f, .int .i64 x.l, .int .i64 x.s, .int .i64 x.st, .int .i64 x.ba, .int .i64 x.se, .slice (some ⟨b, o, none⟩) m c], .int .i64 100000] w fun e w' => e = .returned (.int .i64 (srvI x 100000)) ∧ Below w.heap.size w w' := fun w => serviceAt_any ⟨x, (some ⟨b, o, none⟩), m, c⟩ 100000 w h (by omega) (by omega) (by simp only; omega)
    have hft := fun w hge hB hN => firstTime_any ⟨x, (some ⟨b, o, none⟩), m, c⟩ w.heap.size (w.heap.size + 1) w h HZN.out hge hB hN
    clear hz
    by_cases hlt : srvI x 100000 < needI x
    · have e0 : deadI x = -1 := dead_late h hlt
      have e1 : deadB x = false := by simp [deadB, e0]
      have e2 : deadV x = 0 := by simp [deadV, e0]
      rw [e1, e2]
      rw [HNE.out] at hlt
      clear e0 e1 e2 hft
      generalize srvI x 100000 = sv at *
      go_enter Try.func65, Try.ntmps65
      go_wp2_with fail
      go_region
      go_wp2_with fail
      refine wp_region_grow (by kernel_rfl) (by kernel_rfl) ?_
      intro S hne hkS ho
      have c0 : ∀ s : InC S, s.W.cell? ⟨w.heap.size, 0, none⟩ = some (.int .i64 x.f) := fun s => (B1.below (ho s)).cell 0
      have c1 : ∀ s : InC S, s.W.cell? ⟨w.heap.size, 1, none⟩ = some (.int .i64 x.l) := fun s => (B1.below (ho s)).cell 1
      have c2 : ∀ s : InC S, s.W.cell? ⟨w.heap.size, 2, none⟩ = some (.int .i64 x.s) := fun s => (B1.below (ho s)).cell 2
      have c3 : ∀ s : InC S, s.W.cell? ⟨w.heap.size, 3, none⟩ = some (.int .i64 x.st) := fun s => (B1.below (ho s)).cell 3
      have c4 : ∀ s : InC S, s.W.cell? ⟨w.heap.size, 4, none⟩ = some (.int .i64 x.ba) := fun s => (B1.below (ho s)).cell 4
      have c5 : ∀ s : InC S, s.W.cell? ⟨w.heap.size, 5, none⟩ = some (.int .i64 x.se) := fun s => (B1.below (ho s)).cell 5
      have c6 : ∀ s : InC S, s.W.cell? ⟨w.heap.size, 6, none⟩ = some (.slice (some ⟨b, o, none⟩) m c) := fun s => (B1.below (ho s)).cell 6
      have d0 : ∀ s : InC S, s.W.cell? ⟨w.heap.size + 1, 0, none⟩ = some (.int .i64 (x.se + z)) := fun s => (N1.below (ho s)).cell 0
      repeat (go_big_quiet_step ((go_at_call 60; exact grow_call hkS (hcv _) (rfl))))
      refine wpQuiet_nil ?_
      rintro _ ⟨s, rfl⟩
      have hg2 := ho s
      clear c0 c1 c2 c3 c4 c5 c6 d0 ho hkS hne
      generalize s.W = w2 at *
      clear s S
      go_wp2_with fail
      go_ret2
      exact ⟨rfl, ext_trans z1 hg2⟩
    · have e0 : 0 ≤ deadI x := dead_some h HZN.out (by omega)
      have e1 : deadB x = true := by simp [deadB, e0]
      have e2 : deadV x = deadI x := by simp [deadV, e0]
      have HGE := Lib.hid (show needI x ≤ srvI x 100000 by omega)
      rw [e1, e2]
      rw [HNE.out] at hlt
      clear e0 e1 e2
      generalize hsv : srvI x 100000 = sv at *
      have HSV := Lib.hid hsv
      clear hsv
      have hmf : ∀ (fn : Fn) (first cap : Array Value) (w : World), (Instr.makeFunc fn first cap).run Try.prog w = .ok (.func fn first cap) w := fun _ _ _ _ => rfl
      go_enter Try.func65, Try.ntmps65
      go_wp2_with fail
      go_region
      go_wp2_with fail
      refine wp_region_grow (by kernel_rfl) (by kernel_rfl) ?_
      intro S hne hkS ho
      have c0 : ∀ s : InC S, s.W.cell? ⟨w.heap.size, 0, none⟩ = some (.int .i64 x.f) := fun s => (B1.below (ho s)).cell 0
      have c1 : ∀ s : InC S, s.W.cell? ⟨w.heap.size, 1, none⟩ = some (.int .i64 x.l) := fun s => (B1.below (ho s)).cell 1
      have c2 : ∀ s : InC S, s.W.cell? ⟨w.heap.size, 2, none⟩ = some (.int .i64 x.s) := fun s => (B1.below (ho s)).cell 2
      have c3 : ∀ s : InC S, s.W.cell? ⟨w.heap.size, 3, none⟩ = some (.int .i64 x.st) := fun s => (B1.below (ho s)).cell 3
      have c4 : ∀ s : InC S, s.W.cell? ⟨w.heap.size, 4, none⟩ = some (.int .i64 x.ba) := fun s => (B1.below (ho s)).cell 4
      have c5 : ∀ s : InC S, s.W.cell? ⟨w.heap.size, 5, none⟩ = some (.int .i64 x.se) := fun s => (B1.below (ho s)).cell 5
      have c6 : ∀ s : InC S, s.W.cell? ⟨w.heap.size, 6, none⟩ = some (.slice (some ⟨b, o, none⟩) m c) := fun s => (B1.below (ho s)).cell 6
      have d0 : ∀ s : InC S, s.W.cell? ⟨w.heap.size + 1, 0, none⟩ = some (.int .i64 (x.se + z)) := fun s => (N1.below (ho s)).cell 0
      repeat (go_big_quiet_step ((go_at_call 60; exact grow_call hkS (hcv _) (rfl))))
      refine wpQuiet_nil ?_
      rintro _ ⟨s, rfl⟩
      have hg2 := ho s
      clear c0 c1 c2 c3 c4 c5 c6 d0 ho hkS hne
      generalize s.W = w2 at *
      clear s S
      have B2 := B1.below hg2
      have N2 := N1.below hg2
      have z2 := ext_trans z1 hg2
      obtain ⟨y2, x2, c2, f2⟩ := B2.seven
      go_wp2_with fail
      refine (firstTime_any ⟨x, (some ⟨b, o, none⟩), m, c⟩ w.heap.size (w.heap.size + 1) w2 h HZN.out (by simp only; rw [show srvI x 100000 = sv from HSV.out]; exact HGE.out) B2 (by simp only; rw [show needI x = x.se + z from HNE.out]; exact N2)).mono ?_; rintro e w3 ⟨rfl, hb3⟩
      go_wp2_with fail
      go_ret2
      exact ⟨rfl, ext_trans z2 hb3⟩

theorem deadlineOf_any (x : SesV) (w : World) (h : SesOk x.toSes) (hm : x.m ≤ 1048576) (hr : Rd w 1 x.A x.m (x.zs.map (Value.int .i64))) :
    Calls Try.prog 65 #[.agg #[.int .i64 x.f, .int .i64 x.l, .int .i64 x.s, .int .i64 x.st, .int .i64 x.ba, .int .i64 x.se, .slice x.A x.m x.c]] w fun e w' => e = .returned (.tuple #[.int .i64 (deadV x.toSes), .bool (deadB x.toSes)]) ∧ Below w.heap.size w w' := deadlineOf_at x.toSes x.A x.m x.c w h hm hr

def dofB (x : Ses) : Bool := sesB x && deadB x
def dofV (x : Ses) : Int := if sesB x then deadV x else 0

set_option maxRecDepth 100000 in
set_option maxHeartbeats 2000000 in
theorem implDeadlineOf_any (x : SesV) (w : World) (hm : x.m ≤ 1048576) (hr : Rd w 1 x.A x.m (x.zs.map (Value.int .i64))) :
    Calls Try.prog 28 #[.agg #[.int .i64 x.f, .int .i64 x.l, .int .i64 x.s, .int .i64 x.st, .int .i64 x.ba, .int .i64 x.se, .slice x.A x.m x.c]] w fun e w' => e = .returned (.tuple #[.int .i64 (dofV x.toSes), .bool (dofB x.toSes)]) ∧ Below w.heap.size w w' := by
  have B0 := Blk.new w 39 [.int .i64 x.f, .int .i64 x.l, .int .i64 x.s, .int .i64 x.st, .int .i64 x.ba, .int .i64 x.se, .slice x.A x.m x.c]
  have z0 := ext_alloc (ext_refl w) (.cells (List.toArray [.int .i64 x.f, .int .i64 x.l, .int .i64 x.s, .int .i64 x.st, .int .i64 x.ba, .int .i64 x.se, .slice x.A x.m x.c]) 39)
  unfold dofV dofB
  cases h1 : sesB x.toSes with
  | false =>
    rw [Bool.false_and]
    go_enter Try.func28, Try.ntmps28
    go_wp2_with (go_at_call 21; refine (implIsSession_any x _ hm (hr.below z0)).mono ?_; rintro e w1 ⟨rfl, hb1⟩; have B1 := B0.below hb1; have z1 := ext_trans z0 hb1; obtain ⟨y1, x1, c1, f1⟩ := B1.seven)
    go_ret2
    exact ⟨rfl, z1⟩
  | true =>
    have HOK := Lib.hid (sesB_iff.1 h1)
    rw [Bool.true_and, if_pos rfl]
    go_enter Try.func28, Try.ntmps28
    go_wp2_with (first | (go_at_call 21; refine (implIsSession_any x _ hm (hr.below z0)).mono ?_; rintro e w1 ⟨rfl, hb1⟩; have B1 := B0.below hb1; have z1 := ext_trans z0 hb1; obtain ⟨y1, x1, c1, f1⟩ := B1.seven) | (go_at_call 65; refine (deadlineOf_any x _ HOK.out hm (hr.below z1)).mono ?_; rintro e w2 ⟨rfl, hb2⟩; have B2 := B1.below hb2; have z2 := ext_trans z1 hb2; obtain ⟨y2, x2, c2, f2⟩ := B2.seven))
    go_ret2
    exact ⟨rfl, z2⟩

set_option maxRecDepth 100000 in
set_option maxHeartbeats 2000000 in
theorem specDeadlineOf_any (x : SesV) (w : World) (hm : x.m ≤ 1048576) (hr : Rd w 1 x.A x.m (x.zs.map (Value.int .i64))) :
    Calls Try.prog 27 #[.agg #[.int .i64 x.f, .int .i64 x.l, .int .i64 x.s, .int .i64 x.st, .int .i64 x.ba, .int .i64 x.se, .slice x.A x.m x.c]] w fun e w' => e = .returned (.tuple #[.int .i64 (dofV x.toSes), .bool (dofB x.toSes)]) ∧ Below w.heap.size w w' := by
  have B0 := Blk.new w 39 [.int .i64 x.f, .int .i64 x.l, .int .i64 x.s, .int .i64 x.st, .int .i64 x.ba, .int .i64 x.se, .slice x.A x.m x.c]
  have z0 := ext_alloc (ext_refl w) (.cells (List.toArray [.int .i64 x.f, .int .i64 x.l, .int .i64 x.s, .int .i64 x.st, .int .i64 x.ba, .int .i64 x.se, .slice x.A x.m x.c]) 39)
  unfold dofV dofB
  cases h1 : sesB x.toSes with
  | false =>
    rw [Bool.false_and]
    go_enter Try.func27, Try.ntmps27
    go_wp2_with (go_at_call 51; refine (hfGood_any x _ hm (hr.below z0)).mono ?_; rintro e w1 ⟨rfl, hb1⟩; have B1 := B0.below hb1; have z1 := ext_trans z0 hb1; obtain ⟨y1, x1, c1, f1⟩ := B1.seven)
    go_ret2
    exact ⟨rfl, z1⟩
  | true =>
    have HOK := Lib.hid (sesB_iff.1 h1)
    rw [Bool.true_and, if_pos rfl]
    have hdv : ∀ w, Rd w 1 x.A x.m (x.zs.map (Value.int .i64)) → Calls Try.prog 64 #[.agg #[.int .i64 x.f, .int .i64 x.l, .int .i64 x.s, .int .i64 x.st, .int .i64 x.ba, .int .i64 x.se, .slice x.A x.m x.c]] w fun e w' => e = .returned (.int .i64 (deadI x.toSes)) ∧ Below w.heap.size w w' := fun w hr => hfDeadline_any x w HOK.out hm hr
    unfold deadV deadB
    generalize deadI x.toSes = d at *
    by_cases hd : d < 0
    · rw [if_neg (by omega), show decide (0 ≤ d) = false by simp; omega]
      go_enter Try.func27, Try.ntmps27
      go_wp2_with (first | (go_at_call 51; refine (hfGood_any x _ hm (hr.below z0)).mono ?_; rintro e w1 ⟨rfl, hb1⟩; have B1 := B0.below hb1; have z1 := ext_trans z0 hb1; obtain ⟨y1, x1, c1, f1⟩ := B1.seven) | (go_at_call 64; refine (hdv _ (hr.below z1)).mono ?_; rintro e w2 ⟨rfl, hb2⟩; have B2 := B1.below hb2; have z2 := ext_trans z1 hb2; obtain ⟨y2, x2, c2, f2⟩ := B2.seven))
      go_ret2
      exact ⟨rfl, z2⟩
    · rw [if_pos (by omega), show decide (0 ≤ d) = true by simp; omega]
      go_enter Try.func27, Try.ntmps27
      go_wp2_with fail
      refine (hfGood_any x _ hm (hr.below z0)).mono ?_; rintro e w1 ⟨rfl, hb1⟩
      have B1 := B0.below hb1
      have z1 := ext_trans z0 hb1
      obtain ⟨y1, x1, c1, f1⟩ := B1.seven
      rw [h1]
      go_wp2_with fail
      refine (hdv _ (hr.below z1)).mono ?_; rintro e w2 ⟨rfl, hb2⟩
      have B2 := B1.below hb2
      have z2 := ext_trans z1 hb2
      clear y1 x1 c1 f1 B1 hb2
      obtain ⟨y2, x2, c2, f2⟩ := B2.seven
      go_wp2_with fail
      refine (hdv _ (hr.below z2)).mono ?_; rintro e w3 ⟨rfl, hb3⟩
      go_wp2_with fail
      go_ret2
      exact ⟨rfl, ext_trans z2 hb3⟩

set_option maxRecDepth 100000 in
set_option maxHeartbeats 4000000 in
theorem walkDeadlineOf (x : SesV) (w : World) (hx : SRd w x) :
    Calls Try.prog 7 #[.agg #[.int .i64 x.f, .int .i64 x.l, .int .i64 x.s, .int .i64 x.st, .int .i64 x.ba, .int .i64 x.se, .slice x.A x.m x.c]] w fun e w' => e = .returned (.bool true) ∧ Below w.heap.size w w' := by
  have B0 := Blk.new w 34 [.int .i64 x.f, .int .i64 x.l, .int .i64 x.s, .int .i64 x.st, .int .i64 x.ba, .int .i64 x.se, .slice x.A x.m x.c]
  have z0 := ext_alloc (ext_refl w) (.cells (List.toArray [.int .i64 x.f, .int .i64 x.l, .int .i64 x.s, .int .i64 x.st, .int .i64 x.ba, .int .i64 x.se, .slice x.A x.m x.c]) 34)
  obtain ⟨hn, hr⟩ := hx
  by_cases hbig : 1048576 < x.m
  · go_enter Try.func7, Try.ntmps7
    go_wp2_with fail
    refine (szSession_any x _ _ hn (by omega) (by omega)).mono ?_; rintro e w1 ⟨rfl, hb1⟩
    rw [if_pos (by omega)]
    go_wp2_with fail
    go_ret
    exact ⟨rfl, ext_trans z0 hb1⟩
  have hm : x.m ≤ 1048576 := by omega
  have hs : (if (1048576 : Int) < (x.m : Int) then (-1 : Int) else 1048576 - x.m) = 1048576 - x.m := by { split <;> omega }
  have HS := Lib.hid hs
  clear hs
  go_enter Try.func7, Try.ntmps7
  go_wp2_with fail
  refine (szSession_any x _ _ hn (by omega) (by omega)).mono ?_; rintro e w1 ⟨rfl, hb1⟩
  rw [HS.out]
  have B1 := B0.below hb1
  have z1 := ext_trans z0 hb1
  clear B0 z0 hb1
  obtain ⟨y1, x1, c1, f1⟩ := B1.seven
  go_wp2_with fail
  refine (toSession_any x _ hm (hr.below z1)).mono ?_; rintro e w2 ⟨g2, rfl, ow2, hb2⟩
  have B2 := B1.below hb2
  have z2 := ext_trans z1 hb2
  clear y1 x1 c1 f1 B1 hb2 z1
  go_wp2_with fail
  refine (specDeadlineOf_any ⟨x.toSes, some ⟨g2, 0, none⟩, x.m, x.m⟩ _ hm (Rd.of_own ow2)).mono ?_; rintro e w3 ⟨rfl, hb3⟩
  have B3 := B2.below hb3
  have z3 := ext_trans z2 hb3
  clear B2 hb3 z2 ow2
  obtain ⟨y3, x3, c3, f3⟩ := B3.seven
  go_wp2_with fail
  refine (toSession_any x _ hm (hr.below z3)).mono ?_; rintro e w4 ⟨g4, rfl, ow4, hb4⟩
  have X4 := Blk.new w4 39 [.int .i64 x.f, .int .i64 x.l, .int .i64 x.s, .int .i64 x.st, .int .i64 x.ba, .int .i64 x.se, .slice (some ⟨g4, 0, none⟩) x.m x.m]
  have B4 := (B3.below hb4).alloc (.cells (List.toArray [.int .i64 x.f, .int .i64 x.l, .int .i64 x.s, .int .i64 x.st, .int .i64 x.ba, .int .i64 x.se, .slice (some ⟨g4, 0, none⟩) x.m x.m]) 39)
  have z4 := ext_alloc (ext_trans z3 hb4) (.cells (List.toArray [.int .i64 x.f, .int .i64 x.l, .int .i64 x.s, .int .i64 x.st, .int .i64 x.ba, .int .i64 x.se, .slice (some ⟨g4, 0, none⟩) x.m x.m]) 39)
  have ow4a := ow4.alloc (.cells (List.toArray [.int .i64 x.f, .int .i64 x.l, .int .i64 x.s, .int .i64 x.st, .int .i64 x.ba, .int .i64 x.se, .slice (some ⟨g4, 0, none⟩) x.m x.m]) 39)
  clear y3 x3 c3 f3 B3 hb4 z3 ow4
  go_wp2_with fail
  refine (implDeadlineOf_any ⟨x.toSes, some ⟨g4, 0, none⟩, x.m, x.m⟩ _ hm (Rd.of_own ow4a)).mono ?_; rintro e w5 ⟨rfl, hb5⟩
  have X5 := X4.below hb5
  have B5 := B4.below hb5
  have z5 := ext_trans z4 hb5
  have ow5 := own_ext ow4a hb5
  clear X4 B4 z4 ow4a hb5
  obtain ⟨y5, x5, c5, f5⟩ := B5.seven
  obtain ⟨y6, x6, c6, f6⟩ := X5.seven
  go_wp2_with fail
  go_region_held3 (fun w' => w'.cell? ⟨w.heap.size, 0, none⟩ = some (.int .i64 x.f) ∧ w'.cell? ⟨w.heap.size, 1, none⟩ = some (.int .i64 x.l) ∧ w'.cell? ⟨w.heap.size, 2, none⟩ = some (.int .i64 x.s) ∧ w'.cell? ⟨w.heap.size, 3, none⟩ = some (.int .i64 x.st) ∧ w'.cell? ⟨w.heap.size, 4, none⟩ = some (.int .i64 x.ba) ∧ w'.cell? ⟨w.heap.size, 5, none⟩ = some (.int .i64 x.se) ∧ w'.cell? ⟨w.heap.size, 6, none⟩ = some (.slice x.A x.m x.c) ∧ w'.cell? ⟨w4.heap.size, 0, none⟩ = some (.int .i64 x.f) ∧ w'.cell? ⟨w4.heap.size, 1, none⟩ = some (.int .i64 x.l) ∧ w'.cell? ⟨w4.heap.size, 2, none⟩ = some (.int .i64 x.s) ∧ w'.cell? ⟨w4.heap.size, 3, none⟩ = some (.int .i64 x.st) ∧ w'.cell? ⟨w4.heap.size, 4, none⟩ = some (.int .i64 x.ba) ∧ w'.cell? ⟨w4.heap.size, 5, none⟩ = some (.int .i64 x.se) ∧ w'.cell? ⟨w4.heap.size, 6, none⟩ = some (.slice (some ⟨g4, 0, none⟩) x.m x.m))
    (first | exact ⟨B7.cell 0, B7.cell 1, B7.cell 2, B7.cell 3, B7.cell 4, B7.cell 5, B7.cell 6, X7.cell 0, X7.cell 1, X7.cell 2, X7.cell 3, X7.cell 4, X7.cell 5, X7.cell 6⟩ | exact ⟨B6.cell 0, B6.cell 1, B6.cell 2, B6.cell 3, B6.cell 4, B6.cell 5, B6.cell 6, X6.cell 0, X6.cell 1, X6.cell 2, X6.cell 3, X6.cell 4, X6.cell 5, X6.cell 6⟩ | exact ⟨B5.drew.cell 0, B5.drew.cell 1, B5.drew.cell 2, B5.drew.cell 3, B5.drew.cell 4, B5.drew.cell 5, B5.drew.cell 6, X5.drew.cell 0, X5.drew.cell 1, X5.drew.cell 2, X5.drew.cell 3, X5.drew.cell 4, X5.drew.cell 5, X5.drew.cell 6⟩)
    (first | (go_at_call 20; refine (toSession_any x _ hm (hr.below z5.drew)).mono ?_; rintro e w6 ⟨g6, rfl, ow6, hb6⟩; have B6 := B5.drew.below hb6; have X6 := X5.drew.below hb6; have ow7 := own_ext ow5.drew hb6) | (go_at_call 22; refine (eqSession_same ⟨x.toSes, some ⟨g4, 0, none⟩, x.m, x.m⟩ (some ⟨g6, 0, none⟩) x.m _ hm (Rd.of_own ow7) (Rd.of_own ow6)).mono ?_; rintro e w7 ⟨rfl, hb7⟩; have B7 := B6.below hb7; have X7 := X6.below hb7))
  go_wp2_with fail
  go_ret
  exact ⟨rfl, ext_trans (ext_trans z5.drew hb6) hb7⟩

end Go.Proofs.Ytgljelhglgeojaa