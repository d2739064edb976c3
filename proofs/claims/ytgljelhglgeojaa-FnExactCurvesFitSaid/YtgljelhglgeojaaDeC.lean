/- ServiceAt, EligibleAt: contracts of the program's and the reference's. -/
import Derived.Test.YtgljelhglgeojaaDeB
import Derived.Test.YtgljelhglgeojaaReg
namespace Go.Proofs.Ytgljelhglgeojaa
open Go.RowKit

def svcOk (x : Ses) (t : Int) : Bool := sesB x && inB t x.st 100000
def svcR (x : Ses) (t : Int) : Int := if svcOk x t then srvI x t else 0
def eligOk (x : Ses) (t : Int) : Bool := sesB x && inB t 0 100000
def eligR (x : Ses) (t : Int) : Bool := eligOk x t && eligB x t

set_option maxHeartbeats 1000000 in
theorem curveAt_any (f l s t : Int) (w : World) (hf : 0 ≤ f ∧ f ≤ 100000) (hl : 0 ≤ l ∧ l ≤ 10000) (hs : 0 ≤ s ∧ s ≤ 100000) (ht : -100000 ≤ t ∧ t ≤ 200000) :
    Calls Try.prog 83 #[.agg #[.int .i64 f, .int .i64 l, .int .i64 s], .int .i64 t] w fun e w' => e = .returned (.int .i64 (curI f l s t)) ∧ Below w.heap.size w w' := by
  obtain ⟨⟨p1, p2⟩, ⟨p3, p4⟩, p5, p6⟩ := curI_parts hf hl hs ht
  by_cases h : t ≤ l
  · have e0 : curI f l s t = f * t := by unfold curI; rw [if_pos h]
    rw [e0]
    clear e0
    go_enter Try.func83, Try.ntmps83
    go_wp2
    go_ret
    exact ⟨rfl, ext_alloc (ext_refl w) _⟩
  · have e0 : curI f l s t = f * l + s * (t - l) := by unfold curI; rw [if_neg h]
    rw [e0]
    clear e0
    go_enter Try.func83, Try.ntmps83
    go_wp2
    go_ret
    exact ⟨rfl, ext_alloc (ext_refl w) _⟩

set_option maxHeartbeats 1000000 in
theorem cuAt_any (f l s t : Int) (w : World) (hf : 0 ≤ f ∧ f ≤ 100000) (hl : 0 ≤ l ∧ l ≤ 10000) (hs : 0 ≤ s ∧ s ≤ 100000) (ht : -100000 ≤ t ∧ t ≤ 200000) :
    Calls Try.prog 78 #[.agg #[.int .i64 f, .int .i64 l, .int .i64 s], .int .i64 t] w fun e w' => e = .returned (.int .i64 (curI f l s t)) ∧ Below w.heap.size w w' := by
  obtain ⟨⟨p1, p2⟩, ⟨p3, p4⟩, p5, p6⟩ := curI_parts hf hl hs ht
  by_cases h : t ≤ l
  · have e0 : curI f l s t = f * t := by unfold curI; rw [if_pos h]
    rw [e0]
    clear e0
    go_enter Try.func78, Try.ntmps78
    go_wp2
    go_ret
    exact ⟨rfl, ext_alloc (ext_refl w) _⟩
  · have e0 : curI f l s t = f * l + s * (t - l) := by unfold curI; rw [if_neg h]
    rw [e0]
    clear e0
    go_enter Try.func78, Try.ntmps78
    go_wp2
    go_ret
    exact ⟨rfl, ext_alloc (ext_refl w) _⟩

set_option maxRecDepth 100000 in
set_option maxHeartbeats 2000000 in
theorem serviceAt_any (x : SesV) (t : Int) (w : World) (h : SesOk x.toSes) (h0 : 0 ≤ t) (h1 : t ≤ 200000) (h2 : t - x.st ≤ 200000) :
    Calls Try.prog 60 #[.agg #[.int .i64 x.f, .int .i64 x.l, .int .i64 x.s, .int .i64 x.st, .int .i64 x.ba, .int .i64 x.se, .slice x.A x.m x.c], .int .i64 t] w fun e w' => e = .returned (.int .i64 (srvI x.toSes t)) ∧ Below w.heap.size w w' := by
  have B0 := Blk.new w 39 [.int .i64 x.f, .int .i64 x.l, .int .i64 x.s, .int .i64 x.st, .int .i64 x.ba, .int .i64 x.se, .slice x.A x.m x.c]
  have z0 := ext_alloc (ext_refl w) (.cells (List.toArray [.int .i64 x.f, .int .i64 x.l, .int .i64 x.s, .int .i64 x.st, .int .i64 x.ba, .int .i64 x.se, .slice x.A x.m x.c]) 39)
  have hst := h.st
  have hba := h.ba
  have hc := curI_bd h.f h.l h.s (t := t - x.st) (by omega)
  have hcv : ∀ w, Calls Try.prog 83 #[.agg #[.int .i64 x.f, .int .i64 x.l, .int .i64 x.s], .int .i64 (t - x.st)] w fun e w' => e = .returned (.int .i64 (curI x.f x.l x.s (t - x.st))) ∧ Below w.heap.size w w' := fun w => curveAt_any x.f x.l x.s (t - x.st) w h.f h.l h.s (by omega)
  have e0 : srvI x.toSes t = x.ba + curI x.f x.l x.s (t - x.st) := rfl
  rw [e0]
  clear e0
  generalize curI x.f x.l x.s (t - x.st) = cv at *
  have hw0 := wrap_in (t - x.st) (by omega) (by omega)
  go_enter Try.func60, Try.ntmps60
  go_wp2_with fail
  refine wp_region_grow (by kernel_rfl) (by kernel_rfl) ?_
  intro S hne hkS ho
  have c0 : ∀ s : InC S, s.W.cell? ⟨w.heap.size, 0, none⟩ = some (.int .i64 x.f) := fun s => (B0.below (ho s)).cell 0
  have c1 : ∀ s : InC S, s.W.cell? ⟨w.heap.size, 1, none⟩ = some (.int .i64 x.l) := fun s => (B0.below (ho s)).cell 1
  have c2 : ∀ s : InC S, s.W.cell? ⟨w.heap.size, 2, none⟩ = some (.int .i64 x.s) := fun s => (B0.below (ho s)).cell 2
  have c3 : ∀ s : InC S, s.W.cell? ⟨w.heap.size, 3, none⟩ = some (.int .i64 x.st) := fun s => (B0.below (ho s)).cell 3
  have c4 : ∀ s : InC S, s.W.cell? ⟨w.heap.size, 4, none⟩ = some (.int .i64 x.ba) := fun s => (B0.below (ho s)).cell 4
  have c5 : ∀ s : InC S, s.W.cell? ⟨w.heap.size, 5, none⟩ = some (.int .i64 x.se) := fun s => (B0.below (ho s)).cell 5
  have c6 : ∀ s : InC S, s.W.cell? ⟨w.heap.size, 6, none⟩ = some (.slice x.A x.m x.c) := fun s => (B0.below (ho s)).cell 6
  repeat (go_big_quiet_step ((go_at_call 83; exact grow_call hkS (hcv _) (rfl))))
  refine wpQuiet_nil ?_
  rintro _ ⟨s, rfl⟩
  have hg1 := ho s
  clear c0 c1 c2 c3 c4 c5 c6 ho hkS hne
  generalize s.W = w1 at *
  clear s S
  go_wp2_with fail
  go_ret
  exact ⟨rfl, ext_trans z0 hg1⟩

set_option maxRecDepth 100000 in
set_option maxHeartbeats 2000000 in
theorem hfAt_any (x : SesV) (t : Int) (w : World) (h : SesOk x.toSes) (h0 : 0 ≤ t) (h1 : t ≤ 200000) (h2 : t - x.st ≤ 200000) :
    Calls Try.prog 59 #[.agg #[.int .i64 x.f, .int .i64 x.l, .int .i64 x.s, .int .i64 x.st, .int .i64 x.ba, .int .i64 x.se, .slice x.A x.m x.c], .int .i64 t] w fun e w' => e = .returned (.int .i64 (srvI x.toSes t)) ∧ Below w.heap.size w w' := by
  have B0 := Blk.new w 39 [.int .i64 x.f, .int .i64 x.l, .int .i64 x.s, .int .i64 x.st, .int .i64 x.ba, .int .i64 x.se, .slice x.A x.m x.c]
  have z0 := ext_alloc (ext_refl w) (.cells (List.toArray [.int .i64 x.f, .int .i64 x.l, .int .i64 x.s, .int .i64 x.st, .int .i64 x.ba, .int .i64 x.se, .slice x.A x.m x.c]) 39)
  have hst := h.st
  have hba := h.ba
  have hc := curI_bd h.f h.l h.s (t := t - x.st) (by omega)
  have hcv : ∀ w, Calls Try.prog 78 #[.agg #[.int .i64 x.f, .int .i64 x.l, .int .i64 x.s], .int .i64 (t - x.st)] w fun e w' => e = .returned (.int .i64 (curI x.f x.l x.s (t - x.st))) ∧ Below w.heap.size w w' := fun w => cuAt_any x.f x.l x.s (t - x.st) w h.f h.l h.s (by omega)
  have e0 : srvI x.toSes t = x.ba + curI x.f x.l x.s (t - x.st) := rfl
  rw [e0]
  clear e0
  generalize curI x.f x.l x.s (t - x.st) = cv at *
  have hw0 := wrap_in (t - x.st) (by omega) (by omega)
  go_enter Try.func59, Try.ntmps59
  go_wp2_with fail
  refine wp_region_grow (by kernel_rfl) (by kernel_rfl) ?_
  intro S hne hkS ho
  have c0 : ∀ s : InC S, s.W.cell? ⟨w.heap.size, 0, none⟩ = some (.int .i64 x.f) := fun s => (B0.below (ho s)).cell 0
  have c1 : ∀ s : InC S, s.W.cell? ⟨w.heap.size, 1, none⟩ = some (.int .i64 x.l) := fun s => (B0.below (ho s)).cell 1
  have c2 : ∀ s : InC S, s.W.cell? ⟨w.heap.size, 2, none⟩ = some (.int .i64 x.s) := fun s => (B0.below (ho s)).cell 2
  have c3 : ∀ s : InC S, s.W.cell? ⟨w.heap.size, 3, none⟩ = some (.int .i64 x.st) := fun s => (B0.below (ho s)).cell 3
  have c4 : ∀ s : InC S, s.W.cell? ⟨w.heap.size, 4, none⟩ = some (.int .i64 x.ba) := fun s => (B0.below (ho s)).cell 4
  have c5 : ∀ s : InC S, s.W.cell? ⟨w.heap.size, 5, none⟩ = some (.int .i64 x.se) := fun s => (B0.below (ho s)).cell 5
  have c6 : ∀ s : InC S, s.W.cell? ⟨w.heap.size, 6, none⟩ = some (.slice x.A x.m x.c) := fun s => (B0.below (ho s)).cell 6
  repeat (go_big_quiet_step ((go_at_call 78; exact grow_call hkS (hcv _) (rfl))))
  refine wpQuiet_nil ?_
  rintro _ ⟨s, rfl⟩
  have hg1 := ho s
  clear c0 c1 c2 c3 c4 c5 c6 ho hkS hne
  generalize s.W = w1 at *
  clear s S
  go_wp2_with fail
  go_ret
  exact ⟨rfl, ext_trans z0 hg1⟩

theorem elig_nil {x : Ses} {t : Int} (h : x.zs.length = 0) : eligB x t = false := by
  have : x.zs = [] := List.eq_nil_of_length_eq_zero h
  simp [eligB, this]
theorem elig_early {x : Ses} {t : Int} (h : t < x.st) : eligB x t = false := by
  have : ¬ x.st ≤ t := by omega
  simp [eligB, this]
theorem elig_at {x : Ses} {t : Int} (h : 0 < x.zs.length) (h1 : x.st ≤ t) : eligB x t = decide (x.se ≤ srvI x t) := by
  have h2 : x.zs.isEmpty = false := by cases he : x.zs with
    | nil => simp [he] at h
    | cons a b => rfl
  simp [eligB, h2, h1]

set_option maxRecDepth 100000 in
set_option maxHeartbeats 2000000 in
theorem eligibleAt_any (x : SesV) (t : Int) (w : World) (h : SesOk x.toSes) (hzl : x.zs.length = x.m) (h0 : 0 ≤ t) (h1 : t ≤ 100000) :
    Calls Try.prog 63 #[.agg #[.int .i64 x.f, .int .i64 x.l, .int .i64 x.s, .int .i64 x.st, .int .i64 x.ba, .int .i64 x.se, .slice x.A x.m x.c], .int .i64 t] w fun e w' => e = .returned (.bool (eligB x.toSes t)) ∧ Below w.heap.size w w' := by
  have B0 := Blk.new w 39 [.int .i64 x.f, .int .i64 x.l, .int .i64 x.s, .int .i64 x.st, .int .i64 x.ba, .int .i64 x.se, .slice x.A x.m x.c]
  have z0 := ext_alloc (ext_refl w) (.cells (List.toArray [.int .i64 x.f, .int .i64 x.l, .int .i64 x.s, .int .i64 x.st, .int .i64 x.ba, .int .i64 x.se, .slice x.A x.m x.c]) 39)
  have hst := h.st
  by_cases hm0 : x.m = 0
  · rw [elig_nil (by omega)]
    have g0 : decide (0 < x.m) = false := by simp; omega
    clear hm0
    go_enter Try.func63, Try.ntmps63
    go_wp2_with fail
    refine wp_region_grow (by kernel_rfl) (by kernel_rfl) ?_
    intro S hne hkS ho
    have c0 : ∀ s : InC S, s.W.cell? ⟨w.heap.size, 0, none⟩ = some (.int .i64 x.f) := fun s => (B0.below (ho s)).cell 0
    have c1 : ∀ s : InC S, s.W.cell? ⟨w.heap.size, 1, none⟩ = some (.int .i64 x.l) := fun s => (B0.below (ho s)).cell 1
    have c2 : ∀ s : InC S, s.W.cell? ⟨w.heap.size, 2, none⟩ = some (.int .i64 x.s) := fun s => (B0.below (ho s)).cell 2
    have c3 : ∀ s : InC S, s.W.cell? ⟨w.heap.size, 3, none⟩ = some (.int .i64 x.st) := fun s => (B0.below (ho s)).cell 3
    have c4 : ∀ s : InC S, s.W.cell? ⟨w.heap.size, 4, none⟩ = some (.int .i64 x.ba) := fun s => (B0.below (ho s)).cell 4
    have c5 : ∀ s : InC S, s.W.cell? ⟨w.heap.size, 5, none⟩ = some (.int .i64 x.se) := fun s => (B0.below (ho s)).cell 5
    have c6 : ∀ s : InC S, s.W.cell? ⟨w.heap.size, 6, none⟩ = some (.slice x.A x.m x.c) := fun s => (B0.below (ho s)).cell 6
    repeat (go_big_quiet_step (fail))
    refine wpQuiet_nil ?_
    rintro _ ⟨s, rfl⟩
    have hg1 := ho s
    clear c0 c1 c2 c3 c4 c5 c6 ho hkS hne
    generalize s.W = w1 at *
    clear s S
    go_wp2_with fail
    go_ret
    exact ⟨rfl, ext_trans z0 hg1⟩
  · have g0 : decide (0 < x.m) = true := by simp; omega
    by_cases hts : t < x.st
    · rw [elig_early hts]
      have g1 : decide (x.st ≤ t) = false := by simp; omega
      go_enter Try.func63, Try.ntmps63
      go_wp2_with fail
      refine wp_region_grow (by kernel_rfl) (by kernel_rfl) ?_
      intro S hne hkS ho
      have c0 : ∀ s : InC S, s.W.cell? ⟨w.heap.size, 0, none⟩ = some (.int .i64 x.f) := fun s => (B0.below (ho s)).cell 0
      have c1 : ∀ s : InC S, s.W.cell? ⟨w.heap.size, 1, none⟩ = some (.int .i64 x.l) := fun s => (B0.below (ho s)).cell 1
      have c2 : ∀ s : InC S, s.W.cell? ⟨w.heap.size, 2, none⟩ = some (.int .i64 x.s) := fun s => (B0.below (ho s)).cell 2
      have c3 : ∀ s : InC S, s.W.cell? ⟨w.heap.size, 3, none⟩ = some (.int .i64 x.st) := fun s => (B0.below (ho s)).cell 3
      have c4 : ∀ s : InC S, s.W.cell? ⟨w.heap.size, 4, none⟩ = some (.int .i64 x.ba) := fun s => (B0.below (ho s)).cell 4
      have c5 : ∀ s : InC S, s.W.cell? ⟨w.heap.size, 5, none⟩ = some (.int .i64 x.se) := fun s => (B0.below (ho s)).cell 5
      have c6 : ∀ s : InC S, s.W.cell? ⟨w.heap.size, 6, none⟩ = some (.slice x.A x.m x.c) := fun s => (B0.below (ho s)).cell 6
      repeat (go_big_quiet_step (fail))
      refine wpQuiet_nil ?_
      rintro _ ⟨s, rfl⟩
      have hg1 := ho s
      clear c0 c1 c2 c3 c4 c5 c6 ho hkS hne
      generalize s.W = w1 at *
      clear s S
      go_wp2_with fail
      go_ret
      exact ⟨rfl, ext_trans z0 hg1⟩
    · rw [elig_at (x := x.toSes) (by omega) (by omega)]
      have g1 : decide (x.st ≤ t) = true := by simp; omega
      have hcv : ∀ w, Calls Try.prog 60 #[.agg #[.int .i64 x.f, .int .i64 x.l, .int .i64 x.s, .int .i64 x.st, .int .i64 x.ba, .int .i64 x.se, .slice x.A x.m x.c], .int .i64 t] w fun e w' => e = .returned (.int .i64 (srvI x.toSes t)) ∧ Below w.heap.size w w' := fun w => serviceAt_any x t w h h0 (by omega) (by omega)
      generalize srvI x.toSes t = cv at *
      go_enter Try.func63, Try.ntmps63
      go_wp2_with fail
      refine wp_region_grow (by kernel_rfl) (by kernel_rfl) ?_
      intro S hne hkS ho
      have c0 : ∀ s : InC S, s.W.cell? ⟨w.heap.size, 0, none⟩ = some (.int .i64 x.f) := fun s => (B0.below (ho s)).cell 0
      have c1 : ∀ s : InC S, s.W.cell? ⟨w.heap.size, 1, none⟩ = some (.int .i64 x.l) := fun s => (B0.below (ho s)).cell 1
      have c2 : ∀ s : InC S, s.W.cell? ⟨w.heap.size, 2, none⟩ = some (.int .i64 x.s) := fun s => (B0.below (ho s)).cell 2
      have c3 : ∀ s : InC S, s.W.cell? ⟨w.heap.size, 3, none⟩ = some (.int .i64 x.st) := fun s => (B0.below (ho s)).cell 3
      have c4 : ∀ s : InC S, s.W.cell? ⟨w.heap.size, 4, none⟩ = some (.int .i64 x.ba) := fun s => (B0.below (ho s)).cell 4
      have c5 : ∀ s : InC S, s.W.cell? ⟨w.heap.size, 5, none⟩ = some (.int .i64 x.se) := fun s => (B0.below (ho s)).cell 5
      have c6 : ∀ s : InC S, s.W.cell? ⟨w.heap.size, 6, none⟩ = some (.slice x.A x.m x.c) := fun s => (B0.below (ho s)).cell 6
      repeat (go_big_quiet_step ((go_at_call 60; exact grow_call hkS (hcv _) (rfl))))
      refine wpQuiet_nil ?_
      rintro _ ⟨s, rfl⟩
      have hg1 := ho s
      clear c0 c1 c2 c3 c4 c5 c6 ho hkS hne
      generalize s.W = w1 at *
      clear s S
      go_wp2_with fail
      go_ret
      exact ⟨rfl, ext_trans z0 hg1⟩

set_option maxRecDepth 100000 in
set_option maxHeartbeats 2000000 in
theorem hfEligible_any (x : SesV) (t : Int) (w : World) (h : SesOk x.toSes) (hzl : x.zs.length = x.m) (h0 : 0 ≤ t) (h1 : t ≤ 100000) :
    Calls Try.prog 62 #[.agg #[.int .i64 x.f, .int .i64 x.l, .int .i64 x.s, .int .i64 x.st, .int .i64 x.ba, .int .i64 x.se, .slice x.A x.m x.c], .int .i64 t] w fun e w' => e = .returned (.bool (eligB x.toSes t)) ∧ Below w.heap.size w w' := by
  have B0 := Blk.new w 39 [.int .i64 x.f, .int .i64 x.l, .int .i64 x.s, .int .i64 x.st, .int .i64 x.ba, .int .i64 x.se, .slice x.A x.m x.c]
  have z0 := ext_alloc (ext_refl w) (.cells (List.toArray [.int .i64 x.f, .int .i64 x.l, .int .i64 x.s, .int .i64 x.st, .int .i64 x.ba, .int .i64 x.se, .slice x.A x.m x.c]) 39)
  have hst := h.st
  by_cases hm0 : x.m = 0
  · rw [elig_nil (by omega)]
    have g0 : decide (0 < x.m) = false := by simp; omega
    clear hm0
    go_enter Try.func62, Try.ntmps62
    go_wp2_with fail
    refine wp_region_grow (by kernel_rfl) (by kernel_rfl) ?_
    intro S hne hkS ho
    have c0 : ∀ s : InC S, s.W.cell? ⟨w.heap.size, 0, none⟩ = some (.int .i64 x.f) := fun s => (B0.below (ho s)).cell 0
    have c1 : ∀ s : InC S, s.W.cell? ⟨w.heap.size, 1, none⟩ = some (.int .i64 x.l) := fun s => (B0.below (ho s)).cell 1
    have c2 : ∀ s : InC S, s.W.cell? ⟨w.heap.size, 2, none⟩ = some (.int .i64 x.s) := fun s => (B0.below (ho s)).cell 2
    have c3 : ∀ s : InC S, s.W.cell? ⟨w.heap.size, 3, none⟩ = some (.int .i64 x.st) := fun s => (B0.below (ho s)).cell 3
    have c4 : ∀ s : InC S, s.W.cell? ⟨w.heap.size, 4, none⟩ = some (.int .i64 x.ba) := fun s => (B0.below (ho s)).cell 4
    have c5 : ∀ s : InC S, s.W.cell? ⟨w.heap.size, 5, none⟩ = some (.int .i64 x.se) := fun s => (B0.below (ho s)).cell 5
    have c6 : ∀ s : InC S, s.W.cell? ⟨w.heap.size, 6, none⟩ = some (.slice x.A x.m x.c) := fun s => (B0.below (ho s)).cell 6
    repeat (go_big_quiet_step (fail))
    refine wpQuiet_nil ?_
    rintro _ ⟨s, rfl⟩
    have hg1 := ho s
    clear c0 c1 c2 c3 c4 c5 c6 ho hkS hne
    generalize s.W = w1 at *
    clear s S
    go_wp2_with fail
    go_ret
    exact ⟨rfl, ext_trans z0 hg1⟩
  · have g0 : decide (0 < x.m) = true := by simp; omega
    by_cases hts : t < x.st
    · rw [elig_early hts]
      have g1 : decide (x.st ≤ t) = false := by simp; omega
      go_enter Try.func62, Try.ntmps62
      go_wp2_with fail
      refine wp_region_grow (by kernel_rfl) (by kernel_rfl) ?_
      intro S hne hkS ho
      have c0 : ∀ s : InC S, s.W.cell? ⟨w.heap.size, 0, none⟩ = some (.int .i64 x.f) := fun s => (B0.below (ho s)).cell 0
      have c1 : ∀ s : InC S, s.W.cell? ⟨w.heap.size, 1, none⟩ = some (.int .i64 x.l) := fun s => (B0.below (ho s)).cell 1
      have c2 : ∀ s : InC S, s.W.cell? ⟨w.heap.size, 2, none⟩ = some (.int .i64 x.s) := fun s => (B0.below (ho s)).cell 2
      have c3 : ∀ s : InC S, s.W.cell? ⟨w.heap.size, 3, none⟩ = some (.int .i64 x.st) := fun s => (B0.below (ho s)).cell 3
      have c4 : ∀ s : InC S, s.W.cell? ⟨w.heap.size, 4, none⟩ = some (.int .i64 x.ba) := fun s => (B0.below (ho s)).cell 4
      have c5 : ∀ s : InC S, s.W.cell? ⟨w.heap.size, 5, none⟩ = some (.int .i64 x.se) := fun s => (B0.below (ho s)).cell 5
      have c6 : ∀ s : InC S, s.W.cell? ⟨w.heap.size, 6, none⟩ = some (.slice x.A x.m x.c) := fun s => (B0.below (ho s)).cell 6
      repeat (go_big_quiet_step (fail))
      refine wpQuiet_nil ?_
      rintro _ ⟨s, rfl⟩
      have hg1 := ho s
      clear c0 c1 c2 c3 c4 c5 c6 ho hkS hne
      generalize s.W = w1 at *
      clear s S
      go_wp2_with fail
      go_ret
      exact ⟨rfl, ext_trans z0 hg1⟩
    · rw [elig_at (x := x.toSes) (by omega) (by omega)]
      have g1 : decide (x.st ≤ t) = true := by simp; omega
      have hcv : ∀ w, Calls Try.prog 59 #[.agg #[.int .i64 x.f, .int .i64 x.l, .int .i64 x.s, .int .i64 x.st, .int .i64 x.ba, .int .i64 x.se, .slice x.A x.m x.c], .int .i64 t] w fun e w' => e = .returned (.int .i64 (srvI x.toSes t)) ∧ Below w.heap.size w w' := fun w => hfAt_any x t w h h0 (by omega) (by omega)
      generalize srvI x.toSes t = cv at *
      go_enter Try.func62, Try.ntmps62
      go_wp2_with fail
      refine wp_region_grow (by kernel_rfl) (by kernel_rfl) ?_
      intro S hne hkS ho
      have c0 : ∀ s : InC S, s.W.cell? ⟨w.heap.size, 0, none⟩ = some (.int .i64 x.f) := fun s => (B0.below (ho s)).cell 0
      have c1 : ∀ s : InC S, s.W.cell? ⟨w.heap.size, 1, none⟩ = some (.int .i64 x.l) := fun s => (B0.below (ho s)).cell 1
      have c2 : ∀ s : InC S, s.W.cell? ⟨w.heap.size, 2, none⟩ = some (.int .i64 x.s) := fun s => (B0.below (ho s)).cell 2
      have c3 : ∀ s : InC S, s.W.cell? ⟨w.heap.size, 3, none⟩ = some (.int .i64 x.st) := fun s => (B0.below (ho s)).cell 3
      have c4 : ∀ s : InC S, s.W.cell? ⟨w.heap.size, 4, none⟩ = some (.int .i64 x.ba) := fun s => (B0.below (ho s)).cell 4
      have c5 : ∀ s : InC S, s.W.cell? ⟨w.heap.size, 5, none⟩ = some (.int .i64 x.se) := fun s => (B0.below (ho s)).cell 5
      have c6 : ∀ s : InC S, s.W.cell? ⟨w.heap.size, 6, none⟩ = some (.slice x.A x.m x.c) := fun s => (B0.below (ho s)).cell 6
      repeat (go_big_quiet_step ((go_at_call 59; exact grow_call hkS (hcv _) (rfl))))
      refine wpQuiet_nil ?_
      rintro _ ⟨s, rfl⟩
      have hg1 := ho s
      clear c0 c1 c2 c3 c4 c5 c6 ho hkS hne
      generalize s.W = w1 at *
      clear s S
      go_wp2_with fail
      go_ret
      exact ⟨rfl, ext_trans z0 hg1⟩

set_option maxRecDepth 100000 in
set_option maxHeartbeats 2000000 in
theorem hfLater_any (x : SesV) (t : Int) (w : World) (hm : x.m ≤ 1048576) (hr : Rd w 1 x.A x.m (x.zs.map (Value.int .i64))) :
    Calls Try.prog 58 #[.agg #[.int .i64 x.f, .int .i64 x.l, .int .i64 x.s, .int .i64 x.st, .int .i64 x.ba, .int .i64 x.se, .slice x.A x.m x.c], .int .i64 t] w fun e w' => e = .returned (.bool (svcOk x.toSes t)) ∧ Below w.heap.size w w' := by
  have B0 := Blk.new w 39 [.int .i64 x.f, .int .i64 x.l, .int .i64 x.s, .int .i64 x.st, .int .i64 x.ba, .int .i64 x.se, .slice x.A x.m x.c]
  have z0 := ext_alloc (ext_refl w) (.cells (List.toArray [.int .i64 x.f, .int .i64 x.l, .int .i64 x.s, .int .i64 x.st, .int .i64 x.ba, .int .i64 x.se, .slice x.A x.m x.c]) 39)
  unfold svcOk
  cases h1 : sesB x.toSes with
  | false =>
    go_enter Try.func58, Try.ntmps58
    go_wp2_with (first | (go_at_call 51; refine (hfGood_any x _ hm (hr.below z0)).mono ?_; rintro e w1 ⟨rfl, hb1⟩; have B1 := B0.below hb1; have z1 := ext_trans z0 hb1; obtain ⟨y1, x1, c1, f1⟩ := B1.seven) | (go_at_call 46; refine (l1In_any _ _ _ _).mono ?_; rintro e w' ⟨rfl, rfl⟩))
    go_ret
    exact ⟨ret_bool (by simp), z1⟩
  | true =>
    go_enter Try.func58, Try.ntmps58
    go_wp2_with (first | (go_at_call 51; refine (hfGood_any x _ hm (hr.below z0)).mono ?_; rintro e w1 ⟨rfl, hb1⟩; have B1 := B0.below hb1; have z1 := ext_trans z0 hb1; obtain ⟨y1, x1, c1, f1⟩ := B1.seven) | (go_at_call 46; refine (l1In_any _ _ _ _).mono ?_; rintro e w' ⟨rfl, rfl⟩))
    go_ret
    exact ⟨ret_bool (by simp), z1⟩

set_option maxRecDepth 100000 in
set_option maxHeartbeats 2000000 in
theorem specServiceAt_any (x : SesV) (t : Int) (w : World) (hm : x.m ≤ 1048576) (hr : Rd w 1 x.A x.m (x.zs.map (Value.int .i64))) :
    Calls Try.prog 23 #[.agg #[.int .i64 x.f, .int .i64 x.l, .int .i64 x.s, .int .i64 x.st, .int .i64 x.ba, .int .i64 x.se, .slice x.A x.m x.c], .int .i64 t] w fun e w' => e = .returned (.tuple #[.int .i64 (svcR x.toSes t), .bool (svcOk x.toSes t)]) ∧ Below w.heap.size w w' := by
  have B0 := Blk.new w 39 [.int .i64 x.f, .int .i64 x.l, .int .i64 x.s, .int .i64 x.st, .int .i64 x.ba, .int .i64 x.se, .slice x.A x.m x.c]
  have z0 := ext_alloc (ext_refl w) (.cells (List.toArray [.int .i64 x.f, .int .i64 x.l, .int .i64 x.s, .int .i64 x.st, .int .i64 x.ba, .int .i64 x.se, .slice x.A x.m x.c]) 39)
  unfold svcR
  cases h1 : svcOk x.toSes t with
  | false =>
    go_enter Try.func23, Try.ntmps23
    go_wp2_with (go_at_call 58; refine (hfLater_any x t _ hm (hr.below z0)).mono ?_; rintro e w1 ⟨rfl, hb1⟩; have B1 := B0.below hb1; have z1 := ext_trans z0 hb1; obtain ⟨y1, x1, c1, f1⟩ := B1.seven)
    go_ret2
    exact ⟨rfl, z1⟩
  | true =>
    have hh : SesOk x.toSes ∧ x.st ≤ t ∧ t ≤ 100000 := by simpa only [svcOk, Bool.and_eq_true, sesB_iff, inB_iff] using h1
    have hst := hh.1.st
    have HH := Lib.hid hh
    clear hh
    rw [if_pos rfl]
    go_enter Try.func23, Try.ntmps23
    go_wp2_with (first | (go_at_call 58; refine (hfLater_any x t _ hm (hr.below z0)).mono ?_; rintro e w1 ⟨rfl, hb1⟩; have B1 := B0.below hb1; have z1 := ext_trans z0 hb1; obtain ⟨y1, x1, c1, f1⟩ := B1.seven) | (go_at_call 59; refine (hfAt_any x t _ HH.out.1 (by have := HH.out; omega) (by have := HH.out; omega) (by have := HH.out; omega)).mono ?_; rintro e w2 ⟨rfl, hb2⟩; have B2 := B1.below hb2; have z2 := ext_trans z1 hb2; obtain ⟨y2, x2, c2, f2⟩ := B2.seven))
    go_ret2
    exact ⟨rfl, z2⟩

set_option maxRecDepth 100000 in
set_option maxHeartbeats 2000000 in
theorem implServiceAt_any (x : SesV) (t : Int) (w : World) (hm : x.m ≤ 1048576) (hr : Rd w 1 x.A x.m (x.zs.map (Value.int .i64))) :
    Calls Try.prog 24 #[.agg #[.int .i64 x.f, .int .i64 x.l, .int .i64 x.s, .int .i64 x.st, .int .i64 x.ba, .int .i64 x.se, .slice x.A x.m x.c], .int .i64 t] w fun e w' => e = .returned (.tuple #[.int .i64 (svcR x.toSes t), .bool (svcOk x.toSes t)]) ∧ Below w.heap.size w w' := by
  have B0 := Blk.new w 39 [.int .i64 x.f, .int .i64 x.l, .int .i64 x.s, .int .i64 x.st, .int .i64 x.ba, .int .i64 x.se, .slice x.A x.m x.c]
  have z0 := ext_alloc (ext_refl w) (.cells (List.toArray [.int .i64 x.f, .int .i64 x.l, .int .i64 x.s, .int .i64 x.st, .int .i64 x.ba, .int .i64 x.se, .slice x.A x.m x.c]) 39)
  cases h1 : sesB x.toSes with
  | false =>
    have e0 : svcOk x.toSes t = false := by simp [svcOk, h1]
    unfold svcR
    rw [e0]
    clear e0
    go_enter Try.func24, Try.ntmps24
    go_wp2_with (first | (go_at_call 21; refine (implIsSession_any x _ hm (hr.below z0)).mono ?_; rintro e w1 ⟨rfl, hb1⟩; have B1 := B0.below hb1; have z1 := ext_trans z0 hb1; obtain ⟨y1, x1, c1, f1⟩ := B1.seven) | (go_at_call 56; refine (isTime_any _ _).mono ?_; rintro e w' ⟨rfl, rfl⟩))
    go_ret2
    exact ⟨rfl, z1⟩
  | true =>
    have hok := sesB_iff.1 h1
    have hst := hok.st
    have HOK := Lib.hid hok
    clear hok
    cases h2 : inB t 0 100000 with
    | false =>
      have e0 : svcOk x.toSes t = false := by
        have := inB_not h2
        have h3 : inB t x.st 100000 = false := by rw [Bool.eq_false_iff]; intro h; have := inB_iff.1 h; omega
        simp [svcOk, h3]
      unfold svcR
      rw [e0]
      clear e0
      go_enter Try.func24, Try.ntmps24
      go_wp2_with (first | (go_at_call 21; refine (implIsSession_any x _ hm (hr.below z0)).mono ?_; rintro e w1 ⟨rfl, hb1⟩; have B1 := B0.below hb1; have z1 := ext_trans z0 hb1; obtain ⟨y1, x1, c1, f1⟩ := B1.seven) | (go_at_call 56; refine (isTime_any _ _).mono ?_; rintro e w' ⟨rfl, rfl⟩))
      go_ret2
      exact ⟨rfl, z1⟩
    | true =>
      have ht := inB_iff.1 h2
      by_cases h3 : t < x.st
      · have e0 : svcOk x.toSes t = false := by
          have h4 : inB t x.st 100000 = false := by rw [Bool.eq_false_iff]; intro h; have := inB_iff.1 h; omega
          simp [svcOk, h4]
        unfold svcR
        rw [e0]
        clear e0
        go_enter Try.func24, Try.ntmps24
        go_wp2_with (first | (go_at_call 21; refine (implIsSession_any x _ hm (hr.below z0)).mono ?_; rintro e w1 ⟨rfl, hb1⟩; have B1 := B0.below hb1; have z1 := ext_trans z0 hb1; obtain ⟨y1, x1, c1, f1⟩ := B1.seven) | (go_at_call 56; refine (isTime_any _ _).mono ?_; rintro e w' ⟨rfl, rfl⟩))
        go_ret2
        exact ⟨rfl, z1⟩
      · have e0 : svcOk x.toSes t = true := by
          have h4 : inB t x.st 100000 = true := inB_iff.2 ⟨by omega, ht.2⟩
          simp [svcOk, h4, h1]
        unfold svcR
        rw [e0, if_pos rfl]
        clear e0
        go_enter Try.func24, Try.ntmps24
        go_wp2_with (first | (go_at_call 21; refine (implIsSession_any x _ hm (hr.below z0)).mono ?_; rintro e w1 ⟨rfl, hb1⟩; have B1 := B0.below hb1; have z1 := ext_trans z0 hb1; obtain ⟨y1, x1, c1, f1⟩ := B1.seven) | (go_at_call 56; refine (isTime_any _ _).mono ?_; rintro e w' ⟨rfl, rfl⟩) | (go_at_call 60; refine (serviceAt_any x t _ HOK.out (by omega) (by omega) (by omega)).mono ?_; rintro e w2 ⟨rfl, hb2⟩; have B2 := B1.below hb2; have z2 := ext_trans z1 hb2; obtain ⟨y2, x2, c2, f2⟩ := B2.seven))
        go_ret2
        exact ⟨rfl, z2⟩

set_option maxRecDepth 100000 in
set_option maxHeartbeats 2000000 in
theorem specEligibleAt_any (x : SesV) (t : Int) (w : World) (hm : x.m ≤ 1048576) (hr : Rd w 1 x.A x.m (x.zs.map (Value.int .i64))) :
    Calls Try.prog 25 #[.agg #[.int .i64 x.f, .int .i64 x.l, .int .i64 x.s, .int .i64 x.st, .int .i64 x.ba, .int .i64 x.se, .slice x.A x.m x.c], .int .i64 t] w fun e w' => e = .returned (.tuple #[.bool (eligR x.toSes t), .bool (eligOk x.toSes t)]) ∧ Below w.heap.size w w' := by
  have B0 := Blk.new w 39 [.int .i64 x.f, .int .i64 x.l, .int .i64 x.s, .int .i64 x.st, .int .i64 x.ba, .int .i64 x.se, .slice x.A x.m x.c]
  have z0 := ext_alloc (ext_refl w) (.cells (List.toArray [.int .i64 x.f, .int .i64 x.l, .int .i64 x.s, .int .i64 x.st, .int .i64 x.ba, .int .i64 x.se, .slice x.A x.m x.c]) 39)
  unfold eligR eligOk
  cases h1 : sesB x.toSes with
  | false =>
    rw [Bool.false_and, Bool.false_and]
    go_enter Try.func25, Try.ntmps25
    go_wp2_with (first | (go_at_call 51; refine (hfGood_any x _ hm (hr.below z0)).mono ?_; rintro e w1 ⟨rfl, hb1⟩; have B1 := B0.below hb1; have z1 := ext_trans z0 hb1; obtain ⟨y1, x1, c1, f1⟩ := B1.seven) | (go_at_call 61; refine (cuTime_any _ _).mono ?_; rintro e w' ⟨rfl, rfl⟩))
    go_ret2
    exact ⟨rfl, z1⟩
  | true =>
    have HOK := Lib.hid (sesB_iff.1 h1)
    cases h2 : inB t 0 100000 with
    | false =>
      rw [Bool.true_and, Bool.false_and]
      go_enter Try.func25, Try.ntmps25
      go_wp2_with (first | (go_at_call 51; refine (hfGood_any x _ hm (hr.below z0)).mono ?_; rintro e w1 ⟨rfl, hb1⟩; have B1 := B0.below hb1; have z1 := ext_trans z0 hb1; obtain ⟨y1, x1, c1, f1⟩ := B1.seven) | (go_at_call 61; refine (cuTime_any _ _).mono ?_; rintro e w' ⟨rfl, rfl⟩))
      go_ret2
      exact ⟨rfl, z1⟩
    | true =>
      have ht := inB_iff.1 h2
      have HL := Lib.hid hr.len1
      rw [Bool.true_and, Bool.true_and]
      go_enter Try.func25, Try.ntmps25
      go_wp2_with (first | (go_at_call 51; refine (hfGood_any x _ hm (hr.below z0)).mono ?_; rintro e w1 ⟨rfl, hb1⟩; have B1 := B0.below hb1; have z1 := ext_trans z0 hb1; obtain ⟨y1, x1, c1, f1⟩ := B1.seven) | (go_at_call 61; refine (cuTime_any _ _).mono ?_; rintro e w' ⟨rfl, rfl⟩) | (go_at_call 62; refine (hfEligible_any x t _ HOK.out HL.out ht.1 ht.2).mono ?_; rintro e w2 ⟨rfl, hb2⟩; have B2 := B1.below hb2; have z2 := ext_trans z1 hb2; obtain ⟨y2, x2, c2, f2⟩ := B2.seven))
      go_ret2
      exact ⟨rfl, z2⟩

set_option maxRecDepth 100000 in
set_option maxHeartbeats 2000000 in
theorem implEligibleAt_any (x : SesV) (t : Int) (w : World) (hm : x.m ≤ 1048576) (hr : Rd w 1 x.A x.m (x.zs.map (Value.int .i64))) :
    Calls Try.prog 26 #[.agg #[.int .i64 x.f, .int .i64 x.l, .int .i64 x.s, .int .i64 x.st, .int .i64 x.ba, .int .i64 x.se, .slice x.A x.m x.c], .int .i64 t] w fun e w' => e = .returned (.tuple #[.bool (eligR x.toSes t), .bool (eligOk x.toSes t)]) ∧ Below w.heap.size w w' := by
  have B0 := Blk.new w 39 [.int .i64 x.f, .int .i64 x.l, .int .i64 x.s, .int .i64 x.st, .int .i64 x.ba, .int .i64 x.se, .slice x.A x.m x.c]
  have z0 := ext_alloc (ext_refl w) (.cells (List.toArray [.int .i64 x.f, .int .i64 x.l, .int .i64 x.s, .int .i64 x.st, .int .i64 x.ba, .int .i64 x.se, .slice x.A x.m x.c]) 39)
  unfold eligR eligOk
  cases h1 : sesB x.toSes with
  | false =>
    rw [Bool.false_and, Bool.false_and]
    go_enter Try.func26, Try.ntmps26
    go_wp2_with (first | (go_at_call 21; refine (implIsSession_any x _ hm (hr.below z0)).mono ?_; rintro e w1 ⟨rfl, hb1⟩; have B1 := B0.below hb1; have z1 := ext_trans z0 hb1; obtain ⟨y1, x1, c1, f1⟩ := B1.seven) | (go_at_call 56; refine (isTime_any _ _).mono ?_; rintro e w' ⟨rfl, rfl⟩))
    go_ret2
    exact ⟨rfl, z1⟩
  | true =>
    have HOK := Lib.hid (sesB_iff.1 h1)
    cases h2 : inB t 0 100000 with
    | false =>
      rw [Bool.true_and, Bool.false_and]
      go_enter Try.func26, Try.ntmps26
      go_wp2_with (first | (go_at_call 21; refine (implIsSession_any x _ hm (hr.below z0)).mono ?_; rintro e w1 ⟨rfl, hb1⟩; have B1 := B0.below hb1; have z1 := ext_trans z0 hb1; obtain ⟨y1, x1, c1, f1⟩ := B1.seven) | (go_at_call 56; refine (isTime_any _ _).mono ?_; rintro e w' ⟨rfl, rfl⟩))
      go_ret2
      exact ⟨rfl, z1⟩
    | true =>
      have ht := inB_iff.1 h2
      have HL := Lib.hid hr.len1
      rw [Bool.true_and, Bool.true_and]
      go_enter Try.func26, Try.ntmps26
      go_wp2_with (first | (go_at_call 21; refine (implIsSession_any x _ hm (hr.below z0)).mono ?_; rintro e w1 ⟨rfl, hb1⟩; have B1 := B0.below hb1; have z1 := ext_trans z0 hb1; obtain ⟨y1, x1, c1, f1⟩ := B1.seven) | (go_at_call 56; refine (isTime_any _ _).mono ?_; rintro e w' ⟨rfl, rfl⟩) | (go_at_call 63; refine (eligibleAt_any x t _ HOK.out HL.out ht.1 ht.2).mono ?_; rintro e w2 ⟨rfl, hb2⟩; have B2 := B1.below hb2; have z2 := ext_trans z1 hb2; obtain ⟨y2, x2, c2, f2⟩ := B2.seven))
      go_ret2
      exact ⟨rfl, z2⟩

set_option maxRecDepth 100000 in
set_option maxHeartbeats 4000000 in
theorem walkServiceAt (x : SesV) (t : Int) (w : World) (hx : SRd w x) :
    Calls Try.prog 5 #[.agg #[.int .i64 x.f, .int .i64 x.l, .int .i64 x.s, .int .i64 x.st, .int .i64 x.ba, .int .i64 x.se, .slice x.A x.m x.c], .int .i64 t] w fun e w' => e = .returned (.bool true) ∧ Below w.heap.size w w' := by
  have B0 := Blk.new w 34 [.int .i64 x.f, .int .i64 x.l, .int .i64 x.s, .int .i64 x.st, .int .i64 x.ba, .int .i64 x.se, .slice x.A x.m x.c]
  have z0 := ext_alloc (ext_refl w) (.cells (List.toArray [.int .i64 x.f, .int .i64 x.l, .int .i64 x.s, .int .i64 x.st, .int .i64 x.ba, .int .i64 x.se, .slice x.A x.m x.c]) 34)
  obtain ⟨hn, hr⟩ := hx
  by_cases hbig : 1048576 < x.m
  · go_enter Try.func5, Try.ntmps5
    go_wp2_with fail
    refine (szSession_any x _ _ hn (by omega) (by omega)).mono ?_; rintro e w1 ⟨rfl, hb1⟩
    rw [if_pos (by omega)]
    go_wp2_with fail
    go_ret
    exact ⟨rfl, ext_trans z0 hb1⟩
  have hm : x.m ≤ 1048576 := by omega
  have hs : (if (1048576 : Int) < (x.m : Int) then (-1 : Int) else 1048576 - x.m) = 1048576 - x.m := by { split <;> omega }
  have HS := Lib.hid hs
  clear hs
  go_enter Try.func5, Try.ntmps5
  go_wp2_with fail
  refine (szSession_any x _ _ hn (by omega) (by omega)).mono ?_; rintro e w1 ⟨rfl, hb1⟩
  rw [HS.out]
  have B1 := B0.below hb1
  have z1 := ext_trans z0 hb1
  clear B0 z0 hb1
  obtain ⟨y1, x1, c1, f1⟩ := B1.seven
  go_wp2_with fail
  refine (toSession_any x _ hm (hr.below z1)).mono ?_; rintro e w2 ⟨g2, rfl, ow2, hb2⟩
  have B2 := B1.below hb2
  have z2 := ext_trans z1 hb2
  clear y1 x1 c1 f1 B1 hb2 z1
  go_wp2_with fail
  refine (specServiceAt_any ⟨x.toSes, some ⟨g2, 0, none⟩, x.m, x.m⟩ t _ hm (Rd.of_own ow2)).mono ?_; rintro e w3 ⟨rfl, hb3⟩
  have B3 := B2.below hb3
  have z3 := ext_trans z2 hb3
  clear B2 hb3 z2 ow2
  obtain ⟨y3, x3, c3, f3⟩ := B3.seven
  go_wp2_with fail
  refine (toSession_any x _ hm (hr.below z3)).mono ?_; rintro e w4 ⟨g4, rfl, ow4, hb4⟩
  have X4 := Blk.new w4 39 [.int .i64 x.f, .int .i64 x.l, .int .i64 x.s, .int .i64 x.st, .int .i64 x.ba, .int .i64 x.se, .slice (some ⟨g4, 0, none⟩) x.m x.m]
  have B4 := (B3.below hb4).alloc (.cells (List.toArray [.int .i64 x.f, .int .i64 x.l, .int .i64 x.s, .int .i64 x.st, .int .i64 x.ba, .int .i64 x.se, .slice (some ⟨g4, 0, none⟩) x.m x.m]) 39)
  have z4 := ext_alloc (ext_trans z3 hb4) (.cells (List.toArray [.int .i64 x.f, .int .i64 x.l, .int .i64 x.s, .int .i64 x.st, .int .i64 x.ba, .int .i64 x.se, .slice (some ⟨g4, 0, none⟩) x.m x.m]) 39)
  have ow4a := ow4.alloc (.cells (List.toArray [.int .i64 x.f, .int .i64 x.l, .int .i64 x.s, .int .i64 x.st, .int .i64 x.ba, .int .i64 x.se, .slice (some ⟨g4, 0, none⟩) x.m x.m]) 39)
  clear y3 x3 c3 f3 B3 hb4 z3 ow4
  go_wp2_with fail
  refine (implServiceAt_any ⟨x.toSes, some ⟨g4, 0, none⟩, x.m, x.m⟩ t _ hm (Rd.of_own ow4a)).mono ?_; rintro e w5 ⟨rfl, hb5⟩
  have X5 := X4.below hb5
  have B5 := B4.below hb5
  have z5 := ext_trans z4 hb5
  have ow5 := own_ext ow4a hb5
  clear X4 B4 z4 ow4a hb5
  obtain ⟨y5, x5, c5, f5⟩ := B5.seven
  obtain ⟨y6, x6, c6, f6⟩ := X5.seven
  go_wp2_with fail
  go_region_held3 (fun w' => w'.cell? ⟨w.heap.size, 0, none⟩ = some (.int .i64 x.f) ∧ w'.cell? ⟨w.heap.size, 1, none⟩ = some (.int .i64 x.l) ∧ w'.cell? ⟨w.heap.size, 2, none⟩ = some (.int .i64 x.s) ∧ w'.cell? ⟨w.heap.size, 3, none⟩ = some (.int .i64 x.st) ∧ w'.cell? ⟨w.heap.size, 4, none⟩ = some (.int .i64 x.ba) ∧ w'.cell? ⟨w.heap.size, 5, none⟩ = some (.int .i64 x.se) ∧ w'.cell? ⟨w.heap.size, 6, none⟩ = some (.slice x.A x.m x.c) ∧ w'.cell? ⟨w4.heap.size, 0, none⟩ = some (.int .i64 x.f) ∧ w'.cell? ⟨w4.heap.size, 1, none⟩ = some (.int .i64 x.l) ∧ w'.cell? ⟨w4.heap.size, 2, none⟩ = some (.int .i64 x.s) ∧ w'.cell? ⟨w4.heap.size, 3, none⟩ = some (.int .i64 x.st) ∧ w'.cell? ⟨w4.heap.size, 4, none⟩ = some (.int .i64 x.ba) ∧ w'.cell? ⟨w4.heap.size, 5, none⟩ = some (.int .i64 x.se) ∧ w'.cell? ⟨w4.heap.size, 6, none⟩ = some (.slice (some ⟨g4, 0, none⟩) x.m x.m))
    (first | exact ⟨B7.cell 0, B7.cell 1, B7.cell 2, B7.cell 3, B7.cell 4, B7.cell 5, B7.cell 6, X7.cell 0, X7.cell 1, X7.cell 2, X7.cell 3, X7.cell 4, X7.cell 5, X7.cell 6⟩ | exact ⟨B6.cell 0, B6.cell 1, B6.cell 2, B6.cell 3, B6.cell 4, B6.cell 5, B6.cell 6, X6.cell 0, X6.cell 1, X6.cell 2, X6.cell 3, X6.cell 4, X6.cell 5, X6.cell 6⟩ | exact ⟨B5.drew.cell 0, B5.drew.cell 1, B5.drew.cell 2, B5.drew.cell 3, B5.drew.cell 4, B5.drew.cell 5, B5.drew.cell 6, X5.drew.cell 0, X5.drew.cell 1, X5.drew.cell 2, X5.drew.cell 3, X5.drew.cell 4, X5.drew.cell 5, X5.drew.cell 6⟩)
    (first | (go_at_call 20; refine (toSession_any x _ hm (hr.below z5.drew)).mono ?_; rintro e w6 ⟨g6, rfl, ow6, hb6⟩; have B6 := B5.drew.below hb6; have X6 := X5.drew.below hb6; have ow7 := own_ext ow5.drew hb6) | (go_at_call 22; refine (eqSession_same ⟨x.toSes, some ⟨g4, 0, none⟩, x.m, x.m⟩ (some ⟨g6, 0, none⟩) x.m _ hm (Rd.of_own ow7) (Rd.of_own ow6)).mono ?_; rintro e w7 ⟨rfl, hb7⟩; have B7 := B6.below hb7; have X7 := X6.below hb7))
  go_wp2_with fail
  go_ret
  exact ⟨rfl, ext_trans (ext_trans z5.drew hb6) hb7⟩

set_option maxRecDepth 100000 in
set_option maxHeartbeats 4000000 in
theorem walkEligibleAt (x : SesV) (t : Int) (w : World) (hx : SRd w x) :
    Calls Try.prog 6 #[.agg #[.int .i64 x.f, .int .i64 x.l, .int .i64 x.s, .int .i64 x.st, .int .i64 x.ba, .int .i64 x.se, .slice x.A x.m x.c], .int .i64 t] w fun e w' => e = .returned (.bool true) ∧ Below w.heap.size w w' := by
  have B0 := Blk.new w 34 [.int .i64 x.f, .int .i64 x.l, .int .i64 x.s, .int .i64 x.st, .int .i64 x.ba, .int .i64 x.se, .slice x.A x.m x.c]
  have z0 := ext_alloc (ext_refl w) (.cells (List.toArray [.int .i64 x.f, .int .i64 x.l, .int .i64 x.s, .int .i64 x.st, .int .i64 x.ba, .int .i64 x.se, .slice x.A x.m x.c]) 34)
  obtain ⟨hn, hr⟩ := hx
  by_cases hbig : 1048576 < x.m
  · go_enter Try.func6, Try.ntmps6
    go_wp2_with fail
    refine (szSession_any x _ _ hn (by omega) (by omega)).mono ?_; rintro e w1 ⟨rfl, hb1⟩
    rw [if_pos (by omega)]
    go_wp2_with fail
    go_ret
    exact ⟨rfl, ext_trans z0 hb1⟩
  have hm : x.m ≤ 1048576 := by omega
  have hs : (if (1048576 : Int) < (x.m : Int) then (-1 : Int) else 1048576 - x.m) = 1048576 - x.m := by { split <;> omega }
  have HS := Lib.hid hs
  clear hs
  go_enter Try.func6, Try.ntmps6
  go_wp2_with fail
  refine (szSession_any x _ _ hn (by omega) (by omega)).mono ?_; rintro e w1 ⟨rfl, hb1⟩
  rw [HS.out]
  have B1 := B0.below hb1
  have z1 := ext_trans z0 hb1
  clear B0 z0 hb1
  obtain ⟨y1, x1, c1, f1⟩ := B1.seven
  go_wp2_with fail
  refine (toSession_any x _ hm (hr.below z1)).mono ?_; rintro e w2 ⟨g2, rfl, ow2, hb2⟩
  have B2 := B1.below hb2
  have z2 := ext_trans z1 hb2
  clear y1 x1 c1 f1 B1 hb2 z1
  go_wp2_with fail
  refine (specEligibleAt_any ⟨x.toSes, some ⟨g2, 0, none⟩, x.m, x.m⟩ t _ hm (Rd.of_own ow2)).mono ?_; rintro e w3 ⟨rfl, hb3⟩
  have B3 := B2.below hb3
  have z3 := ext_trans z2 hb3
  clear B2 hb3 z2 ow2
  obtain ⟨y3, x3, c3, f3⟩ := B3.seven
  go_wp2_with fail
  refine (toSession_any x _ hm (hr.below z3)).mono ?_; rintro e w4 ⟨g4, rfl, ow4, hb4⟩
  have X4 := Blk.new w4 39 [.int .i64 x.f, .int .i64 x.l, .int .i64 x.s, .int .i64 x.st, .int .i64 x.ba, .int .i64 x.se, .slice (some ⟨g4, 0, none⟩) x.m x.m]
  have B4 := (B3.below hb4).alloc (.cells (List.toArray [.int .i64 x.f, .int .i64 x.l, .int .i64 x.s, .int .i64 x.st, .int .i64 x.ba, .int .i64 x.se, .slice (some ⟨g4, 0, none⟩) x.m x.m]) 39)
  have z4 := ext_alloc (ext_trans z3 hb4) (.cells (List.toArray [.int .i64 x.f, .int .i64 x.l, .int .i64 x.s, .int .i64 x.st, .int .i64 x.ba, .int .i64 x.se, .slice (some ⟨g4, 0, none⟩) x.m x.m]) 39)
  have ow4a := ow4.alloc (.cells (List.toArray [.int .i64 x.f, .int .i64 x.l, .int .i64 x.s, .int .i64 x.st, .int .i64 x.ba, .int .i64 x.se, .slice (some ⟨g4, 0, none⟩) x.m x.m]) 39)
  clear y3 x3 c3 f3 B3 hb4 z3 ow4
  go_wp2_with fail
  refine (implEligibleAt_any ⟨x.toSes, some ⟨g4, 0, none⟩, x.m, x.m⟩ t _ hm (Rd.of_own ow4a)).mono ?_; rintro e w5 ⟨rfl, hb5⟩
  have X5 := X4.below hb5
  have B5 := B4.below hb5
  have z5 := ext_trans z4 hb5
  have ow5 := own_ext ow4a hb5
  clear X4 B4 z4 ow4a hb5
  obtain ⟨y5, x5, c5, f5⟩ := B5.seven
  obtain ⟨y6, x6, c6, f6⟩ := X5.seven
  go_wp2_with fail
  go_region_held3 (fun w' => w'.cell? ⟨w.heap.size, 0, none⟩ = some (.int .i64 x.f) ∧ w'.cell? ⟨w.heap.size, 1, none⟩ = some (.int .i64 x.l) ∧ w'.cell? ⟨w.heap.size, 2, none⟩ = some (.int .i64 x.s) ∧ w'.cell? ⟨w.heap.size, 3, none⟩ = some (.int .i64 x.st) ∧ w'.cell? ⟨w.heap.size, 4, none⟩ = some (.int .i64 x.ba) ∧ w'.cell? ⟨w.heap.size, 5, none⟩ = some (.int .i64 x.se) ∧ w'.cell? ⟨w.heap.size, 6, none⟩ = some (.slice x.A x.m x.c) ∧ w'.cell? ⟨w4.heap.size, 0, none⟩ = some (.int .i64 x.f) ∧ w'.cell? ⟨w4.heap.size, 1, none⟩ = some (.int .i64 x.l) ∧ w'.cell? ⟨w4.heap.size, 2, none⟩ = some (.int .i64 x.s) ∧ w'.cell? ⟨w4.heap.size, 3, none⟩ = some (.int .i64 x.st) ∧ w'.cell? ⟨w4.heap.size, 4, none⟩ = some (.int .i64 x.ba) ∧ w'.cell? ⟨w4.heap.size, 5, none⟩ = some (.int .i64 x.se) ∧ w'.cell? ⟨w4.heap.size, 6, none⟩ = some (.slice (some ⟨g4, 0, none⟩) x.m x.m))
    (first | exact ⟨B7.cell 0, B7.cell 1, B7.cell 2, B7.cell 3, B7.cell 4, B7.cell 5, B7.cell 6, X7.cell 0, X7.cell 1, X7.cell 2, X7.cell 3, X7.cell 4, X7.cell 5, X7.cell 6⟩ | exact ⟨B6.cell 0, B6.cell 1, B6.cell 2, B6.cell 3, B6.cell 4, B6.cell 5, B6.cell 6, X6.cell 0, X6.cell 1, X6.cell 2, X6.cell 3, X6.cell 4, X6.cell 5, X6.cell 6⟩ | exact ⟨B5.drew.cell 0, B5.drew.cell 1, B5.drew.cell 2, B5.drew.cell 3, B5.drew.cell 4, B5.drew.cell 5, B5.drew.cell 6, X5.drew.cell 0, X5.drew.cell 1, X5.drew.cell 2, X5.drew.cell 3, X5.drew.cell 4, X5.drew.cell 5, X5.drew.cell 6⟩)
    (first | (go_at_call 20; refine (toSession_any x _ hm (hr.below z5.drew)).mono ?_; rintro e w6 ⟨g6, rfl, ow6, hb6⟩; have B6 := B5.drew.below hb6; have X6 := X5.drew.below hb6; have ow7 := own_ext ow5.drew hb6) | (go_at_call 22; refine (eqSession_same ⟨x.toSes, some ⟨g4, 0, none⟩, x.m, x.m⟩ (some ⟨g6, 0, none⟩) x.m _ hm (Rd.of_own ow7) (Rd.of_own ow6)).mono ?_; rintro e w7 ⟨rfl, hb7⟩; have B7 := B6.below hb7; have X7 := X6.below hb7))
  go_wp2_with fail
  go_ret
  exact ⟨rfl, ext_trans (ext_trans z5.drew hb6) hb7⟩

end Go.Proofs.Ytgljelhglgeojaa