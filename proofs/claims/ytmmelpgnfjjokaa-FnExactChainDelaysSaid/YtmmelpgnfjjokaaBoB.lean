/- Contracts of BacklogBound, DelayBound, GreedyBacklog, LeftoverService and OutputInflow, the program's and the reference's: both return the same. -/
import Derived.Test.YtmmelpgnfjjokaaBoA
import Derived.Deep.RegionHeld3
namespace Go.Proofs.Ytmmelpgnfjjokaa
open Go.RowKit

def backlogI (b r sr sd : Int) : Int := if bothB b r sr sd then b + r * sd else 0
def delayI (b r sr sd : Int) : Int := if bothB b r sr sd then sd + upI b sr else 0
def greedyB (b r sr sd t : Int) : Bool := bothB b r sr sd && inB t 0 100000
def greedyI (b r sr sd t : Int) : Int := if greedyB b r sr sd t then max 0 (b + r * t - sr * max 0 (t - sd)) else 0
def outB (b r sr sd : Int) : Bool := bothB b r sr sd && isInflowB (b + r * sd) r
def outBu (b r sr sd : Int) : Int := if outB b r sr sd then b + r * sd else 0
def outRa (b r sr sd : Int) : Int := if outB b r sr sd then r else 0
def leftB (sr sd b r : Int) : Bool := bothB b r sr sd && !(r == sr) && isServiceB (sr - r) (upI (b + sr * sd) (sr - r))
def leftR (sr sd b r : Int) : Int := if leftB sr sd b r then sr - r else 0
def leftD (sr sd b r : Int) : Int := if leftB sr sd b r then upI (b + sr * sd) (sr - r) else 0

theorem upI_bd {a b : Int} (h0 : 0 ≤ a) (h1 : 1 ≤ b) : 0 ≤ upI a b ∧ upI a b ≤ a := by
  unfold upI
  constructor
  · exact Int.ediv_nonneg (by omega) (by omega)
  · have : (a + b - 1) / b < a + 1 := Int.ediv_lt_of_lt_mul (by omega) (by
      have := Int.mul_le_mul_of_nonneg_left h1 h0
      rw [Int.add_mul]; omega)
    omega

set_option maxHeartbeats 400000 in
theorem divideUp_any (a b : Int) (w : World) (h0 : 0 ≤ a) (h1 : a ≤ 1000000000000000) (h2 : 1 ≤ b) (h3 : b ≤ 1000000000) :
    Calls Try.prog 65 #[.int .i64 a, .int .i64 b] w fun e w' => e = .returned (.int .i64 (upI a b)) ∧ w = w' := by
  have hd := upI_bd h0 h2
  unfold upI at hd ⊢
  go_enter Try.func65, Try.ntmps65
  go_wp2
  go_ret
  exact ⟨rfl, rfl⟩

set_option maxHeartbeats 400000 in
theorem bnUp_any (a b : Int) (w : World) (h0 : 0 ≤ a) (h1 : a ≤ 1000000000000000) (h2 : 1 ≤ b) (h3 : b ≤ 1000000000) :
    Calls Try.prog 68 #[.int .i64 a, .int .i64 b] w fun e w' => e = .returned (.int .i64 (upI a b)) ∧ w = w' := by
  have hd := upI_bd h0 h2
  unfold upI at hd ⊢
  go_enter Try.func68, Try.ntmps68
  go_wp2
  go_ret
  exact ⟨rfl, rfl⟩

set_option maxHeartbeats 400000 in
theorem bnBacklog_any (b r sr sd : Int) (w : World) (h0 : 0 ≤ b) (h1 : b ≤ 1000000000) (h2 : 0 ≤ r * sd) (h3 : r * sd ≤ 1000000000) :
    Calls Try.prog 62 #[.agg #[.int .i64 b, .int .i64 r], .agg #[.int .i64 sr, .int .i64 sd]] w fun e w' => e = .returned (.int .i64 (b + r * sd)) ∧ Below w.heap.size w w' := by
  go_enter Try.func62, Try.ntmps62
  go_wp2
  go_ret
  exact ⟨rfl, ext_alloc (ext_alloc (ext_refl w) _) _⟩

set_option maxHeartbeats 400000 in
theorem bnDelay_any (b r sr sd : Int) (w : World) (h0 : 0 ≤ b) (h1 : b ≤ 1000000000000) (h2 : 1 ≤ sr) (h3 : sr ≤ 100000) (h4 : 0 ≤ sd) (h5 : sd ≤ 1000000) :
    Calls Try.prog 64 #[.agg #[.int .i64 b, .int .i64 r], .agg #[.int .i64 sr, .int .i64 sd]] w fun e w' => e = .returned (.int .i64 (sd + upI b sr)) ∧ Below w.heap.size w w' := by
  obtain ⟨u0, u1⟩ := upI_bd h0 h2
  have hd : 0 ≤ upI b sr ∧ upI b sr ≤ 1000000000000 := ⟨u0, by omega⟩
  clear u0 u1
  go_enter Try.func64, Try.ntmps64
  go_wp2_with fail
  go_region_held3 (fun w' => w'.cell? ⟨w.heap.size, 0, none⟩ = some (.int .i64 b) ∧ w'.cell? ⟨w.heap.size, 1, none⟩ = some (.int .i64 r) ∧ w'.cell? ⟨w.heap.size + 1, 0, none⟩ = some (.int .i64 sr) ∧ w'.cell? ⟨w.heap.size + 1, 1, none⟩ = some (.int .i64 sd) ∧ St22 w w.heap.size (w.heap.size + 1) 25 31 (.int .i64 b) (.int .i64 r) (.int .i64 sr) (.int .i64 sd) w')
    (first | exact st22_all (st22_drew (st22_new _ _ _ _ _ _ _)) | assumption)
    (first | (go_at_call 68; refine (bnUp_any _ _ _ (by omega) (by omega) (by omega) (by omega)).mono ?_; rintro e w1 ⟨rfl, rfl⟩))
  rename_i hS2
  go_wp2_with fail
  go_ret
  exact ⟨ret_wrap rfl (by omega) (by omega), hS2.2.2.2.2.2.2⟩

set_option maxHeartbeats 400000 in
theorem specBacklogBound_any (b r sr sd : Int) (w : World) :
    Calls Try.prog 22 #[.agg #[.int .i64 b, .int .i64 r], .agg #[.int .i64 sr, .int .i64 sd]] w fun e w' => e = .returned (.tuple #[.int .i64 (backlogI b r sr sd), .bool (bothB b r sr sd)]) ∧ Below w.heap.size w w' := by
  unfold backlogI
  cases h : bothB b r sr sd with
  | false =>
    go_enter Try.func22, Try.ntmps22
    go_wp2_with (go_at_call 61; refine (bnBoth_any _ _ _ _ _).mono ?_; rintro e w1 ⟨rfl, hb1⟩)
    go_ret2
    exact ⟨rfl, ext_trans (ext_alloc (ext_alloc (ext_refl w) _) _) hb1⟩
  | true =>
    have hh := bothB_iff.1 h
    obtain ⟨m1, m2⟩ := mul_bd hh.1.2.1 hh.1.2.2 hh.2.1.2.1 hh.2.1.2.2
    simp only [Int.reduceMul] at m2
    go_enter Try.func22, Try.ntmps22
    go_wp2_with (first | (go_at_call 61; refine (bnBoth_any _ _ _ _ _).mono ?_; rintro e w1 ⟨rfl, hb1⟩; obtain ⟨hc1, hf1⟩ := bcell hb1; have s1 : w.heap.size < w1.heap.size ∧ w.heap.size + 1 < w1.heap.size := by have := hb1.size; simp at this; omega) | (go_at_call 62; refine (bnBacklog_any _ _ _ _ _ (by omega) (by omega) (by omega) (by omega)).mono ?_; rintro e w2 ⟨rfl, hb2⟩))
    go_ret2
    exact ⟨rfl, ext_trans (ext_trans (ext_alloc (ext_alloc (ext_refl w) _) _) hb1) hb2⟩

set_option maxHeartbeats 400000 in
theorem implBacklogBound_any (b r sr sd : Int) (w : World) :
    Calls Try.prog 23 #[.agg #[.int .i64 b, .int .i64 r], .agg #[.int .i64 sr, .int .i64 sd]] w fun e w' => e = .returned (.tuple #[.int .i64 (backlogI b r sr sd), .bool (bothB b r sr sd)]) ∧ Below w.heap.size w w' := by
  unfold backlogI
  cases h : bothB b r sr sd with
  | false =>
    go_enter Try.func23, Try.ntmps23
    go_wp2_with (go_at_call 63; refine (bearable_any _ _ _ _ _).mono ?_; rintro e w1 ⟨rfl, hb1⟩)
    go_ret2
    exact ⟨rfl, ext_trans (ext_alloc (ext_alloc (ext_refl w) _) _) hb1⟩
  | true =>
    have hh := bothB_iff.1 h
    obtain ⟨m1, m2⟩ := mul_bd hh.1.2.1 hh.1.2.2 hh.2.1.2.1 hh.2.1.2.2
    simp only [Int.reduceMul] at m2
    go_enter Try.func23, Try.ntmps23
    go_wp2_with (first | (go_at_call 63; refine (bearable_any _ _ _ _ _).mono ?_; rintro e w1 ⟨rfl, hb1⟩; obtain ⟨hc1, hf1⟩ := bcell hb1; have s1 : w.heap.size < w1.heap.size ∧ w.heap.size + 1 < w1.heap.size := by have := hb1.size; simp at this; omega))
    go_ret2
    exact ⟨rfl, ext_trans (ext_alloc (ext_alloc (ext_refl w) _) _) hb1⟩

set_option maxHeartbeats 400000 in
theorem specDelayBound_any (b r sr sd : Int) (w : World) :
    Calls Try.prog 24 #[.agg #[.int .i64 b, .int .i64 r], .agg #[.int .i64 sr, .int .i64 sd]] w fun e w' => e = .returned (.tuple #[.int .i64 (delayI b r sr sd), .bool (bothB b r sr sd)]) ∧ Below w.heap.size w w' := by
  unfold delayI
  cases h : bothB b r sr sd with
  | false =>
    go_enter Try.func24, Try.ntmps24
    go_wp2_with (go_at_call 61; refine (bnBoth_any _ _ _ _ _).mono ?_; rintro e w1 ⟨rfl, hb1⟩)
    go_ret2
    exact ⟨rfl, ext_trans (ext_alloc (ext_alloc (ext_refl w) _) _) hb1⟩
  | true =>
    have hh := bothB_iff.1 h
    go_enter Try.func24, Try.ntmps24
    go_wp2_with (first | (go_at_call 61; refine (bnBoth_any _ _ _ _ _).mono ?_; rintro e w1 ⟨rfl, hb1⟩; obtain ⟨hc1, hf1⟩ := bcell hb1; have s1 : w.heap.size < w1.heap.size ∧ w.heap.size + 1 < w1.heap.size := by have := hb1.size; simp at this; omega) | (go_at_call 64; refine (bnDelay_any _ _ _ _ _ (by omega) (by omega) (by omega) (by omega) (by omega) (by omega)).mono ?_; rintro e w2 ⟨rfl, hb2⟩))
    go_ret2
    exact ⟨rfl, ext_trans (ext_trans (ext_alloc (ext_alloc (ext_refl w) _) _) hb1) hb2⟩

set_option maxHeartbeats 400000 in
theorem implDelayBound_any (b r sr sd : Int) (w : World) :
    Calls Try.prog 25 #[.agg #[.int .i64 b, .int .i64 r], .agg #[.int .i64 sr, .int .i64 sd]] w fun e w' => e = .returned (.tuple #[.int .i64 (delayI b r sr sd), .bool (bothB b r sr sd)]) ∧ Below w.heap.size w w' := by
  unfold delayI
  cases h : bothB b r sr sd with
  | false =>
    go_enter Try.func25, Try.ntmps25
    go_wp2_with (go_at_call 63; refine (bearable_any _ _ _ _ _).mono ?_; rintro e w1 ⟨rfl, hb1⟩)
    go_ret2
    exact ⟨rfl, ext_trans (ext_alloc (ext_alloc (ext_refl w) _) _) hb1⟩
  | true =>
    have hh := bothB_iff.1 h
    obtain ⟨u0, u1⟩ := upI_bd hh.1.1.1 hh.2.1.1.1
    have hd : 0 ≤ upI b sr ∧ upI b sr ≤ 1000000000000 := ⟨u0, by omega⟩
    clear u0 u1
    have S0 := st22_new w 25 31 (.int .i64 b) (.int .i64 r) (.int .i64 sr) (.int .i64 sd)
    go_enter Try.func25, Try.ntmps25
    go_wp2_with (first | (go_at_call 63; refine (bearable_any _ _ _ _ _).mono ?_; rintro e w1 ⟨rfl, hb1⟩))
    have S1 := st22_step (st22_all S0) hb1
    clear S0 hb1
    go_region_held3 (fun w' => w'.cell? ⟨w.heap.size, 0, none⟩ = some (.int .i64 b) ∧ w'.cell? ⟨w.heap.size, 1, none⟩ = some (.int .i64 r) ∧ w'.cell? ⟨w.heap.size + 1, 0, none⟩ = some (.int .i64 sr) ∧ w'.cell? ⟨w.heap.size + 1, 1, none⟩ = some (.int .i64 sd) ∧ St22 w w.heap.size (w.heap.size + 1) 25 31 (.int .i64 b) (.int .i64 r) (.int .i64 sr) (.int .i64 sd) w')
      (first | exact st22_all (st22_drew S1) | assumption)
      (first | (go_at_call 65; refine (divideUp_any _ _ _ (by omega) (by omega) (by omega) (by omega)).mono ?_; rintro e w1 ⟨rfl, rfl⟩))
    rename_i hS2
    go_wp2_with fail
    go_ret2
    exact ⟨by show Ending.returned (.tuple #[.int .i64 (IntKind.i64.wrap (sd + upI b sr)), .bool true]) = _; rw [wrap_in _ (by omega) (by omega)], hS2.2.2.2.2.2.2⟩

/-! ### GreedyBacklog -/
theorem greedy_bd {b r sr sd t : Int} (h : greedyB b r sr sd t = true) : (0 ≤ r * t ∧ r * t ≤ 10000000000) ∧ (0 ≤ sr * max 0 (t - sd) ∧ sr * max 0 (t - sd) ≤ 10000000000) ∧ (0 ≤ max 0 (t - sd)) ∧ max 0 (t - sd) ≤ 100000 := by
  simp only [greedyB, Bool.and_eq_true, bothB_iff, inB_iff] at h
  obtain ⟨⟨⟨⟨b0, b1⟩, r0, r1⟩, ⟨⟨s0, s1⟩, d0, d1⟩, _⟩, t0, t1⟩ := h
  have m0 : 0 ≤ max 0 (t - sd) := by omega
  have m1 : max 0 (t - sd) ≤ 100000 := by omega
  have e1 := mul_bd r0 r1 t0 t1
  have e2 := mul_bd (by omega : 0 ≤ sr) s1 m0 m1
  exact ⟨e1, e2, m0, m1⟩

set_option maxHeartbeats 1000000 in
theorem specGreedyBacklog_any (b r sr sd t : Int) (w : World) :
    Calls Try.prog 26 #[.agg #[.int .i64 b, .int .i64 r], .agg #[.int .i64 sr, .int .i64 sd], .int .i64 t] w fun e w' => e = .returned (.tuple #[.int .i64 (greedyI b r sr sd t), .bool (greedyB b r sr sd t)]) ∧ Below w.heap.size w w' := by
  have S0 := st22_new w 25 31 (.int .i64 b) (.int .i64 r) (.int .i64 sr) (.int .i64 sd)
  cases h1 : bothB b r sr sd with
  | false =>
    simp only [greedyI, greedyB, h1, Bool.false_and]
    go_enter Try.func26, Try.ntmps26
    go_wp2_with (go_at_call 61; refine (bnBoth_any _ _ _ _ _).mono ?_; rintro e w1 ⟨rfl, hb1⟩)
    go_ret2
    exact ⟨rfl, ext_trans (ext_alloc (ext_alloc (ext_refl w) _) _) hb1⟩
  | true =>
    cases h2 : inB t 0 100000 with
    | false =>
      simp only [greedyI, greedyB, h1, h2, Bool.and_false]
      go_enter Try.func26, Try.ntmps26
      go_wp2_with (first | (go_at_call 61; refine (bnBoth_any _ _ _ _ _).mono ?_; rintro e w1 ⟨rfl, hb1⟩) | (go_at_call 66; refine (l1In_any _ _ _ _).mono ?_; rintro e w2 ⟨rfl, rfl⟩))
      go_ret2
      exact ⟨rfl, ext_trans (ext_alloc (ext_alloc (ext_refl w) _) _) hb1⟩
    | true =>
      have hg : greedyB b r sr sd t = true := by simp [greedyB, h1, h2]
      have hI : greedyI b r sr sd t = max 0 (b + r * t - sr * max 0 (t - sd)) := by simp [greedyI, hg]
      obtain ⟨⟨e0, e1⟩, ⟨e2, e3⟩, e4, e5⟩ := greedy_bd hg
      rw [hI, hg]
      have hh := bothB_iff.1 h1
      obtain ⟨ht0, ht1⟩ := inB_iff.1 h2
      have ht2 : ¬ t < 0 := by omega
      have ht3 : ¬ 100000 < t := by omega
      clear hI hg
      go_enter Try.func26, Try.ntmps26
      go_wp2_with (first | (go_at_call 61; refine (bnBoth_any _ _ _ _ _).mono ?_; rintro e w1 ⟨rfl, hb1⟩; have S1 := st22_step (st22_all S0) hb1; obtain ⟨k0, k1, k2, k3, _⟩ := st22_all S1) | (go_at_call 66; refine (l1In_any _ _ _ _).mono ?_; rintro e w2 ⟨rfl, rfl⟩))
      go_quiet ((go_at_call 67; exact quiet_left (l1Most_any _ _ _)))
      go_wp2_with fail
      go_ret2
      exact ⟨rfl, ext_drewN S1.2.2 _⟩

set_option maxHeartbeats 1000000 in
theorem implGreedyBacklog_any (b r sr sd t : Int) (w : World) :
    Calls Try.prog 27 #[.agg #[.int .i64 b, .int .i64 r], .agg #[.int .i64 sr, .int .i64 sd], .int .i64 t] w fun e w' => e = .returned (.tuple #[.int .i64 (greedyI b r sr sd t), .bool (greedyB b r sr sd t)]) ∧ Below w.heap.size w w' := by
  have S0 := st22_new w 25 31 (.int .i64 b) (.int .i64 r) (.int .i64 sr) (.int .i64 sd)
  cases h1 : bothB b r sr sd with
  | false =>
    simp only [greedyI, greedyB, h1, Bool.false_and]
    go_enter Try.func27, Try.ntmps27
    go_wp2_with (go_at_call 63; refine (bearable_any _ _ _ _ _).mono ?_; rintro e w1 ⟨rfl, hb1⟩)
    go_ret2
    exact ⟨rfl, ext_trans (ext_alloc (ext_alloc (ext_refl w) _) _) hb1⟩
  | true =>
    cases h2 : inB t 0 100000 with
    | false =>
      simp only [greedyI, greedyB, h1, h2, Bool.and_false]
      have h3 : t < 0 ∨ 100000 < t := by
        rcases Int.lt_or_le t 0 with h | h
        · exact .inl h
        · refine .inr ?_
          rcases Int.lt_or_le 100000 t with h' | h'
          · exact h'
          · rw [inB_iff.2 ⟨h, h'⟩] at h2; cases h2
      rcases h3 with h3 | h3
      · go_enter Try.func27, Try.ntmps27
        go_wp2_with (first | (go_at_call 63; refine (bearable_any _ _ _ _ _).mono ?_; rintro e w1 ⟨rfl, hb1⟩))
        go_ret2
        exact ⟨rfl, ext_trans (ext_alloc (ext_alloc (ext_refl w) _) _) hb1⟩
      · have h4 : ¬ t < 0 := by omega
        go_enter Try.func27, Try.ntmps27
        go_wp2_with (first | (go_at_call 63; refine (bearable_any _ _ _ _ _).mono ?_; rintro e w1 ⟨rfl, hb1⟩))
        go_ret2
        exact ⟨rfl, ext_trans (ext_alloc (ext_alloc (ext_refl w) _) _) hb1⟩
    | true =>
      have hg : greedyB b r sr sd t = true := by simp [greedyB, h1, h2]
      have hI : greedyI b r sr sd t = max 0 (b + r * t - sr * max 0 (t - sd)) := by simp [greedyI, hg]
      obtain ⟨⟨e0, e1⟩, ⟨e2, e3⟩, e4, e5⟩ := greedy_bd hg
      rw [hI, hg]
      have hh := bothB_iff.1 h1
      obtain ⟨ht0, ht1⟩ := inB_iff.1 h2
      have ht2 : ¬ t < 0 := by omega
      have ht3 : ¬ 100000 < t := by omega
      clear hI hg
      by_cases h5 : sd < t
      · have q : max 0 (t - sd) = t - sd := by omega
        rw [q] at e2 e3 ⊢
        clear q e4 e5
        by_cases h6 : 0 < b + r * t - sr * (t - sd)
        · have q2 : max 0 (b + r * t - sr * (t - sd)) = b + r * t - sr * (t - sd) := by omega
          rw [q2]
          clear q2
          go_enter Try.func27, Try.ntmps27
          go_wp2_with (first | (go_at_call 63; refine (bearable_any _ _ _ _ _).mono ?_; rintro e w1 ⟨rfl, hb1⟩; have S1 := st22_step (st22_all S0) hb1; obtain ⟨k0, k1, k2, k3, _⟩ := st22_all S1))
          go_ret2
          exact ⟨rfl, S1.2.2⟩
        · have q2 : max 0 (b + r * t - sr * (t - sd)) = 0 := by omega
          rw [q2]
          have h7 : b + r * t - sr * (t - sd) ≤ 0 := by omega
          clear q2 h6
          go_enter Try.func27, Try.ntmps27
          go_wp2_with (first | (go_at_call 63; refine (bearable_any _ _ _ _ _).mono ?_; rintro e w1 ⟨rfl, hb1⟩; have S1 := st22_step (st22_all S0) hb1; obtain ⟨k0, k1, k2, k3, _⟩ := st22_all S1))
          all_goals first
            | exact (show False by omega).elim
            | (go_ret2; exact ⟨rfl, S1.2.2⟩)
      · have q : max 0 (t - sd) = 0 := by omega
        rw [q, Int.mul_zero, Int.sub_zero]
        clear q e2 e3 e4 e5
        by_cases h6 : 0 < b + r * t
        · have q2 : max 0 (b + r * t) = b + r * t := by omega
          rw [q2]
          clear q2
          go_enter Try.func27, Try.ntmps27
          go_wp2_with (first | (go_at_call 63; refine (bearable_any _ _ _ _ _).mono ?_; rintro e w1 ⟨rfl, hb1⟩; have S1 := st22_step (st22_all S0) hb1; obtain ⟨k0, k1, k2, k3, _⟩ := st22_all S1))
          go_ret2
          exact ⟨rfl, S1.2.2⟩
        · have q2 : max 0 (b + r * t) = 0 := by omega
          rw [q2]
          clear q2
          go_enter Try.func27, Try.ntmps27
          go_wp2_with (first | (go_at_call 63; refine (bearable_any _ _ _ _ _).mono ?_; rintro e w1 ⟨rfl, hb1⟩; have S1 := st22_step (st22_all S0) hb1; obtain ⟨k0, k1, k2, k3, _⟩ := st22_all S1))
          all_goals first
            | exact (show False by omega).elim
            | (go_ret2; exact ⟨rfl, S1.2.2⟩)
            | (go_ret2; refine ⟨?_, S1.2.2⟩; simp; omega)
end Go.Proofs.Ytmmelpgnfjjokaa
