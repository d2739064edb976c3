/- Contracts of the scalar functions over inflows and services: what each call returns; nothing that was there has changed. -/
import Derived.Test.YtmmelpgnfjjokaaHelp
namespace Go.Proofs.Ytmmelpgnfjjokaa
open Go.RowKit

def inB (n a b : Int) : Bool := decide (a ≤ n) && decide (n ≤ b)
def isInflowB (b r : Int) : Bool := inB b 0 1000000000 && inB r 0 100000
def isServiceB (r d : Int) : Bool := inB r 1 100000 && inB d 0 10000
def bothB (b r sr sd : Int) : Bool := isInflowB b r && isServiceB sr sd && decide (r ≤ sr)
def upI (a b : Int) : Int := (a + b - 1) / b

theorem inB_iff {n a b : Int} : inB n a b = true ↔ a ≤ n ∧ n ≤ b := by simp [inB]
theorem isInflowB_iff {b r : Int} : isInflowB b r = true ↔ (0 ≤ b ∧ b ≤ 1000000000) ∧ (0 ≤ r ∧ r ≤ 100000) := by simp [isInflowB, inB]
theorem isServiceB_iff {r d : Int} : isServiceB r d = true ↔ (1 ≤ r ∧ r ≤ 100000) ∧ (0 ≤ d ∧ d ≤ 10000) := by simp [isServiceB, inB]
theorem bothB_iff {b r sr sd : Int} : bothB b r sr sd = true ↔ ((0 ≤ b ∧ b ≤ 1000000000) ∧ (0 ≤ r ∧ r ≤ 100000)) ∧ ((1 ≤ sr ∧ sr ≤ 100000) ∧ (0 ≤ sd ∧ sd ≤ 10000)) ∧ r ≤ sr := by
  simp [bothB, isInflowB_iff, isServiceB_iff, and_assoc]
theorem mul_bd {a b A B : Int} (h1 : 0 ≤ a) (h2 : a ≤ A) (h3 : 0 ≤ b) (h4 : b ≤ B) : 0 ≤ a * b ∧ a * b ≤ A * B :=
  ⟨Int.mul_nonneg h1 h3, Int.mul_le_mul h2 h4 h3 (by omega)⟩

set_option maxHeartbeats 400000 in
theorem l1In_any (n a b : Int) (w : World) :
    Calls Try.prog 66 #[.int .i64 n, .int .i64 a, .int .i64 b] w fun e w' => e = .returned (.bool (inB n a b)) ∧ w = w' := by
  go_enter Try.func66, Try.ntmps66
  go_wp2
  all_goals (go_ret; simp [inB, *] <;> omega)

set_option maxHeartbeats 400000 in
theorem l1Most_any (a b : Int) (w : World) :
    Calls Try.prog 67 #[.int .i64 a, .int .i64 b] w fun e w' => e = .returned (.int .i64 (max a b)) ∧ w = w' := by
  by_cases h : b < a
  · go_enter Try.func67, Try.ntmps67
    go_wp2
    go_ret
    rw [Int.max_eq_left (by omega)]
    simp
  · go_enter Try.func67, Try.ntmps67
    go_wp2
    go_ret
    rw [Int.max_eq_right (by omega)]
    simp

set_option maxHeartbeats 400000 in
theorem l1Least_any (a b : Int) (w : World) :
    Calls Try.prog 78 #[.int .i64 a, .int .i64 b] w fun e w' => e = .returned (.int .i64 (min a b)) ∧ w = w' := by
  by_cases h : a < b
  · go_enter Try.func78, Try.ntmps78
    go_wp2
    go_ret
    rw [Int.min_eq_left (by omega)]
    simp
  · go_enter Try.func78, Try.ntmps78
    go_wp2
    go_ret
    rw [Int.min_eq_right (by omega)]
    simp

set_option maxHeartbeats 400000 in
theorem implIsInflow_any (b r : Int) (w : World) :
    Calls Try.prog 18 #[.agg #[.int .i64 b, .int .i64 r]] w fun e w' => e = .returned (.bool (isInflowB b r)) ∧ Below w.heap.size w w' := by
  go_enter Try.func18, Try.ntmps18
  go_wp2
  all_goals (go_ret; refine ⟨?_, ext_alloc (ext_refl w) _⟩; simp [isInflowB, inB, *] <;> omega)

set_option maxHeartbeats 400000 in
theorem implIsService_any (r d : Int) (w : World) :
    Calls Try.prog 21 #[.agg #[.int .i64 r, .int .i64 d]] w fun e w' => e = .returned (.bool (isServiceB r d)) ∧ Below w.heap.size w w' := by
  go_enter Try.func21, Try.ntmps21
  go_wp2
  all_goals (go_ret; refine ⟨?_, ext_alloc (ext_refl w) _⟩; simp [isServiceB, inB, *] <;> omega)

set_option maxHeartbeats 400000 in
theorem bnInflow_any (b r : Int) (w : World) :
    Calls Try.prog 59 #[.agg #[.int .i64 b, .int .i64 r]] w fun e w' => e = .returned (.bool (isInflowB b r)) ∧ Below w.heap.size w w' := by
  go_enter Try.func59, Try.ntmps59
  go_wp2_with (go_at_call 66; refine (l1In_any _ _ _ _).mono ?_; rintro e w' ⟨rfl, rfl⟩)
  all_goals (go_ret; refine ⟨?_, ext_alloc (ext_refl w) _⟩; simp [isInflowB, *])

set_option maxHeartbeats 400000 in
theorem bnService_any (r d : Int) (w : World) :
    Calls Try.prog 60 #[.agg #[.int .i64 r, .int .i64 d]] w fun e w' => e = .returned (.bool (isServiceB r d)) ∧ Below w.heap.size w w' := by
  go_enter Try.func60, Try.ntmps60
  go_wp2_with (go_at_call 66; refine (l1In_any _ _ _ _).mono ?_; rintro e w' ⟨rfl, rfl⟩)
  all_goals (go_ret; refine ⟨?_, ext_alloc (ext_refl w) _⟩; simp [isServiceB, *])

set_option maxHeartbeats 400000 in
theorem specIsInflow_any (b r : Int) (w : World) :
    Calls Try.prog 16 #[.agg #[.int .i64 b, .int .i64 r]] w fun e w' => e = .returned (.bool (isInflowB b r)) ∧ Below w.heap.size w w' := by
  go_enter Try.func16, Try.ntmps16
  go_wp2_with (go_at_call 59; refine (bnInflow_any _ _ _).mono ?_; rintro e w' ⟨rfl, hb1⟩)
  go_ret
  exact ⟨rfl, ext_trans (ext_alloc (ext_refl w) _) hb1⟩

set_option maxHeartbeats 400000 in
theorem specIsService_any (r d : Int) (w : World) :
    Calls Try.prog 19 #[.agg #[.int .i64 r, .int .i64 d]] w fun e w' => e = .returned (.bool (isServiceB r d)) ∧ Below w.heap.size w w' := by
  go_enter Try.func19, Try.ntmps19
  go_wp2_with (go_at_call 60; refine (bnService_any _ _ _).mono ?_; rintro e w' ⟨rfl, hb1⟩)
  go_ret
  exact ⟨rfl, ext_trans (ext_alloc (ext_refl w) _) hb1⟩

set_option maxHeartbeats 1000000 in
theorem bnBoth_any (b r sr sd : Int) (w : World) :
    Calls Try.prog 61 #[.agg #[.int .i64 b, .int .i64 r], .agg #[.int .i64 sr, .int .i64 sd]] w fun e w' => e = .returned (.bool (bothB b r sr sd)) ∧ Below w.heap.size w w' := by
  have z0 : Below w.heap.size w ((w.alloc (.cells #[.int .i64 b, .int .i64 r] 25)).alloc (.cells #[.int .i64 sr, .int .i64 sd] 31)) := ext_alloc (ext_alloc (ext_refl w) _) _
  go_enter Try.func61, Try.ntmps61
  go_wp2_with (first
    | (go_at_call 59; refine (bnInflow_any _ _ _).mono ?_; rintro e w1 ⟨rfl, hb1⟩; obtain ⟨hc1, hf1⟩ := bcell hb1; have s1 : w.heap.size < w1.heap.size ∧ w.heap.size + 1 < w1.heap.size := by have := hb1.size; simp at this; omega)
    | (go_at_call 60; refine (bnService_any _ _ _).mono ?_; rintro e w2 ⟨rfl, hb2⟩; obtain ⟨hc2, hf2⟩ := bcell hb2))
  all_goals (go_ret; refine ⟨?_, ?_⟩)
  all_goals first
    | exact ext_trans (ext_trans z0 hb1) hb2
    | exact ext_trans z0 hb1
    | (simp [bothB, *] <;> omega)

set_option maxHeartbeats 1000000 in
theorem bearable_any (b r sr sd : Int) (w : World) :
    Calls Try.prog 63 #[.agg #[.int .i64 b, .int .i64 r], .agg #[.int .i64 sr, .int .i64 sd]] w fun e w' => e = .returned (.bool (bothB b r sr sd)) ∧ Below w.heap.size w w' := by
  have z0 : Below w.heap.size w ((w.alloc (.cells #[.int .i64 b, .int .i64 r] 25)).alloc (.cells #[.int .i64 sr, .int .i64 sd] 31)) := ext_alloc (ext_alloc (ext_refl w) _) _
  go_enter Try.func63, Try.ntmps63
  go_wp2_with (first
    | (go_at_call 18; refine (implIsInflow_any _ _ _).mono ?_; rintro e w1 ⟨rfl, hb1⟩; obtain ⟨hc1, hf1⟩ := bcell hb1; have s1 : w.heap.size < w1.heap.size ∧ w.heap.size + 1 < w1.heap.size := by have := hb1.size; simp at this; omega)
    | (go_at_call 21; refine (implIsService_any _ _ _).mono ?_; rintro e w2 ⟨rfl, hb2⟩; obtain ⟨hc2, hf2⟩ := bcell hb2))
  all_goals (go_ret; refine ⟨?_, ?_⟩)
  all_goals first
    | exact ext_trans (ext_trans z0 hb1) hb2
    | exact ext_trans z0 hb1
    | (simp [bothB, *] <;> omega)
end Go.Proofs.Ytmmelpgnfjjokaa
