/- The walks of the laws over inflows and services by value. -/
import Derived.Test.YtmmelpgnfjjokaaBoB
namespace Go.Proofs.Ytmmelpgnfjjokaa
open Go.RowKit

set_option maxHeartbeats 1000000 in
theorem walkIsInflow (b r : Int) (w : World) :
    Calls Try.prog 3 #[.agg #[.int .i64 b, .int .i64 r]] w fun e w' => e = .returned (.bool true) ∧ Below w.heap.size w w' := by
  have b0 := Blk.new w 23 [.int .i64 b, .int .i64 r]
  go_enter Try.func3, Try.ntmps3
  go_wp2_with fail
  refine (toInflow_any _ _ _).mono ?_; rintro e w1 ⟨rfl, hb1⟩
  have b1 := b0.below hb1
  go_wp2_with fail
  refine (specIsInflow_any _ _ _).mono ?_; rintro e w2 ⟨rfl, hb2⟩
  have b2 := b1.below hb2
  obtain ⟨z2, y2, c2, f2⟩ := b2.two
  go_wp2_with fail
  refine (toInflow_any _ _ _).mono ?_; rintro e w3 ⟨rfl, hb3⟩
  go_wp2_with fail
  refine (implIsInflow_any _ _ _).mono ?_; rintro e w4 ⟨rfl, hb4⟩
  go_wp2_with fail
  go_ret
  exact ⟨rfl, ext_trans (ext_trans (ext_trans (ext_trans (ext_alloc (ext_refl w) _) hb1) hb2) hb3) hb4⟩

set_option maxHeartbeats 1000000 in
theorem walkIsService (b r : Int) (w : World) :
    Calls Try.prog 4 #[.agg #[.int .i64 b, .int .i64 r]] w fun e w' => e = .returned (.bool true) ∧ Below w.heap.size w w' := by
  have b0 := Blk.new w 29 [.int .i64 b, .int .i64 r]
  go_enter Try.func4, Try.ntmps4
  go_wp2_with fail
  refine (toService_any _ _ _).mono ?_; rintro e w1 ⟨rfl, hb1⟩
  have b1 := b0.below hb1
  go_wp2_with fail
  refine (specIsService_any _ _ _).mono ?_; rintro e w2 ⟨rfl, hb2⟩
  have b2 := b1.below hb2
  obtain ⟨z2, y2, c2, f2⟩ := b2.two
  go_wp2_with fail
  refine (toService_any _ _ _).mono ?_; rintro e w3 ⟨rfl, hb3⟩
  go_wp2_with fail
  refine (implIsService_any _ _ _).mono ?_; rintro e w4 ⟨rfl, hb4⟩
  go_wp2_with fail
  go_ret
  exact ⟨rfl, ext_trans (ext_trans (ext_trans (ext_trans (ext_alloc (ext_refl w) _) hb1) hb2) hb3) hb4⟩

set_option maxHeartbeats 1000000 in
theorem walkBacklogBound (a0 a1 b0 b1 : Int) (w : World) :
    Calls Try.prog 5 #[.agg #[.int .i64 a0, .int .i64 a1], .agg #[.int .i64 b0, .int .i64 b1]] w fun e w' => e = .returned (.bool true) ∧ Below w.heap.size w w' := by
  have S0 := st22_new w 23 29 (.int .i64 a0) (.int .i64 a1) (.int .i64 b0) (.int .i64 b1)
  go_enter Try.func5, Try.ntmps5
  go_wp2_with fail
  go_region_held3 (fun w' => w'.cell? ⟨w.heap.size, 0, none⟩ = some (.int .i64 a0) ∧ w'.cell? ⟨w.heap.size, 1, none⟩ = some (.int .i64 a1) ∧ w'.cell? ⟨w.heap.size + 1, 0, none⟩ = some (.int .i64 b0) ∧ w'.cell? ⟨w.heap.size + 1, 1, none⟩ = some (.int .i64 b1) ∧ St22 w w.heap.size (w.heap.size + 1) 23 29 (.int .i64 a0) (.int .i64 a1) (.int .i64 b0) (.int .i64 b1) w')
    (first | exact st22_all (st22_drew S0) | exact st22_all (st22_step (by assumption) hb1))
    (first | (go_at_call 17; refine (toInflow_any _ _ _).mono ?_; rintro e w1 ⟨rfl, hb1⟩) | (go_at_call 20; refine (toService_any _ _ _).mono ?_; rintro e w1 ⟨rfl, hb1⟩) | (go_at_call 22; refine (specBacklogBound_any _ _ _ _ _ ).mono ?_; rintro e w1 ⟨rfl, hb1⟩))
  rename_i hS1
  go_wp2_with fail
  go_region_held3 (fun w' => w'.cell? ⟨w.heap.size, 0, none⟩ = some (.int .i64 a0) ∧ w'.cell? ⟨w.heap.size, 1, none⟩ = some (.int .i64 a1) ∧ w'.cell? ⟨w.heap.size + 1, 0, none⟩ = some (.int .i64 b0) ∧ w'.cell? ⟨w.heap.size + 1, 1, none⟩ = some (.int .i64 b1) ∧ St22 w w.heap.size (w.heap.size + 1) 23 29 (.int .i64 a0) (.int .i64 a1) (.int .i64 b0) (.int .i64 b1) w')
    (first | exact st22_all (st22_drew hS1.2.2.2.2) | exact st22_all (st22_step (by assumption) hb1))
    (first | (go_at_call 17; refine (toInflow_any _ _ _).mono ?_; rintro e w1 ⟨rfl, hb1⟩) | (go_at_call 20; refine (toService_any _ _ _).mono ?_; rintro e w1 ⟨rfl, hb1⟩) | (go_at_call 23; refine (implBacklogBound_any _ _ _ _ _ ).mono ?_; rintro e w1 ⟨rfl, hb1⟩))
  rename_i hS2
  go_wp2_with fail
  go_ret
  exact ⟨rfl, hS2.2.2.2.2.2.2⟩

set_option maxHeartbeats 1000000 in
theorem walkDelayBound (a0 a1 b0 b1 : Int) (w : World) :
    Calls Try.prog 6 #[.agg #[.int .i64 a0, .int .i64 a1], .agg #[.int .i64 b0, .int .i64 b1]] w fun e w' => e = .returned (.bool true) ∧ Below w.heap.size w w' := by
  have S0 := st22_new w 23 29 (.int .i64 a0) (.int .i64 a1) (.int .i64 b0) (.int .i64 b1)
  go_enter Try.func6, Try.ntmps6
  go_wp2_with fail
  go_region_held3 (fun w' => w'.cell? ⟨w.heap.size, 0, none⟩ = some (.int .i64 a0) ∧ w'.cell? ⟨w.heap.size, 1, none⟩ = some (.int .i64 a1) ∧ w'.cell? ⟨w.heap.size + 1, 0, none⟩ = some (.int .i64 b0) ∧ w'.cell? ⟨w.heap.size + 1, 1, none⟩ = some (.int .i64 b1) ∧ St22 w w.heap.size (w.heap.size + 1) 23 29 (.int .i64 a0) (.int .i64 a1) (.int .i64 b0) (.int .i64 b1) w')
    (first | exact st22_all (st22_drew S0) | exact st22_all (st22_step (by assumption) hb1))
    (first | (go_at_call 17; refine (toInflow_any _ _ _).mono ?_; rintro e w1 ⟨rfl, hb1⟩) | (go_at_call 20; refine (toService_any _ _ _).mono ?_; rintro e w1 ⟨rfl, hb1⟩) | (go_at_call 24; refine (specDelayBound_any _ _ _ _ _ ).mono ?_; rintro e w1 ⟨rfl, hb1⟩))
  rename_i hS1
  go_wp2_with fail
  go_region_held3 (fun w' => w'.cell? ⟨w.heap.size, 0, none⟩ = some (.int .i64 a0) ∧ w'.cell? ⟨w.heap.size, 1, none⟩ = some (.int .i64 a1) ∧ w'.cell? ⟨w.heap.size + 1, 0, none⟩ = some (.int .i64 b0) ∧ w'.cell? ⟨w.heap.size + 1, 1, none⟩ = some (.int .i64 b1) ∧ St22 w w.heap.size (w.heap.size + 1) 23 29 (.int .i64 a0) (.int .i64 a1) (.int .i64 b0) (.int .i64 b1) w')
    (first | exact st22_all (st22_drew hS1.2.2.2.2) | exact st22_all (st22_step (by assumption) hb1))
    (first | (go_at_call 17; refine (toInflow_any _ _ _).mono ?_; rintro e w1 ⟨rfl, hb1⟩) | (go_at_call 20; refine (toService_any _ _ _).mono ?_; rintro e w1 ⟨rfl, hb1⟩) | (go_at_call 25; refine (implDelayBound_any _ _ _ _ _ ).mono ?_; rintro e w1 ⟨rfl, hb1⟩))
  rename_i hS2
  go_wp2_with fail
  go_ret
  exact ⟨rfl, hS2.2.2.2.2.2.2⟩

set_option maxHeartbeats 1000000 in
theorem walkGreedyBacklog (a0 a1 b0 b1 t : Int) (w : World) :
    Calls Try.prog 7 #[.agg #[.int .i64 a0, .int .i64 a1], .agg #[.int .i64 b0, .int .i64 b1], .int .i64 t] w fun e w' => e = .returned (.bool true) ∧ Below w.heap.size w w' := by
  have S0 := st22_new w 23 29 (.int .i64 a0) (.int .i64 a1) (.int .i64 b0) (.int .i64 b1)
  go_enter Try.func7, Try.ntmps7
  go_wp2_with fail
  go_region_held3 (fun w' => w'.cell? ⟨w.heap.size, 0, none⟩ = some (.int .i64 a0) ∧ w'.cell? ⟨w.heap.size, 1, none⟩ = some (.int .i64 a1) ∧ w'.cell? ⟨w.heap.size + 1, 0, none⟩ = some (.int .i64 b0) ∧ w'.cell? ⟨w.heap.size + 1, 1, none⟩ = some (.int .i64 b1) ∧ St22 w w.heap.size (w.heap.size + 1) 23 29 (.int .i64 a0) (.int .i64 a1) (.int .i64 b0) (.int .i64 b1) w')
    (first | exact st22_all (st22_drew S0) | exact st22_all (st22_step (by assumption) hb1))
    (first | (go_at_call 17; refine (toInflow_any _ _ _).mono ?_; rintro e w1 ⟨rfl, hb1⟩) | (go_at_call 20; refine (toService_any _ _ _).mono ?_; rintro e w1 ⟨rfl, hb1⟩) | (go_at_call 26; refine (specGreedyBacklog_any _ _ _ _ _ _ ).mono ?_; rintro e w1 ⟨rfl, hb1⟩))
  rename_i hS1
  go_wp2_with fail
  go_region_held3 (fun w' => w'.cell? ⟨w.heap.size, 0, none⟩ = some (.int .i64 a0) ∧ w'.cell? ⟨w.heap.size, 1, none⟩ = some (.int .i64 a1) ∧ w'.cell? ⟨w.heap.size + 1, 0, none⟩ = some (.int .i64 b0) ∧ w'.cell? ⟨w.heap.size + 1, 1, none⟩ = some (.int .i64 b1) ∧ St22 w w.heap.size (w.heap.size + 1) 23 29 (.int .i64 a0) (.int .i64 a1) (.int .i64 b0) (.int .i64 b1) w')
    (first | exact st22_all (st22_drew hS1.2.2.2.2) | exact st22_all (st22_step (by assumption) hb1))
    (first | (go_at_call 17; refine (toInflow_any _ _ _).mono ?_; rintro e w1 ⟨rfl, hb1⟩) | (go_at_call 20; refine (toService_any _ _ _).mono ?_; rintro e w1 ⟨rfl, hb1⟩) | (go_at_call 27; refine (implGreedyBacklog_any _ _ _ _ _ _ ).mono ?_; rintro e w1 ⟨rfl, hb1⟩))
  rename_i hS2
  go_wp2_with fail
  go_ret
  exact ⟨rfl, hS2.2.2.2.2.2.2⟩

end Go.Proofs.Ytmmelpgnfjjokaa
