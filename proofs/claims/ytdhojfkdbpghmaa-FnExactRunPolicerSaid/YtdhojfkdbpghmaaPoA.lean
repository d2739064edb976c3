/- Contracts of the scalar functions over buckets and policers: what each call returns; nothing that was there has changed. -/
import Derived.Test.YtdhojfkdbpghmaaHelp
import Derived.Deep.RegionHeld3
namespace Go.Proofs.Ytdhojfkdbpghmaa
open Go.RowKit

def isBucketB (r c t : Int) : Bool := inB r 0 100000 && inB c 0 1000000 && inB t 0 c
def policerB (lr lc lt hr hc ht : Int) : Bool := isBucketB lr lc lt && isBucketB hr hc ht && decide (lr ≤ hr)
theorem isBucketB_iff {r c t : Int} : isBucketB r c t = true ↔ (0 ≤ r ∧ r ≤ 100000) ∧ (0 ≤ c ∧ c ≤ 1000000) ∧ (0 ≤ t ∧ t ≤ c) := by simp [isBucketB, inB, and_assoc]
theorem policerB_iff {lr lc lt hr hc ht : Int} : policerB lr lc lt hr hc ht = true ↔ ((0 ≤ lr ∧ lr ≤ 100000) ∧ (0 ≤ lc ∧ lc ≤ 1000000) ∧ (0 ≤ lt ∧ lt ≤ lc)) ∧ ((0 ≤ hr ∧ hr ≤ 100000) ∧ (0 ≤ hc ∧ hc ≤ 1000000) ∧ (0 ≤ ht ∧ ht ≤ hc)) ∧ lr ≤ hr := by
  simp [policerB, isBucketB_iff, and_assoc]

set_option maxHeartbeats 400000 in
theorem isFlowRate_any (n : Int) (w : World) :
    Calls Try.prog 66 #[.int .i64 n] w fun e w' => e = .returned (.bool (inB n 0 100000)) ∧ w = w' := by
  go_enter Try.func66, Try.ntmps66
  go_wp2
  all_goals (go_ret; simp [inB, *] <;> omega)

set_option maxHeartbeats 400000 in
theorem isTicks_any (n : Int) (w : World) :
    Calls Try.prog 47 #[.int .i64 n] w fun e w' => e = .returned (.bool (inB n 0 100000)) ∧ w = w' := by
  go_enter Try.func47, Try.ntmps47
  go_wp2
  all_goals (go_ret; simp [inB, *] <;> omega)

set_option maxHeartbeats 400000 in
theorem isSize_any (n : Int) (w : World) :
    Calls Try.prog 52 #[.int .i64 n] w fun e w' => e = .returned (.bool (inB n 1 1500)) ∧ w = w' := by
  go_enter Try.func52, Try.ntmps52
  go_wp2
  all_goals (go_ret; simp [inB, *] <;> omega)

set_option maxHeartbeats 400000 in
theorem isColour_any (n : Int) (w : World) :
    Calls Try.prog 53 #[.int .i64 n] w fun e w' => e = .returned (.bool (inB n 0 2)) ∧ w = w' := by
  go_enter Try.func53, Try.ntmps53
  go_wp2
  all_goals (go_ret; simp [inB, *] <;> omega)

set_option maxHeartbeats 400000 in
theorem buRate_any (n : Int) (w : World) :
    Calls Try.prog 68 #[.int .i64 n] w fun e w' => e = .returned (.bool (inB n 0 100000)) ∧ w = w' := by
  go_enter Try.func68, Try.ntmps68
  go_wp2_with (go_at_call 46; refine (l1In_any _ _ _ _).mono ?_; rintro e w' ⟨rfl, rfl⟩)
  go_ret
  exact ⟨rfl, rfl⟩

set_option maxHeartbeats 400000 in
theorem buSize_any (n : Int) (w : World) :
    Calls Try.prog 49 #[.int .i64 n] w fun e w' => e = .returned (.bool (inB n 1 1500)) ∧ w = w' := by
  go_enter Try.func49, Try.ntmps49
  go_wp2_with (go_at_call 46; refine (l1In_any _ _ _ _).mono ?_; rintro e w' ⟨rfl, rfl⟩)
  go_ret
  exact ⟨rfl, rfl⟩

set_option maxHeartbeats 400000 in
theorem poColour_any (n : Int) (w : World) :
    Calls Try.prog 50 #[.int .i64 n] w fun e w' => e = .returned (.bool (inB n 0 2)) ∧ w = w' := by
  go_enter Try.func50, Try.ntmps50
  go_wp2_with (go_at_call 46; refine (l1In_any _ _ _ _).mono ?_; rintro e w' ⟨rfl, rfl⟩)
  go_ret
  exact ⟨rfl, rfl⟩

set_option maxHeartbeats 400000 in
theorem implIsBucket_any (r c t : Int) (w : World) :
    Calls Try.prog 45 #[.agg #[.int .i64 r, .int .i64 c, .int .i64 t]] w fun e w' => e = .returned (.bool (isBucketB r c t)) ∧ Below w.heap.size w w' := by
  cases hr : inB r 0 100000 with
  | false =>
    go_enter Try.func45, Try.ntmps45
    go_wp2_with (go_at_call 66; refine (isFlowRate_any _ _).mono ?_; rintro e w' ⟨rfl, rfl⟩)
    go_ret
    exact ⟨by simp [isBucketB, hr], ext_alloc (ext_refl w) _⟩
  | true =>
    go_enter Try.func45, Try.ntmps45
    go_wp2_with (go_at_call 66; refine (isFlowRate_any _ _).mono ?_; rintro e w' ⟨rfl, rfl⟩)
    all_goals (go_ret; refine ⟨?_, ext_alloc (ext_refl w) _⟩; rw [isBucketB, hr]; simp [inB, *] <;> omega)

set_option maxHeartbeats 400000 in
theorem buGood_any (r c t : Int) (w : World) :
    Calls Try.prog 65 #[.agg #[.int .i64 r, .int .i64 c, .int .i64 t]] w fun e w' => e = .returned (.bool (isBucketB r c t)) ∧ Below w.heap.size w w' := by
  go_enter Try.func65, Try.ntmps65
  go_wp2_with (first | (go_at_call 68; refine (buRate_any _ _).mono ?_; rintro e w' ⟨rfl, rfl⟩) | (go_at_call 46; refine (l1In_any _ _ _ _).mono ?_; rintro e w' ⟨rfl, rfl⟩))
  all_goals (go_ret; refine ⟨?_, ext_alloc (ext_refl w) _⟩; simp [isBucketB, *])

set_option maxHeartbeats 1000000 in
theorem implIsPolicer_any (lr lc lt hr hc ht : Int) (w : World) :
    Calls Try.prog 15 #[.agg #[.int .i64 lr, .int .i64 lc, .int .i64 lt, .int .i64 hr, .int .i64 hc, .int .i64 ht]] w fun e w' => e = .returned (.bool (policerB lr lc lt hr hc ht)) ∧ Below w.heap.size w w' := by
  have b0 := Blk.new w 29 [.int .i64 lr, .int .i64 lc, .int .i64 lt, .int .i64 hr, .int .i64 hc, .int .i64 ht]
  cases h1 : isBucketB lr lc lt with
  | false =>
    go_enter Try.func15, Try.ntmps15
    go_wp2_with fail
    refine (implIsBucket_any _ _ _ _).mono ?_; rintro e w1 ⟨rfl, hb1⟩
    go_wp2_with fail
    go_ret
    exact ⟨by simp [policerB, h1], ext_trans (ext_alloc (ext_refl w) _) hb1⟩
  | true =>
    cases h2 : isBucketB hr hc ht with
    | false =>
      go_enter Try.func15, Try.ntmps15
      go_wp2_with fail
      refine (implIsBucket_any _ _ _ _).mono ?_; rintro e w1 ⟨rfl, hb1⟩
      have b1 := b0.below hb1
      obtain ⟨y1, x1, c1, f1⟩ := b1.six
      go_wp2_with fail
      refine (implIsBucket_any _ _ _ _).mono ?_; rintro e w2 ⟨rfl, hb2⟩
      go_wp2_with fail
      go_ret
      exact ⟨by simp [policerB, h1, h2], ext_trans (ext_trans (ext_alloc (ext_refl w) _) hb1) hb2⟩
    | true =>
      go_enter Try.func15, Try.ntmps15
      go_wp2_with fail
      refine (implIsBucket_any _ _ _ _).mono ?_; rintro e w1 ⟨rfl, hb1⟩
      have b1 := b0.below hb1
      obtain ⟨y1, x1, c1, f1⟩ := b1.six
      go_wp2_with fail
      refine (implIsBucket_any _ _ _ _).mono ?_; rintro e w2 ⟨rfl, hb2⟩
      have b2 := b1.below hb2
      obtain ⟨y2, x2, c2, f2⟩ := b2.six
      go_wp2_with fail
      go_ret
      exact ⟨by simp [policerB, h1, h2], ext_trans (ext_trans (ext_alloc (ext_refl w) _) hb1) hb2⟩

set_option maxHeartbeats 1000000 in
theorem poGood_any (lr lc lt hr hc ht : Int) (w : World) :
    Calls Try.prog 43 #[.agg #[.int .i64 lr, .int .i64 lc, .int .i64 lt, .int .i64 hr, .int .i64 hc, .int .i64 ht]] w fun e w' => e = .returned (.bool (policerB lr lc lt hr hc ht)) ∧ Below w.heap.size w w' := by
  have b0 := Blk.new w 29 [.int .i64 lr, .int .i64 lc, .int .i64 lt, .int .i64 hr, .int .i64 hc, .int .i64 ht]
  cases h1 : isBucketB lr lc lt with
  | false =>
    go_enter Try.func43, Try.ntmps43
    go_wp2_with fail
    refine (buGood_any _ _ _ _).mono ?_; rintro e w1 ⟨rfl, hb1⟩
    go_wp2_with fail
    go_ret
    exact ⟨by simp [policerB, h1], ext_trans (ext_alloc (ext_refl w) _) hb1⟩
  | true =>
    cases h2 : isBucketB hr hc ht with
    | false =>
      go_enter Try.func43, Try.ntmps43
      go_wp2_with fail
      refine (buGood_any _ _ _ _).mono ?_; rintro e w1 ⟨rfl, hb1⟩
      have b1 := b0.below hb1
      obtain ⟨y1, x1, c1, f1⟩ := b1.six
      go_wp2_with fail
      refine (buGood_any _ _ _ _).mono ?_; rintro e w2 ⟨rfl, hb2⟩
      go_wp2_with fail
      go_ret
      exact ⟨by simp [policerB, h1, h2], ext_trans (ext_trans (ext_alloc (ext_refl w) _) hb1) hb2⟩
    | true =>
      go_enter Try.func43, Try.ntmps43
      go_wp2_with fail
      refine (buGood_any _ _ _ _).mono ?_; rintro e w1 ⟨rfl, hb1⟩
      have b1 := b0.below hb1
      obtain ⟨y1, x1, c1, f1⟩ := b1.six
      go_wp2_with fail
      refine (buGood_any _ _ _ _).mono ?_; rintro e w2 ⟨rfl, hb2⟩
      have b2 := b1.below hb2
      obtain ⟨y2, x2, c2, f2⟩ := b2.six
      go_wp2_with fail
      go_ret
      exact ⟨by simp [policerB, h1, h2], ext_trans (ext_trans (ext_alloc (ext_refl w) _) hb1) hb2⟩

set_option maxHeartbeats 400000 in
theorem specIsPolicer_any (lr lc lt hr hc ht : Int) (w : World) :
    Calls Try.prog 13 #[.agg #[.int .i64 lr, .int .i64 lc, .int .i64 lt, .int .i64 hr, .int .i64 hc, .int .i64 ht]] w fun e w' => e = .returned (.bool (policerB lr lc lt hr hc ht)) ∧ Below w.heap.size w w' := by
  go_enter Try.func13, Try.ntmps13
  go_wp2_with fail
  refine (poGood_any _ _ _ _ _ _ _).mono ?_; rintro e w1 ⟨rfl, hb1⟩
  go_wp2_with fail
  go_ret
  exact ⟨rfl, ext_trans (ext_alloc (ext_refl w) _) hb1⟩

end Go.Proofs.Ytdhojfkdbpghmaa