/- Contracts of GreenBound, NotRedBound, FullPolicer, ColourAware, ColourOf and PolicePacket, the program's and the reference's: both return the same. -/
import Derived.Test.YtdhojfkdbpghmaaPoA
import Derived.Deep.RegionHeld3
namespace Go.Proofs.Ytdhojfkdbpghmaa
open Go.RowKit

def greenB (lr lc lt hr hc ht n : Int) : Bool := policerB lr lc lt hr hc ht && inB n 0 100000
def greenI (lr lc lt hr hc ht n : Int) : Int := if greenB lr lc lt hr hc ht n then lr * n + lc else 0
def notRedI (lr lc lt hr hc ht n : Int) : Int := if greenB lr lc lt hr hc ht n then hr * n + hc else 0
def colourI (lt ht size given : Int) : Int := if given = 0 ∨ ht < size then 0 else if given = 1 ∨ lt < size then 1 else 2
def awareB (lr lc lt hr hc ht size given : Int) : Bool := policerB lr lc lt hr hc ht && inB size 1 1500 && inB given 0 2
def awareI (lr lc lt hr hc ht size given : Int) : Int := if awareB lr lc lt hr hc ht size given then colourI lt ht size given else 0
def lowAfter (lt size c : Int) : Int := if c = 2 then lt - size else lt
def highAfter (ht size c : Int) : Int := if c = 0 then ht else ht - size
theorem colour_cases (lt ht size given : Int) : colourI lt ht size given = 0 ∨ colourI lt ht size given = 1 ∨ colourI lt ht size given = 2 := by
  unfold colourI; split
  · exact .inl rfl
  · split
    · exact .inr (.inl rfl)
    · exact .inr (.inr rfl)

set_option maxHeartbeats 1000000 in
theorem specGreenBound_any (lr lc lt hr hc ht n : Int) (w : World) :
    Calls Try.prog 16 #[.agg #[.int .i64 lr, .int .i64 lc, .int .i64 lt, .int .i64 hr, .int .i64 hc, .int .i64 ht], .int .i64 n] w fun e w' => e = .returned (.tuple #[.int .i64 (greenI lr lc lt hr hc ht n), .bool (greenB lr lc lt hr hc ht n)]) ∧ Below w.heap.size w w' := by
  have b0 := Blk.new w 29 [.int .i64 lr, .int .i64 lc, .int .i64 lt, .int .i64 hr, .int .i64 hc, .int .i64 ht]
  cases h1 : policerB lr lc lt hr hc ht with
  | false =>
    simp only [greenI, greenB, h1, Bool.false_and]
    go_enter Try.func16, Try.ntmps16
    go_wp2_with (go_at_call 43; refine (poGood_any _ _ _ _ _ _ _).mono ?_; rintro e w1 ⟨rfl, hb1⟩)
    go_ret2
    exact ⟨rfl, ext_trans (ext_alloc (ext_refl w) _) hb1⟩
  | true =>
    cases h2 : inB n 0 100000 with
    | false =>
      simp only [greenI, greenB, h1, h2, Bool.and_false]
      go_enter Try.func16, Try.ntmps16
      go_wp2_with (first | (go_at_call 43; refine (poGood_any _ _ _ _ _ _ _).mono ?_; rintro e w1 ⟨rfl, hb1⟩) | (go_at_call 46; refine (l1In_any _ _ _ _).mono ?_; rintro e w' ⟨rfl, rfl⟩))
      go_ret2
      exact ⟨rfl, ext_trans (ext_alloc (ext_refl w) _) hb1⟩
    | true =>
      have hg : greenB lr lc lt hr hc ht n = true := by simp [greenB, h1, h2]
      have hI : greenI lr lc lt hr hc ht n = lr * n + lc := by simp [greenI, hg]
      rw [hI, hg]
      have hh := policerB_iff.1 h1
      obtain ⟨n0, n1⟩ := inB_iff.1 h2
      obtain ⟨m1, m2⟩ := mul_bd (a := lr) (b := n) (A := 100000) (B := 100000) (by omega) (by omega) n0 n1
      simp only [Int.reduceMul] at m2
      clear hI hg
      go_enter Try.func16, Try.ntmps16
      go_wp2_with (first | (go_at_call 43; refine (poGood_any _ _ _ _ _ _ _).mono ?_; rintro e w1 ⟨rfl, hb1⟩; have b1 := b0.below hb1; obtain ⟨y1, x1, c1, f1⟩ := b1.six) | (go_at_call 46; refine (l1In_any _ _ _ _).mono ?_; rintro e w' ⟨rfl, rfl⟩))
      go_ret2
      exact ⟨rfl, ext_trans (ext_alloc (ext_refl w) _) hb1⟩

set_option maxHeartbeats 1000000 in
theorem specNotRedBound_any (lr lc lt hr hc ht n : Int) (w : World) :
    Calls Try.prog 18 #[.agg #[.int .i64 lr, .int .i64 lc, .int .i64 lt, .int .i64 hr, .int .i64 hc, .int .i64 ht], .int .i64 n] w fun e w' => e = .returned (.tuple #[.int .i64 (notRedI lr lc lt hr hc ht n), .bool (greenB lr lc lt hr hc ht n)]) ∧ Below w.heap.size w w' := by
  have b0 := Blk.new w 29 [.int .i64 lr, .int .i64 lc, .int .i64 lt, .int .i64 hr, .int .i64 hc, .int .i64 ht]
  cases h1 : policerB lr lc lt hr hc ht with
  | false =>
    simp only [notRedI, greenB, h1, Bool.false_and]
    go_enter Try.func18, Try.ntmps18
    go_wp2_with (go_at_call 43; refine (poGood_any _ _ _ _ _ _ _).mono ?_; rintro e w1 ⟨rfl, hb1⟩)
    go_ret2
    exact ⟨rfl, ext_trans (ext_alloc (ext_refl w) _) hb1⟩
  | true =>
    cases h2 : inB n 0 100000 with
    | false =>
      simp only [notRedI, greenB, h1, h2, Bool.and_false]
      go_enter Try.func18, Try.ntmps18
      go_wp2_with (first | (go_at_call 43; refine (poGood_any _ _ _ _ _ _ _).mono ?_; rintro e w1 ⟨rfl, hb1⟩) | (go_at_call 46; refine (l1In_any _ _ _ _).mono ?_; rintro e w' ⟨rfl, rfl⟩))
      go_ret2
      exact ⟨rfl, ext_trans (ext_alloc (ext_refl w) _) hb1⟩
    | true =>
      have hg : greenB lr lc lt hr hc ht n = true := by simp [greenB, h1, h2]
      have hI : notRedI lr lc lt hr hc ht n = hr * n + hc := by simp [notRedI, hg]
      rw [hI, hg]
      have hh := policerB_iff.1 h1
      obtain ⟨n0, n1⟩ := inB_iff.1 h2
      obtain ⟨m1, m2⟩ := mul_bd (a := hr) (b := n) (A := 100000) (B := 100000) (by omega) (by omega) n0 n1
      simp only [Int.reduceMul] at m2
      clear hI hg
      go_enter Try.func18, Try.ntmps18
      go_wp2_with (first | (go_at_call 43; refine (poGood_any _ _ _ _ _ _ _).mono ?_; rintro e w1 ⟨rfl, hb1⟩; have b1 := b0.below hb1; obtain ⟨y1, x1, c1, f1⟩ := b1.six) | (go_at_call 46; refine (l1In_any _ _ _ _).mono ?_; rintro e w' ⟨rfl, rfl⟩))
      go_ret2
      exact ⟨rfl, ext_trans (ext_alloc (ext_refl w) _) hb1⟩

set_option maxHeartbeats 1000000 in
theorem implGreenBound_any (lr lc lt hr hc ht n : Int) (w : World) :
    Calls Try.prog 17 #[.agg #[.int .i64 lr, .int .i64 lc, .int .i64 lt, .int .i64 hr, .int .i64 hc, .int .i64 ht], .int .i64 n] w fun e w' => e = .returned (.tuple #[.int .i64 (greenI lr lc lt hr hc ht n), .bool (greenB lr lc lt hr hc ht n)]) ∧ Below w.heap.size w w' := by
  have b0 := Blk.new w 29 [.int .i64 lr, .int .i64 lc, .int .i64 lt, .int .i64 hr, .int .i64 hc, .int .i64 ht]
  cases h1 : policerB lr lc lt hr hc ht with
  | false =>
    simp only [greenI, greenB, h1, Bool.false_and]
    go_enter Try.func17, Try.ntmps17
    go_wp2_with (go_at_call 15; refine (implIsPolicer_any _ _ _ _ _ _ _).mono ?_; rintro e w1 ⟨rfl, hb1⟩)
    go_ret2
    exact ⟨rfl, ext_trans (ext_alloc (ext_refl w) _) hb1⟩
  | true =>
    cases h2 : inB n 0 100000 with
    | false =>
      simp only [greenI, greenB, h1, h2, Bool.and_false]
      go_enter Try.func17, Try.ntmps17
      go_wp2_with (first | (go_at_call 15; refine (implIsPolicer_any _ _ _ _ _ _ _).mono ?_; rintro e w1 ⟨rfl, hb1⟩) | (go_at_call 47; refine (isTicks_any _ _).mono ?_; rintro e w' ⟨rfl, rfl⟩))
      go_ret2
      exact ⟨rfl, ext_trans (ext_alloc (ext_refl w) _) hb1⟩
    | true =>
      have hg : greenB lr lc lt hr hc ht n = true := by simp [greenB, h1, h2]
      have hI : greenI lr lc lt hr hc ht n = lr * n + lc := by simp [greenI, hg]
      rw [hI, hg]
      have hh := policerB_iff.1 h1
      obtain ⟨n0, n1⟩ := inB_iff.1 h2
      obtain ⟨m1, m2⟩ := mul_bd (a := lr) (b := n) (A := 100000) (B := 100000) (by omega) (by omega) n0 n1
      simp only [Int.reduceMul] at m2
      clear hI hg
      go_enter Try.func17, Try.ntmps17
      go_wp2_with (first | (go_at_call 15; refine (implIsPolicer_any _ _ _ _ _ _ _).mono ?_; rintro e w1 ⟨rfl, hb1⟩; have b1 := b0.below hb1; obtain ⟨y1, x1, c1, f1⟩ := b1.six) | (go_at_call 47; refine (isTicks_any _ _).mono ?_; rintro e w' ⟨rfl, rfl⟩))
      go_ret2
      exact ⟨rfl, ext_trans (ext_alloc (ext_refl w) _) hb1⟩

set_option maxHeartbeats 1000000 in
theorem implNotRedBound_any (lr lc lt hr hc ht n : Int) (w : World) :
    Calls Try.prog 19 #[.agg #[.int .i64 lr, .int .i64 lc, .int .i64 lt, .int .i64 hr, .int .i64 hc, .int .i64 ht], .int .i64 n] w fun e w' => e = .returned (.tuple #[.int .i64 (notRedI lr lc lt hr hc ht n), .bool (greenB lr lc lt hr hc ht n)]) ∧ Below w.heap.size w w' := by
  have b0 := Blk.new w 29 [.int .i64 lr, .int .i64 lc, .int .i64 lt, .int .i64 hr, .int .i64 hc, .int .i64 ht]
  cases h1 : policerB lr lc lt hr hc ht with
  | false =>
    simp only [notRedI, greenB, h1, Bool.false_and]
    go_enter Try.func19, Try.ntmps19
    go_wp2_with (go_at_call 15; refine (implIsPolicer_any _ _ _ _ _ _ _).mono ?_; rintro e w1 ⟨rfl, hb1⟩)
    go_ret2
    exact ⟨rfl, ext_trans (ext_alloc (ext_refl w) _) hb1⟩
  | true =>
    cases h2 : inB n 0 100000 with
    | false =>
      simp only [notRedI, greenB, h1, h2, Bool.and_false]
      go_enter Try.func19, Try.ntmps19
      go_wp2_with (first | (go_at_call 15; refine (implIsPolicer_any _ _ _ _ _ _ _).mono ?_; rintro e w1 ⟨rfl, hb1⟩) | (go_at_call 47; refine (isTicks_any _ _).mono ?_; rintro e w' ⟨rfl, rfl⟩))
      go_ret2
      exact ⟨rfl, ext_trans (ext_alloc (ext_refl w) _) hb1⟩
    | true =>
      have hg : greenB lr lc lt hr hc ht n = true := by simp [greenB, h1, h2]
      have hI : notRedI lr lc lt hr hc ht n = hr * n + hc := by simp [notRedI, hg]
      rw [hI, hg]
      have hh := policerB_iff.1 h1
      obtain ⟨n0, n1⟩ := inB_iff.1 h2
      obtain ⟨m1, m2⟩ := mul_bd (a := hr) (b := n) (A := 100000) (B := 100000) (by omega) (by omega) n0 n1
      simp only [Int.reduceMul] at m2
      clear hI hg
      go_enter Try.func19, Try.ntmps19
      go_wp2_with (first | (go_at_call 15; refine (implIsPolicer_any _ _ _ _ _ _ _).mono ?_; rintro e w1 ⟨rfl, hb1⟩; have b1 := b0.below hb1; obtain ⟨y1, x1, c1, f1⟩ := b1.six) | (go_at_call 47; refine (isTicks_any _ _).mono ?_; rintro e w' ⟨rfl, rfl⟩))
      go_ret2
      exact ⟨rfl, ext_trans (ext_alloc (ext_refl w) _) hb1⟩

set_option maxHeartbeats 400000 in
theorem colourOf_any (lr lc lt hr hc ht size given : Int) (w : World) :
    Calls Try.prog 54 #[.agg #[.int .i64 lr, .int .i64 lc, .int .i64 lt, .int .i64 hr, .int .i64 hc, .int .i64 ht], .int .i64 size, .int .i64 given] w fun e w' => e = .returned (.int .i64 (colourI lt ht size given)) ∧ Below w.heap.size w w' := by
  go_enter Try.func54, Try.ntmps54
  go_wp2
  all_goals (go_ret; refine ⟨?_, ext_alloc (ext_refl w) _⟩; simp [colourI, *] <;> first | omega | (intros; omega) | skip)

set_option maxHeartbeats 400000 in
theorem poOf_any (lr lc lt hr hc ht size given : Int) (w : World) :
    Calls Try.prog 51 #[.agg #[.int .i64 lr, .int .i64 lc, .int .i64 lt, .int .i64 hr, .int .i64 hc, .int .i64 ht], .int .i64 size, .int .i64 given] w fun e w' => e = .returned (.int .i64 (colourI lt ht size given)) ∧ Below w.heap.size w w' := by
  go_enter Try.func51, Try.ntmps51
  go_wp2
  all_goals (go_ret; refine ⟨?_, ext_alloc (ext_refl w) _⟩; simp [colourI, *] <;> first | omega | (intros; omega) | skip)

set_option maxHeartbeats 1000000 in
theorem specColourAware_any (lr lc lt hr hc ht size given : Int) (w : World) :
    Calls Try.prog 23 #[.agg #[.int .i64 lr, .int .i64 lc, .int .i64 lt, .int .i64 hr, .int .i64 hc, .int .i64 ht], .int .i64 size, .int .i64 given] w fun e w' => e = .returned (.tuple #[.int .i64 (awareI lr lc lt hr hc ht size given), .bool (awareB lr lc lt hr hc ht size given)]) ∧ Below w.heap.size w w' := by
  have b0 := Blk.new w 29 [.int .i64 lr, .int .i64 lc, .int .i64 lt, .int .i64 hr, .int .i64 hc, .int .i64 ht]
  cases h1 : policerB lr lc lt hr hc ht with
  | false =>
    have hg : awareB lr lc lt hr hc ht size given = false := by simp [awareB, h1]
    simp only [awareI, hg, Bool.false_eq_true, if_false]
    clear hg
    go_enter Try.func23, Try.ntmps23
    go_wp2_with (first | (go_at_call 43; refine (poGood_any _ _ _ _ _ _ _).mono ?_; rintro e w1 ⟨rfl, hb1⟩; have b1 := b0.below hb1; obtain ⟨y1, x1, c1, f1⟩ := b1.six) | (go_at_call 49; refine (buSize_any _ _).mono ?_; rintro e w' ⟨rfl, rfl⟩) | (go_at_call 50; refine (poColour_any _ _).mono ?_; rintro e w' ⟨rfl, rfl⟩))
    go_ret2
    exact ⟨rfl, ext_trans (ext_alloc (ext_refl w) _) hb1⟩
  | true =>
    cases h2 : inB size 1 1500 with
    | false =>
      have hg : awareB lr lc lt hr hc ht size given = false := by simp [awareB, h1, h2]
      simp only [awareI, hg, Bool.false_eq_true, if_false]
      clear hg
      go_enter Try.func23, Try.ntmps23
      go_wp2_with (first | (go_at_call 43; refine (poGood_any _ _ _ _ _ _ _).mono ?_; rintro e w1 ⟨rfl, hb1⟩; have b1 := b0.below hb1; obtain ⟨y1, x1, c1, f1⟩ := b1.six) | (go_at_call 49; refine (buSize_any _ _).mono ?_; rintro e w' ⟨rfl, rfl⟩) | (go_at_call 50; refine (poColour_any _ _).mono ?_; rintro e w' ⟨rfl, rfl⟩))
      go_ret2
      exact ⟨rfl, ext_trans (ext_alloc (ext_refl w) _) hb1⟩
    | true =>
      cases h3 : inB given 0 2 with
      | false =>
        have hg : awareB lr lc lt hr hc ht size given = false := by simp [awareB, h1, h2, h3]
        simp only [awareI, hg, Bool.false_eq_true, if_false]
        clear hg
        go_enter Try.func23, Try.ntmps23
        go_wp2_with (first | (go_at_call 43; refine (poGood_any _ _ _ _ _ _ _).mono ?_; rintro e w1 ⟨rfl, hb1⟩; have b1 := b0.below hb1; obtain ⟨y1, x1, c1, f1⟩ := b1.six) | (go_at_call 49; refine (buSize_any _ _).mono ?_; rintro e w' ⟨rfl, rfl⟩) | (go_at_call 50; refine (poColour_any _ _).mono ?_; rintro e w' ⟨rfl, rfl⟩))
        go_ret2
        exact ⟨rfl, ext_trans (ext_alloc (ext_refl w) _) hb1⟩
      | true =>
        have hg : awareB lr lc lt hr hc ht size given = true := by simp [awareB, h1, h2, h3]
        simp only [awareI, hg, if_true]
        clear hg
        go_enter Try.func23, Try.ntmps23
        go_wp2_with (first | (go_at_call 43; refine (poGood_any _ _ _ _ _ _ _).mono ?_; rintro e w1 ⟨rfl, hb1⟩; have b1 := b0.below hb1; obtain ⟨y1, x1, c1, f1⟩ := b1.six) | (go_at_call 49; refine (buSize_any _ _).mono ?_; rintro e w' ⟨rfl, rfl⟩) | (go_at_call 50; refine (poColour_any _ _).mono ?_; rintro e w' ⟨rfl, rfl⟩) | (go_at_call 51; refine (poOf_any _ _ _ _ _ _ _ _ _).mono ?_; rintro e w2 ⟨rfl, hb2⟩))
        go_ret2
        exact ⟨rfl, ext_trans (ext_trans (ext_alloc (ext_refl w) _) hb1) hb2⟩

set_option maxHeartbeats 400000 in
theorem specColourOf_any (lr lc lt hr hc ht size : Int) (w : World) :
    Calls Try.prog 25 #[.agg #[.int .i64 lr, .int .i64 lc, .int .i64 lt, .int .i64 hr, .int .i64 hc, .int .i64 ht], .int .i64 size] w fun e w' => e = .returned (.tuple #[.int .i64 (awareI lr lc lt hr hc ht size 2), .bool (awareB lr lc lt hr hc ht size 2)]) ∧ Below w.heap.size w w' := by
  go_enter Try.func25, Try.ntmps25
  go_wp2_with fail
  refine (specColourAware_any _ _ _ _ _ _ _ _ _).mono ?_; rintro e w1 ⟨rfl, hb1⟩
  go_wp2_with fail
  go_ret2
  exact ⟨rfl, ext_trans (ext_alloc (ext_refl w) _) hb1⟩

set_option maxHeartbeats 1000000 in
theorem implColourAware_any (lr lc lt hr hc ht size given : Int) (w : World) :
    Calls Try.prog 24 #[.agg #[.int .i64 lr, .int .i64 lc, .int .i64 lt, .int .i64 hr, .int .i64 hc, .int .i64 ht], .int .i64 size, .int .i64 given] w fun e w' => e = .returned (.tuple #[.int .i64 (awareI lr lc lt hr hc ht size given), .bool (awareB lr lc lt hr hc ht size given)]) ∧ Below w.heap.size w w' := by
  have b0 := Blk.new w 29 [.int .i64 lr, .int .i64 lc, .int .i64 lt, .int .i64 hr, .int .i64 hc, .int .i64 ht]
  cases h1 : policerB lr lc lt hr hc ht with
  | false =>
    have hg : awareB lr lc lt hr hc ht size given = false := by simp [awareB, h1]
    simp only [awareI, hg, Bool.false_eq_true, if_false]
    clear hg
    go_enter Try.func24, Try.ntmps24
    go_wp2_with (first | (go_at_call 15; refine (implIsPolicer_any _ _ _ _ _ _ _).mono ?_; rintro e w1 ⟨rfl, hb1⟩; have b1 := b0.below hb1; obtain ⟨y1, x1, c1, f1⟩ := b1.six) | (go_at_call 52; refine (isSize_any _ _).mono ?_; rintro e w' ⟨rfl, rfl⟩) | (go_at_call 53; refine (isColour_any _ _).mono ?_; rintro e w' ⟨rfl, rfl⟩))
    go_ret2
    exact ⟨rfl, ext_trans (ext_alloc (ext_refl w) _) hb1⟩
  | true =>
    cases h2 : inB size 1 1500 with
    | false =>
      have hg : awareB lr lc lt hr hc ht size given = false := by simp [awareB, h1, h2]
      simp only [awareI, hg, Bool.false_eq_true, if_false]
      clear hg
      go_enter Try.func24, Try.ntmps24
      go_wp2_with (first | (go_at_call 15; refine (implIsPolicer_any _ _ _ _ _ _ _).mono ?_; rintro e w1 ⟨rfl, hb1⟩; have b1 := b0.below hb1; obtain ⟨y1, x1, c1, f1⟩ := b1.six) | (go_at_call 52; refine (isSize_any _ _).mono ?_; rintro e w' ⟨rfl, rfl⟩) | (go_at_call 53; refine (isColour_any _ _).mono ?_; rintro e w' ⟨rfl, rfl⟩))
      go_ret2
      exact ⟨rfl, ext_trans (ext_alloc (ext_refl w) _) hb1⟩
    | true =>
      cases h3 : inB given 0 2 with
      | false =>
        have hg : awareB lr lc lt hr hc ht size given = false := by simp [awareB, h1, h2, h3]
        simp only [awareI, hg, Bool.false_eq_true, if_false]
        clear hg
        go_enter Try.func24, Try.ntmps24
        go_wp2_with (first | (go_at_call 15; refine (implIsPolicer_any _ _ _ _ _ _ _).mono ?_; rintro e w1 ⟨rfl, hb1⟩; have b1 := b0.below hb1; obtain ⟨y1, x1, c1, f1⟩ := b1.six) | (go_at_call 52; refine (isSize_any _ _).mono ?_; rintro e w' ⟨rfl, rfl⟩) | (go_at_call 53; refine (isColour_any _ _).mono ?_; rintro e w' ⟨rfl, rfl⟩))
        go_ret2
        exact ⟨rfl, ext_trans (ext_alloc (ext_refl w) _) hb1⟩
      | true =>
        have hg : awareB lr lc lt hr hc ht size given = true := by simp [awareB, h1, h2, h3]
        simp only [awareI, hg, if_true]
        clear hg
        go_enter Try.func24, Try.ntmps24
        go_wp2_with (first | (go_at_call 15; refine (implIsPolicer_any _ _ _ _ _ _ _).mono ?_; rintro e w1 ⟨rfl, hb1⟩; have b1 := b0.below hb1; obtain ⟨y1, x1, c1, f1⟩ := b1.six) | (go_at_call 52; refine (isSize_any _ _).mono ?_; rintro e w' ⟨rfl, rfl⟩) | (go_at_call 53; refine (isColour_any _ _).mono ?_; rintro e w' ⟨rfl, rfl⟩) | (go_at_call 54; refine (colourOf_any _ _ _ _ _ _ _ _ _).mono ?_; rintro e w2 ⟨rfl, hb2⟩))
        go_ret2
        exact ⟨rfl, ext_trans (ext_trans (ext_alloc (ext_refl w) _) hb1) hb2⟩

set_option maxHeartbeats 400000 in
theorem implColourOf_any (lr lc lt hr hc ht size : Int) (w : World) :
    Calls Try.prog 26 #[.agg #[.int .i64 lr, .int .i64 lc, .int .i64 lt, .int .i64 hr, .int .i64 hc, .int .i64 ht], .int .i64 size] w fun e w' => e = .returned (.tuple #[.int .i64 (awareI lr lc lt hr hc ht size 2), .bool (awareB lr lc lt hr hc ht size 2)]) ∧ Below w.heap.size w w' := by
  go_enter Try.func26, Try.ntmps26
  go_wp2_with fail
  refine (implColourAware_any _ _ _ _ _ _ _ _ _).mono ?_; rintro e w1 ⟨rfl, hb1⟩
  go_wp2_with fail
  go_ret2
  exact ⟨rfl, ext_trans (ext_alloc (ext_refl w) _) hb1⟩

end Go.Proofs.Ytdhojfkdbpghmaa