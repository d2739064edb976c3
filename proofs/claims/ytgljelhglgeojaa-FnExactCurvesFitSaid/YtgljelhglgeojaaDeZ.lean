/- CurvesFit: the reference's contract. -/
import Derived.Test.YtgljelhglgeojaaDeX
namespace Go.Proofs.Ytgljelhglgeojaa
open Go.RowKit

def curvesOf (ss : List Ses) : List Curve := ss.map fun x => ⟨x.f, x.l, x.s⟩
def cfB (ss : List Ses) (rate : Int) : Bool := listS ss && inB rate 1 100000
def cfV (ss : List Ses) (rate : Int) : Bool := cfB ss rate && fitI (curvesOf ss) 0 0 rate
theorem curves_good {ss : List Ses} (h : listS ss = true) : (curvesOf ss).all goodC = true := by
  simp only [listS, Bool.and_eq_true, List.all_eq_true] at h
  unfold curvesOf
  rw [List.all_map, List.all_eq_true]
  intro x hx
  have := sesB_iff.1 (h.1 x hx)
  exact curB_iff.2 ⟨this.f, this.l, this.s⟩
theorem curves_snoc {xs : List SesV} {k : Nat} {x : SesV} (h : xs[k]? = some x) : (curvesOf ((sesOf xs).take (k + 1))).flatMap encCurve = (curvesOf ((sesOf xs).take k)).flatMap encCurve ++ [.int .i64 x.f, .int .i64 x.l, .int .i64 x.s] := by
  rw [take_snoc (sesOf_at h)]
  simp [curvesOf, encCurve]
def CvRel (w : World) (n : Nat) (ss : List Ses) (v i : Value) (wr : World) : Prop :=
  ∃ k : Nat, k ≤ n ∧ i = .int .i64 k ∧ wr.ownsRow w.heap.size 37 3 v k ((curvesOf (ss.take k)).flatMap encCurve) ∧ Below w.heap.size w wr
set_option maxRecDepth 100000 in
set_option maxHeartbeats 4000000 in
theorem specCurvesFit_any (rate : Int) (A : Option Addr) (n c : Nat) (xs : List SesV) (w : World) (hn : n ≤ 1048576) (hr : Rd w 7 A n (xs.flatMap encSes)) (hz : ∀ x ∈ xs, SZ w x) :
    Calls Try.prog 14 #[.slice A n c, .int .i64 rate] w fun e w' => e = .returned (.tuple #[.bool (cfV (sesOf xs) rate), .bool (cfB (sesOf xs) rate)]) ∧ Below w.heap.size w w' := by
  have hl : xs.length = n := by have h1 := hr.1; rw [flat_len encSes 7 encSes_len] at h1; omega
  have HL := Lib.hid hl
  clear hl
  obtain ⟨i0, hi, hz0, hz1, hz2⟩ := info_parts infoCurve
  cases h1 : listB xs with
  | false =>
    have h1' := (listB_eq xs).symm.trans h1
    have e0 : cfB (sesOf xs) rate = false := by simp [cfB, h1']
    unfold cfV
    rw [e0, Bool.false_and]
    clear e0
    go_enter Try.func14, Try.ntmps14
    go_wp2_with (first | (go_at_call 45; refine (hfList_any A n c xs w hn hr hz).mono ?_; rintro e w1 ⟨rfl, hb1⟩) | (go_at_call 46; refine (l1In_any _ _ _ _).mono ?_; rintro e w' ⟨rfl, rfl⟩))
    go_ret2
    exact ⟨rfl, hb1⟩
  | true =>
    have h1' := (listB_eq xs).symm.trans h1
    have hn6 : n ≤ 6 := by have h := list_len h1; rw [HL.out] at h; exact h
    have HG := Lib.hid (curves_good h1')
    cases h2 : inB rate 1 100000 with
    | false =>
      have e0 : cfB (sesOf xs) rate = false := by simp [cfB, h2]
      unfold cfV
      rw [e0, Bool.false_and]
      clear e0
      go_enter Try.func14, Try.ntmps14
      go_wp2_with (first | (go_at_call 45; refine (hfList_any A n c xs w hn hr hz).mono ?_; rintro e w1 ⟨rfl, hb1⟩) | (go_at_call 46; refine (l1In_any _ _ _ _).mono ?_; rintro e w' ⟨rfl, rfl⟩))
      go_ret2
      exact ⟨rfl, hb1⟩
    | true =>
      have hrt := inB_iff.1 h2
      have e0 : cfB (sesOf xs) rate = true := by simp [cfB, h1', h2]
      unfold cfV
      rw [e0, Bool.true_and]
      clear e0
      go_enter Try.func14, Try.ntmps14
      go_wp2_with (first | (go_at_call 45; refine (hfList_any A n c xs w hn hr hz).mono ?_; rintro e w1 ⟨rfl, hb1⟩) | (go_at_call 46; refine (l1In_any _ _ _ _).mono ?_; rintro e w' ⟨rfl, rfl⟩))
      go_loopw [6, 19] (CvRel w n (sesOf xs)) (fun _ i _ => n - (intOf i).toNat)
      case atStart => exact ⟨0, Nat.zero_le _, rfl, by simpa [curvesOf] using World.ownsRow_nil w1 w.heap.size 37 3, hb1⟩
      case round =>
        obtain ⟨k, hk, rfl, hO, hb⟩ := hrel
        by_cases hlt : k < n
        · 
          obtain ⟨b, o, rfl, hblb, hcellb⟩ := hr.2 (by omega)
          have hblrbx : b < wr.heap.size := Nat.lt_of_lt_of_le hblb hb.size
          have hlxx : k < xs.length := by rw [HL.out]; omega
          have hxx : xs[k]? = some xs[k] := List.getElem?_eq_getElem hlxx
          generalize xs[k] = x at hxx
          have q0 : wr.cell? ⟨b, o + (k * 7 + 0), none⟩ = some (.int .i64 x.f) := (hb.cell (p := ⟨b, o + (k * 7 + 0), none⟩) hblb).trans (hcellb _ _ ((flat_get encSes 7 encSes_len xs k 0 x hxx (by omega)).trans rfl))
          have q1 : wr.cell? ⟨b, o + (k * 7 + 1), none⟩ = some (.int .i64 x.l) := (hb.cell (p := ⟨b, o + (k * 7 + 1), none⟩) hblb).trans (hcellb _ _ ((flat_get encSes 7 encSes_len xs k 1 x hxx (by omega)).trans rfl))
          have q2 : wr.cell? ⟨b, o + (k * 7 + 2), none⟩ = some (.int .i64 x.s) := (hb.cell (p := ⟨b, o + (k * 7 + 2), none⟩) hblb).trans (hcellb _ _ ((flat_get encSes 7 encSes_len xs k 2 x hxx (by omega)).trans rfl))
          have q3 : wr.cell? ⟨b, o + (k * 7 + 3), none⟩ = some (.int .i64 x.st) := (hb.cell (p := ⟨b, o + (k * 7 + 3), none⟩) hblb).trans (hcellb _ _ ((flat_get encSes 7 encSes_len xs k 3 x hxx (by omega)).trans rfl))
          have q4 : wr.cell? ⟨b, o + (k * 7 + 4), none⟩ = some (.int .i64 x.ba) := (hb.cell (p := ⟨b, o + (k * 7 + 4), none⟩) hblb).trans (hcellb _ _ ((flat_get encSes 7 encSes_len xs k 4 x hxx (by omega)).trans rfl))
          have q5 : wr.cell? ⟨b, o + (k * 7 + 5), none⟩ = some (.int .i64 x.se) := (hb.cell (p := ⟨b, o + (k * 7 + 5), none⟩) hblb).trans (hcellb _ _ ((flat_get encSes 7 encSes_len xs k 5 x hxx (by omega)).trans rfl))
          have q6 : wr.cell? ⟨b, o + (k * 7 + 6), none⟩ = some (.slice x.A x.m x.c) := (hb.cell (p := ⟨b, o + (k * 7 + 6), none⟩) hblb).trans (hcellb _ _ ((flat_get encSes 7 encSes_len xs k 6 x hxx (by omega)).trans rfl))
          simp only [Nat.add_zero, ← Nat.add_assoc] at q0 q1 q2 q3 q4 q5 q6
          have HX := Lib.hid hxx
          clear hxx hlxx hcellb
          have HCS := Lib.hid (curves_snoc HX.out)
          have hsz0 := hb.size
          have zB := ext_alloc hb (.cells (List.toArray [.int .i64 x.f, .int .i64 x.l, .int .i64 x.s, .int .i64 x.st, .int .i64 x.ba, .int .i64 x.se, .slice x.A x.m x.c]) 39)
          have zC := ext_alloc zB (.cells (List.toArray [.int .i64 x.f, .int .i64 x.l, .int .i64 x.s]) 37)
          have oC := (hO.alloc (.cells (List.toArray [.int .i64 x.f, .int .i64 x.l, .int .i64 x.s, .int .i64 x.st, .int .i64 x.ba, .int .i64 x.se, .slice x.A x.m x.c]) 39)).alloc (.cells (List.toArray [.int .i64 x.f, .int .i64 x.l, .int .i64 x.s]) 37)
          have rC : Rd ((wr.alloc (.cells (List.toArray [.int .i64 x.f, .int .i64 x.l, .int .i64 x.s, .int .i64 x.st, .int .i64 x.ba, .int .i64 x.se, .slice x.A x.m x.c]) 39)).alloc (.cells (List.toArray [.int .i64 x.f, .int .i64 x.l, .int .i64 x.s]) 37)) 3 (some ⟨wr.heap.size + 1, 0, none⟩) 1 [.int .i64 x.f, .int .i64 x.l, .int .i64 x.s] := by have h := Rd.of_blk (n := 1) (size := 3) (Blk.new (wr.alloc (.cells (List.toArray [.int .i64 x.f, .int .i64 x.l, .int .i64 x.s, .int .i64 x.st, .int .i64 x.ba, .int .i64 x.se, .slice x.A x.m x.c]) 39)) 37 [.int .i64 x.f, .int .i64 x.l, .int .i64 x.s]) rfl; rw [World.size_alloc] at h; exact h
          go_wp2_with (at_builtin; refine wpList_append_rd (size := 3) (bytes := 24) (base := w.heap.size) rfl (.tmp 23) (.tmp 26) rfl Try.underlying62 hi hz0 hz1 hz2 rfl (by decide) rfl oC (some ⟨wr.heap.size + 1, 0, none⟩) 1 1 [.int .i64 x.f, .int .i64 x.l, .int .i64 x.s] rfl rC (by intro u hu; simp at hu; rcases hu with rfl | rfl | rfl <;> rfl) ?m1 ?m2 ?m3 ?_)
          all_goals first | (unfold maxLen; omega) | omega | exact zC.size | skip
          intro v' w3 o3 hg3
          have z3 := own_grown zC oC zC.size hg3
          have HO3 := Lib.hid o3
          clear o3 hg3 oC rC
          go_wp2_with fail
          go_roundw
          case rel =>
            have hr2 : CvRel w n (sesOf xs) v' (.int .i64 ((k : Int) + 1)) w3 := ⟨k + 1, by omega, by simp, by rw [HCS.out]; exact HO3.out, z3⟩
            first | exact hr2 | ((repeat apply Exists.intro); exact ⟨hr2, rfl⟩)
          case measure => simp [intOf]; omega
        · obtain rfl : k = n := by omega
          have HE := Lib.hid (show (sesOf xs).take k = sesOf xs from List.take_of_length_le (by unfold sesOf; rw [List.length_map, HL.out]; exact Nat.le_refl _))
          rw [HE.out] at hO
          obtain ⟨A3, c3, rfl⟩ := own_shape hO
          go_wp2_with fail
          refine (cuFits_any A3 k c3 (curvesOf (sesOf xs)) 0 0 rate _ (by omega) (Rd.of_own hO) HG.out (curB_iff.2 ⟨by omega, by omega, by omega⟩)).mono ?_; rintro e w4 ⟨rfl, hb4⟩
          go_wp2_with fail
          go_ret2
          exact ⟨rfl, ext_trans hb hb4⟩

end Go.Proofs.Ytgljelhglgeojaa