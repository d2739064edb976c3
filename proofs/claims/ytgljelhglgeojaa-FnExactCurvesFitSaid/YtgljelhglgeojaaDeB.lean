/- IsSession: contracts of the program's and the reference's; the law's walk. -/
import Derived.Test.YtgljelhglgeojaaDeA
import Derived.Deep.RegionHeld3
namespace Go.Proofs.Ytgljelhglgeojaa
open Go.RowKit

set_option maxHeartbeats 400000 in
theorem isSize_any (n : Int) (w : World) :
    Calls Try.prog 54 #[.int .i64 n] w fun e w' => e = .returned (.bool (inB n 1 1500)) ∧ w = w' := by
  go_enter Try.func54, Try.ntmps54
  go_wp2
  all_goals (go_ret; simp [inB, *] <;> omega)

set_option maxHeartbeats 400000 in
theorem isTime_any (n : Int) (w : World) :
    Calls Try.prog 56 #[.int .i64 n] w fun e w' => e = .returned (.bool (inB n 0 100000)) ∧ w = w' := by
  go_enter Try.func56, Try.ntmps56
  go_wp2
  all_goals (go_ret; simp [inB, *] <;> omega)

set_option maxHeartbeats 400000 in
theorem cuTime_any (n : Int) (w : World) :
    Calls Try.prog 61 #[.int .i64 n] w fun e w' => e = .returned (.bool (inB n 0 100000)) ∧ w = w' := by
  go_enter Try.func61, Try.ntmps61
  go_wp2_with (go_at_call 46; refine (l1In_any _ _ _ _).mono ?_; rintro e w' ⟨rfl, rfl⟩)
  go_ret
  exact ⟨rfl, rfl⟩

set_option maxHeartbeats 1000000 in
theorem isCurve_any (f l s : Int) (w : World) :
    Calls Try.prog 55 #[.agg #[.int .i64 f, .int .i64 l, .int .i64 s]] w fun e w' => e = .returned (.bool (curB f l s)) ∧ Below w.heap.size w w' := by
  go_enter Try.func55, Try.ntmps55
  go_wp2
  all_goals (go_ret; refine ⟨ret_bool ?_, ext_alloc (ext_refl w) _⟩; unfold curB inB; simp [*] <;> omega)

set_option maxHeartbeats 1000000 in
theorem cuGood_any (f l s : Int) (w : World) :
    Calls Try.prog 84 #[.agg #[.int .i64 f, .int .i64 l, .int .i64 s]] w fun e w' => e = .returned (.bool (curB f l s)) ∧ Below w.heap.size w w' := by
  cases h1 : inB f 0 100000 with
  | false =>
    go_enter Try.func84, Try.ntmps84
    go_wp2_with (go_at_call 46; refine (l1In_any _ _ _ _).mono ?_; rintro e w' ⟨rfl, rfl⟩)
    go_ret
    exact ⟨ret_bool (by simp [curB, h1]), ext_alloc (ext_refl w) _⟩
  | true =>
    cases h2 : inB l 0 10000 with
    | false =>
      go_enter Try.func84, Try.ntmps84
      go_wp2_with (go_at_call 46; refine (l1In_any _ _ _ _).mono ?_; rintro e w' ⟨rfl, rfl⟩)
      go_ret
      exact ⟨ret_bool (by simp [curB, h2]), ext_alloc (ext_refl w) _⟩
    | true =>
      cases h3 : inB s 0 100000 with
      | false =>
        go_enter Try.func84, Try.ntmps84
        go_wp2_with (go_at_call 46; refine (l1In_any _ _ _ _).mono ?_; rintro e w' ⟨rfl, rfl⟩)
        go_ret
        exact ⟨ret_bool (by simp [curB, h1, h2, h3]), ext_alloc (ext_refl w) _⟩
      | true =>
        go_enter Try.func84, Try.ntmps84
        go_wp2_with (go_at_call 46; refine (l1In_any _ _ _ _).mono ?_; rintro e w' ⟨rfl, rfl⟩)
        go_ret
        exact ⟨ret_bool (by simp [curB, h1, h2, h3]), ext_alloc (ext_refl w) _⟩

set_option maxRecDepth 100000 in
set_option maxHeartbeats 4000000 in
theorem implIsSession_at (x : Ses) (A : Option Addr) (m c : Nat) (w : World) (hm : m ≤ 1048576) (hr : Rd w 1 A m (x.zs.map (Value.int .i64))) :
    Calls Try.prog 21 #[.agg #[.int .i64 x.f, .int .i64 x.l, .int .i64 x.s, .int .i64 x.st, .int .i64 x.ba, .int .i64 x.se, .slice A m c]] w fun e w' => e = .returned (.bool (sesB x)) ∧ Below w.heap.size w w' := by
  have hl := hr.len1
  have HL := Lib.hid hl
  have B0 := Blk.new w 39 [.int .i64 x.f, .int .i64 x.l, .int .i64 x.s, .int .i64 x.st, .int .i64 x.ba, .int .i64 x.se, .slice A m c]
  have z0 := ext_alloc (ext_refl w) (.cells (List.toArray [.int .i64 x.f, .int .i64 x.l, .int .i64 x.s, .int .i64 x.st, .int .i64 x.ba, .int .i64 x.se, .slice A m c]) 39)
  clear hl
  go_enter Try.func21, Try.ntmps21
  go_wp2_with fail
  go_loop [8] (AllRel m x.zs 1 1500) (fun i => m - (intOf i).toNat)
  case atStart => exact ⟨0, Nat.zero_le _, rfl, by simp⟩
  case round =>
    obtain ⟨k, hk, rfl, ha⟩ := hrel
    by_cases hlt : k < m
    · obtain ⟨b, o, z, rfl, hbl, hx, hc⟩ := hr.int k hlt
      have HX := Lib.hid hx
      have HA := Lib.hid ha
      clear hx ha
      cases hin : inB z 1 1500 with
      | false =>
        go_wp2_with (go_at_call 54; refine (isSize_any _ _).mono ?_; rintro e w' ⟨rfl, rfl⟩)
        go_ret
        exact ⟨ret_bool (by unfold sesB sizesB; rw [all_false HX.out hin]; rfl), z0⟩
      | true =>
        go_wp2_with (go_at_call 54; refine (isSize_any _ _).mono ?_; rintro e w' ⟨rfl, rfl⟩)
        go_round
        case rel => exact ⟨k + 1, by omega, by go_num, by rw [take_snoc HX.out, List.all_append, HA.out]; simp [hin]⟩
        case measure => simp [intOf]; omega
    · have hall : (x.zs.all fun z => inB z 1 1500) = true := by rw [List.take_of_length_le (by rw [HL.out]; omega)] at ha; exact ha
      have HS := Lib.hid (show sesB x = (curB x.f x.l x.s && inB x.st 0 100000 && inB x.ba 0 1000000 && inB x.se x.ba 1000000000 && decide (m ≤ 20)) by unfold sesB sizesB; rw [hall, HL.out]; rfl)
      clear ha hall
      cases hcu : curB x.f x.l x.s with
      | false =>
        go_wp2_with (first | (go_at_call 55; refine (isCurve_any _ _ _ _).mono ?_; rintro e w1 ⟨rfl, hb1⟩) | (go_at_call 56; refine (isTime_any _ _).mono ?_; rintro e w' ⟨rfl, rfl⟩))
        go_ret
        exact ⟨ret_bool (by rw [HS.out, hcu]; rfl), ext_trans z0 hb1⟩
      | true =>
        cases hti : inB x.st 0 100000 with
        | false =>
          go_wp2_with fail
          refine (isCurve_any _ _ _ _).mono ?_; rintro e w1 ⟨rfl, hb1⟩
          have B1 := B0.below hb1
          obtain ⟨y1, x1, c1, f1⟩ := B1.seven
          go_wp2_with (go_at_call 56; refine (isTime_any _ _).mono ?_; rintro e w' ⟨rfl, rfl⟩)
          go_ret
          exact ⟨ret_bool (by rw [HS.out, hcu, hti]; rfl), ext_trans z0 hb1⟩
        | true =>
          have HQ := Lib.hid (show sesB x = (inB x.ba 0 1000000 && inB x.se x.ba 1000000000 && decide (m ≤ 20)) by rw [HS.out, hcu, hti]; rfl)
          go_wp2_with fail
          refine (isCurve_any _ _ _ _).mono ?_; rintro e w1 ⟨rfl, hb1⟩
          have B1 := B0.below hb1
          have z1 := ext_trans z0 hb1
          obtain ⟨y1, x1, c1, f1⟩ := B1.seven
          rw [hcu]
          clear hcu hr
          go_wp2_with (go_at_call 56; refine (isTime_any _ _).mono ?_; rintro e w' ⟨rfl, rfl⟩)
          all_goals (go_ret; refine ⟨ret_bool ?_, z1⟩; rw [HQ.out]; unfold inB; rw [Bool.eq_iff_iff]; simp [*] <;> omega)

theorem implIsSession_any (x : SesV) (w : World) (hm : x.m ≤ 1048576) (hr : Rd w 1 x.A x.m (x.zs.map (Value.int .i64))) :
    Calls Try.prog 21 #[.agg #[.int .i64 x.f, .int .i64 x.l, .int .i64 x.s, .int .i64 x.st, .int .i64 x.ba, .int .i64 x.se, .slice x.A x.m x.c]] w fun e w' => e = .returned (.bool (sesB x.toSes)) ∧ Below w.heap.size w w' := implIsSession_at x.toSes x.A x.m x.c w hm hr

set_option maxRecDepth 100000 in
set_option maxHeartbeats 4000000 in
theorem hfGood_any (x : SesV) (w : World) (hm : x.m ≤ 1048576) (hr : Rd w 1 x.A x.m (x.zs.map (Value.int .i64))) :
    Calls Try.prog 51 #[.agg #[.int .i64 x.f, .int .i64 x.l, .int .i64 x.s, .int .i64 x.st, .int .i64 x.ba, .int .i64 x.se, .slice x.A x.m x.c]] w fun e w' => e = .returned (.bool (sesB x.toSes)) ∧ Below w.heap.size w w' := by
  have hl := hr.len1
  have HS := Lib.hid (show sesB x.toSes = (sizesB x.zs && curB x.f x.l x.s && inB x.st 0 100000 && inB x.ba 0 1000000 && inB x.se x.ba 1000000000 && decide ((x.m : Int) ≤ 20)) by unfold sesB; rw [hl]; congr 1; exact decide_eq_decide.2 (by omega))
  clear hl
  have B0 := Blk.new w 39 [.int .i64 x.f, .int .i64 x.l, .int .i64 x.s, .int .i64 x.st, .int .i64 x.ba, .int .i64 x.se, .slice x.A x.m x.c]
  have z0 := ext_alloc (ext_refl w) (.cells (List.toArray [.int .i64 x.f, .int .i64 x.l, .int .i64 x.s, .int .i64 x.st, .int .i64 x.ba, .int .i64 x.se, .slice x.A x.m x.c]) 39)
  cases h1 : curB x.f x.l x.s with
  | false =>
    go_enter Try.func51, Try.ntmps51
    go_wp2_with (first | (go_at_call 84; refine (cuGood_any _ _ _ _).mono ?_; rintro e w1 ⟨rfl, hb1⟩; have B1 := B0.below hb1; have z1 := ext_trans z0 hb1; have hr1 := hr.below z1; obtain ⟨y1, x1, c1, f1⟩ := B1.seven) | (go_at_call 61; refine (cuTime_any _ _).mono ?_; rintro e w' ⟨rfl, rfl⟩) | (go_at_call 46; refine (l1In_any _ _ _ _).mono ?_; rintro e w' ⟨rfl, rfl⟩) | (go_at_call 85; refine (l1All_any x.A x.m x.c x.zs 1 1500 _ hm hr1).mono ?_; rintro e w' ⟨rfl, rfl⟩))
    go_ret
    exact ⟨ret_bool (by rw [HS.out, h1]; simp), z1⟩
  | true =>
    cases h2 : inB x.st 0 100000 with
    | false =>
      go_enter Try.func51, Try.ntmps51
      go_wp2_with (first | (go_at_call 84; refine (cuGood_any _ _ _ _).mono ?_; rintro e w1 ⟨rfl, hb1⟩; have B1 := B0.below hb1; have z1 := ext_trans z0 hb1; have hr1 := hr.below z1; obtain ⟨y1, x1, c1, f1⟩ := B1.seven) | (go_at_call 61; refine (cuTime_any _ _).mono ?_; rintro e w' ⟨rfl, rfl⟩) | (go_at_call 46; refine (l1In_any _ _ _ _).mono ?_; rintro e w' ⟨rfl, rfl⟩) | (go_at_call 85; refine (l1All_any x.A x.m x.c x.zs 1 1500 _ hm hr1).mono ?_; rintro e w' ⟨rfl, rfl⟩))
      go_ret
      exact ⟨ret_bool (by rw [HS.out, h1, h2]; simp), z1⟩
    | true =>
      cases h3 : inB x.ba 0 1000000 with
      | false =>
        go_enter Try.func51, Try.ntmps51
        go_wp2_with (first | (go_at_call 84; refine (cuGood_any _ _ _ _).mono ?_; rintro e w1 ⟨rfl, hb1⟩; have B1 := B0.below hb1; have z1 := ext_trans z0 hb1; have hr1 := hr.below z1; obtain ⟨y1, x1, c1, f1⟩ := B1.seven) | (go_at_call 61; refine (cuTime_any _ _).mono ?_; rintro e w' ⟨rfl, rfl⟩) | (go_at_call 46; refine (l1In_any _ _ _ _).mono ?_; rintro e w' ⟨rfl, rfl⟩) | (go_at_call 85; refine (l1All_any x.A x.m x.c x.zs 1 1500 _ hm hr1).mono ?_; rintro e w' ⟨rfl, rfl⟩))
        go_ret
        exact ⟨ret_bool (by rw [HS.out, h1, h2, h3]; simp), z1⟩
      | true =>
        cases h4 : inB x.se x.ba 1000000000 with
        | false =>
          go_enter Try.func51, Try.ntmps51
          go_wp2_with (first | (go_at_call 84; refine (cuGood_any _ _ _ _).mono ?_; rintro e w1 ⟨rfl, hb1⟩; have B1 := B0.below hb1; have z1 := ext_trans z0 hb1; have hr1 := hr.below z1; obtain ⟨y1, x1, c1, f1⟩ := B1.seven) | (go_at_call 61; refine (cuTime_any _ _).mono ?_; rintro e w' ⟨rfl, rfl⟩) | (go_at_call 46; refine (l1In_any _ _ _ _).mono ?_; rintro e w' ⟨rfl, rfl⟩) | (go_at_call 85; refine (l1All_any x.A x.m x.c x.zs 1 1500 _ hm hr1).mono ?_; rintro e w' ⟨rfl, rfl⟩))
          go_ret
          exact ⟨ret_bool (by rw [HS.out, h1, h2, h3, h4]; simp), z1⟩
        | true =>
          cases h5 : decide ((x.m : Int) ≤ 20) with
          | false =>
            go_enter Try.func51, Try.ntmps51
            go_wp2_with (first | (go_at_call 84; refine (cuGood_any _ _ _ _).mono ?_; rintro e w1 ⟨rfl, hb1⟩; have B1 := B0.below hb1; have z1 := ext_trans z0 hb1; have hr1 := hr.below z1; obtain ⟨y1, x1, c1, f1⟩ := B1.seven) | (go_at_call 61; refine (cuTime_any _ _).mono ?_; rintro e w' ⟨rfl, rfl⟩) | (go_at_call 46; refine (l1In_any _ _ _ _).mono ?_; rintro e w' ⟨rfl, rfl⟩) | (go_at_call 85; refine (l1All_any x.A x.m x.c x.zs 1 1500 _ hm hr1).mono ?_; rintro e w' ⟨rfl, rfl⟩))
            go_ret
            exact ⟨ret_bool (by rw [HS.out, h1, h2, h3, h4, h5]; simp), z1⟩
          | true =>
            go_enter Try.func51, Try.ntmps51
            go_wp2_with (first | (go_at_call 84; refine (cuGood_any _ _ _ _).mono ?_; rintro e w1 ⟨rfl, hb1⟩; have B1 := B0.below hb1; have z1 := ext_trans z0 hb1; have hr1 := hr.below z1; obtain ⟨y1, x1, c1, f1⟩ := B1.seven) | (go_at_call 61; refine (cuTime_any _ _).mono ?_; rintro e w' ⟨rfl, rfl⟩) | (go_at_call 46; refine (l1In_any _ _ _ _).mono ?_; rintro e w' ⟨rfl, rfl⟩) | (go_at_call 85; refine (l1All_any x.A x.m x.c x.zs 1 1500 _ hm hr1).mono ?_; rintro e w' ⟨rfl, rfl⟩))
            go_ret
            exact ⟨ret_bool (by rw [HS.out, h1, h2, h3, h4, h5]; simp [sizesB]), z1⟩

set_option maxHeartbeats 400000 in
theorem specIsSession_any (x : SesV) (w : World) (hm : x.m ≤ 1048576) (hr : Rd w 1 x.A x.m (x.zs.map (Value.int .i64))) :
    Calls Try.prog 19 #[.agg #[.int .i64 x.f, .int .i64 x.l, .int .i64 x.s, .int .i64 x.st, .int .i64 x.ba, .int .i64 x.se, .slice x.A x.m x.c]] w fun e w' => e = .returned (.bool (sesB x.toSes)) ∧ Below w.heap.size w w' := by
  go_enter Try.func19, Try.ntmps19
  go_wp2_with (go_at_call 51; refine (hfGood_any x _ hm (hr.below (ext_alloc (ext_refl w) _))).mono ?_; rintro e w1 ⟨rfl, hb1⟩)
  go_ret
  exact ⟨rfl, ext_trans (ext_alloc (ext_refl w) _) hb1⟩

set_option maxRecDepth 100000 in
set_option maxHeartbeats 4000000 in
theorem walkIsSession (x : SesV) (w : World) (hx : SRd w x) :
    Calls Try.prog 4 #[.agg #[.int .i64 x.f, .int .i64 x.l, .int .i64 x.s, .int .i64 x.st, .int .i64 x.ba, .int .i64 x.se, .slice x.A x.m x.c]] w fun e w' => e = .returned (.bool true) ∧ Below w.heap.size w w' := by
  have B0 := Blk.new w 34 [.int .i64 x.f, .int .i64 x.l, .int .i64 x.s, .int .i64 x.st, .int .i64 x.ba, .int .i64 x.se, .slice x.A x.m x.c]
  have z0 := ext_alloc (ext_refl w) (.cells (List.toArray [.int .i64 x.f, .int .i64 x.l, .int .i64 x.s, .int .i64 x.st, .int .i64 x.ba, .int .i64 x.se, .slice x.A x.m x.c]) 34)
  obtain ⟨hn, hr⟩ := hx
  by_cases hbig : 1048576 < x.m
  · go_enter Try.func4, Try.ntmps4
    go_wp2_with fail
    refine (szSession_any x _ _ hn (by omega) (by omega)).mono ?_; rintro e w1 ⟨rfl, hb1⟩
    rw [if_pos (by omega)]
    go_wp2_with fail
    go_ret
    exact ⟨rfl, ext_trans z0 hb1⟩
  have hm : x.m ≤ 1048576 := by omega
  have hs : (if (1048576 : Int) < (x.m : Int) then (-1 : Int) else 1048576 - x.m) = 1048576 - x.m := by { split <;> omega }
  have HS := Lib.hid hs
  clear hs
  go_enter Try.func4, Try.ntmps4
  go_wp2_with fail
  refine (szSession_any x _ _ hn (by omega) (by omega)).mono ?_; rintro e w1 ⟨rfl, hb1⟩
  rw [HS.out]
  have B1 := B0.below hb1
  have z1 := ext_trans z0 hb1
  clear B0 z0 hb1
  obtain ⟨y1, x1, c1, f1⟩ := B1.seven
  go_wp2_with fail
  refine (toSession_any x _ hm (hr.below z1)).mono ?_; rintro e w2 ⟨g2, rfl, ow2, hb2⟩
  have B2 := B1.below hb2
  have z2 := ext_trans z1 hb2
  clear y1 x1 c1 f1 B1 hb2 z1
  go_wp2_with fail
  refine (specIsSession_any ⟨x.toSes, some ⟨g2, 0, none⟩, x.m, x.m⟩ _ hm (Rd.of_own ow2)).mono ?_; rintro e w3 ⟨rfl, hb3⟩
  have B3 := B2.below hb3
  have z3 := ext_trans z2 hb3
  clear B2 hb3 z2 ow2
  obtain ⟨y3, x3, c3, f3⟩ := B3.seven
  go_wp2_with fail
  refine (toSession_any x _ hm (hr.below z3)).mono ?_; rintro e w4 ⟨g4, rfl, ow4, hb4⟩
  have X4 := Blk.new w4 39 [.int .i64 x.f, .int .i64 x.l, .int .i64 x.s, .int .i64 x.st, .int .i64 x.ba, .int .i64 x.se, .slice (some ⟨g4, 0, none⟩) x.m x.m]
  have B4 := (B3.below hb4).alloc (.cells (List.toArray [.int .i64 x.f, .int .i64 x.l, .int .i64 x.s, .int .i64 x.st, .int .i64 x.ba, .int .i64 x.se, .slice (some ⟨g4, 0, none⟩) x.m x.m]) 39)
  have z4 := ext_alloc (ext_trans z3 hb4) (.cells (List.toArray [.int .i64 x.f, .int .i64 x.l, .int .i64 x.s, .int .i64 x.st, .int .i64 x.ba, .int .i64 x.se, .slice (some ⟨g4, 0, none⟩) x.m x.m]) 39)
  have ow4a := ow4.alloc (.cells (List.toArray [.int .i64 x.f, .int .i64 x.l, .int .i64 x.s, .int .i64 x.st, .int .i64 x.ba, .int .i64 x.se, .slice (some ⟨g4, 0, none⟩) x.m x.m]) 39)
  clear y3 x3 c3 f3 B3 hb4 z3 ow4
  go_wp2_with fail
  refine (implIsSession_any ⟨x.toSes, some ⟨g4, 0, none⟩, x.m, x.m⟩ _ hm (Rd.of_own ow4a)).mono ?_; rintro e w5 ⟨rfl, hb5⟩
  have X5 := X4.below hb5
  have B5 := B4.below hb5
  have z5 := ext_trans z4 hb5
  have ow5 := own_ext ow4a hb5
  clear X4 B4 z4 ow4a hb5
  obtain ⟨y5, x5, c5, f5⟩ := B5.seven
  obtain ⟨y6, x6, c6, f6⟩ := X5.seven
  go_wp2_with fail
  go_region_held3 (fun w' => w'.cell? ⟨w.heap.size, 0, none⟩ = some (.int .i64 x.f) ∧ w'.cell? ⟨w.heap.size, 1, none⟩ = some (.int .i64 x.l) ∧ w'.cell? ⟨w.heap.size, 2, none⟩ = some (.int .i64 x.s) ∧ w'.cell? ⟨w.heap.size, 3, none⟩ = some (.int .i64 x.st) ∧ w'.cell? ⟨w.heap.size, 4, none⟩ = some (.int .i64 x.ba) ∧ w'.cell? ⟨w.heap.size, 5, none⟩ = some (.int .i64 x.se) ∧ w'.cell? ⟨w.heap.size, 6, none⟩ = some (.slice x.A x.m x.c) ∧ w'.cell? ⟨w4.heap.size, 0, none⟩ = some (.int .i64 x.f) ∧ w'.cell? ⟨w4.heap.size, 1, none⟩ = some (.int .i64 x.l) ∧ w'.cell? ⟨w4.heap.size, 2, none⟩ = some (.int .i64 x.s) ∧ w'.cell? ⟨w4.heap.size, 3, none⟩ = some (.int .i64 x.st) ∧ w'.cell? ⟨w4.heap.size, 4, none⟩ = some (.int .i64 x.ba) ∧ w'.cell? ⟨w4.heap.size, 5, none⟩ = some (.int .i64 x.se) ∧ w'.cell? ⟨w4.heap.size, 6, none⟩ = some (.slice (some ⟨g4, 0, none⟩) x.m x.m))
    (first | exact ⟨B7.cell 0, B7.cell 1, B7.cell 2, B7.cell 3, B7.cell 4, B7.cell 5, B7.cell 6, X7.cell 0, X7.cell 1, X7.cell 2, X7.cell 3, X7.cell 4, X7.cell 5, X7.cell 6⟩ | exact ⟨B6.cell 0, B6.cell 1, B6.cell 2, B6.cell 3, B6.cell 4, B6.cell 5, B6.cell 6, X6.cell 0, X6.cell 1, X6.cell 2, X6.cell 3, X6.cell 4, X6.cell 5, X6.cell 6⟩ | exact ⟨B5.drew.cell 0, B5.drew.cell 1, B5.drew.cell 2, B5.drew.cell 3, B5.drew.cell 4, B5.drew.cell 5, B5.drew.cell 6, X5.drew.cell 0, X5.drew.cell 1, X5.drew.cell 2, X5.drew.cell 3, X5.drew.cell 4, X5.drew.cell 5, X5.drew.cell 6⟩)
    (first | (go_at_call 20; refine (toSession_any x _ hm (hr.below z5.drew)).mono ?_; rintro e w6 ⟨g6, rfl, ow6, hb6⟩; have B6 := B5.drew.below hb6; have X6 := X5.drew.below hb6; have ow7 := own_ext ow5.drew hb6) | (go_at_call 22; refine (eqSession_same ⟨x.toSes, some ⟨g4, 0, none⟩, x.m, x.m⟩ (some ⟨g6, 0, none⟩) x.m _ hm (Rd.of_own ow7) (Rd.of_own ow6)).mono ?_; rintro e w7 ⟨rfl, hb7⟩; have B7 := B6.below hb7; have X7 := X6.below hb7))
  go_wp2_with fail
  go_ret
  exact ⟨rfl, ext_trans (ext_trans z5.drew hb6) hb7⟩

end Go.Proofs.Ytgljelhglgeojaa