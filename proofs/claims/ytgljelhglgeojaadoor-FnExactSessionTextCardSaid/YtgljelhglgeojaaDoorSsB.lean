/- IsSession: contracts of the program's and the reference's; the law's walk. -/
import Derived.Test.YtgljelhglgeojaaDoorSsA
import Derived.Deep.RegionHeld3
namespace Go.Proofs.YtgljelhglgeojaaDoor
open Go.RowKit

set_option maxHeartbeats 400000 in
theorem isSize_any (n : Int) (w : World) :
    Calls Tryd.prog 25 #[.int .i64 n] w fun e w' => e = .returned (.bool (inB n 1 1500)) ∧ w = w' := by
  go_enter Tryd.func25, Tryd.ntmps25
  go_wp2
  all_goals (go_ret; simp [inB, *] <;> omega)

set_option maxHeartbeats 400000 in
theorem isTime_any (n : Int) (w : World) :
    Calls Tryd.prog 27 #[.int .i64 n] w fun e w' => e = .returned (.bool (inB n 0 100000)) ∧ w = w' := by
  go_enter Tryd.func27, Tryd.ntmps27
  go_wp2
  all_goals (go_ret; simp [inB, *] <;> omega)

set_option maxHeartbeats 400000 in
theorem cuTime_any (n : Int) (w : World) :
    Calls Tryd.prog 21 #[.int .i64 n] w fun e w' => e = .returned (.bool (inB n 0 100000)) ∧ w = w' := by
  go_enter Tryd.func21, Tryd.ntmps21
  go_wp2_with (go_at_call 22; refine (l1In_any _ _ _ _).mono ?_; rintro e w' ⟨rfl, rfl⟩)
  go_ret
  exact ⟨rfl, rfl⟩

set_option maxHeartbeats 1000000 in
theorem isCurve_any (f l s : Int) (w : World) :
    Calls Tryd.prog 26 #[.agg #[.int .i64 f, .int .i64 l, .int .i64 s]] w fun e w' => e = .returned (.bool (curB f l s)) ∧ Below w.heap.size w w' := by
  go_enter Tryd.func26, Tryd.ntmps26
  go_wp2
  all_goals (go_ret; refine ⟨ret_bool ?_, ext_alloc (ext_refl w) _⟩; unfold curB inB; simp [*] <;> omega)

set_option maxHeartbeats 1000000 in
theorem cuGood_any (f l s : Int) (w : World) :
    Calls Tryd.prog 20 #[.agg #[.int .i64 f, .int .i64 l, .int .i64 s]] w fun e w' => e = .returned (.bool (curB f l s)) ∧ Below w.heap.size w w' := by
  cases h1 : inB f 0 100000 with
  | false =>
    go_enter Tryd.func20, Tryd.ntmps20
    go_wp2_with (go_at_call 22; refine (l1In_any _ _ _ _).mono ?_; rintro e w' ⟨rfl, rfl⟩)
    go_ret
    exact ⟨ret_bool (by simp [curB, h1]), ext_alloc (ext_refl w) _⟩
  | true =>
    cases h2 : inB l 0 10000 with
    | false =>
      go_enter Tryd.func20, Tryd.ntmps20
      go_wp2_with (go_at_call 22; refine (l1In_any _ _ _ _).mono ?_; rintro e w' ⟨rfl, rfl⟩)
      go_ret
      exact ⟨ret_bool (by simp [curB, h2]), ext_alloc (ext_refl w) _⟩
    | true =>
      cases h3 : inB s 0 100000 with
      | false =>
        go_enter Tryd.func20, Tryd.ntmps20
        go_wp2_with (go_at_call 22; refine (l1In_any _ _ _ _).mono ?_; rintro e w' ⟨rfl, rfl⟩)
        go_ret
        exact ⟨ret_bool (by simp [curB, h1, h2, h3]), ext_alloc (ext_refl w) _⟩
      | true =>
        go_enter Tryd.func20, Tryd.ntmps20
        go_wp2_with (go_at_call 22; refine (l1In_any _ _ _ _).mono ?_; rintro e w' ⟨rfl, rfl⟩)
        go_ret
        exact ⟨ret_bool (by simp [curB, h1, h2, h3]), ext_alloc (ext_refl w) _⟩

set_option maxRecDepth 100000 in
set_option maxHeartbeats 4000000 in
theorem implIsSession_at (x : Ses) (A : Option Addr) (m c : Nat) (w : World) (hm : m ≤ 1048576) (hr : Rd w 1 A m (x.zs.map (Value.int .i64))) :
    Calls Tryd.prog 15 #[.agg #[.int .i64 x.f, .int .i64 x.l, .int .i64 x.s, .int .i64 x.st, .int .i64 x.ba, .int .i64 x.se, .slice A m c]] w fun e w' => e = .returned (.bool (sesB x)) ∧ Below w.heap.size w w' := by
  have hl := hr.len1
  have HL := Lib.hid hl
  have B0 := Blk.new w 32 [.int .i64 x.f, .int .i64 x.l, .int .i64 x.s, .int .i64 x.st, .int .i64 x.ba, .int .i64 x.se, .slice A m c]
  have z0 := ext_alloc (ext_refl w) (.cells (List.toArray [.int .i64 x.f, .int .i64 x.l, .int .i64 x.s, .int .i64 x.st, .int .i64 x.ba, .int .i64 x.se, .slice A m c]) 32)
  clear hl
  go_enter Tryd.func15, Tryd.ntmps15
  go_wp2_with fail
  go_loop [8] (AllRel m x.zs 1 1500) (fun i => m - (intOf i).toNat)
  case atStart => exact ⟨0, Nat.zero_le _, rfl, by simp⟩
  case round =>
    obtain ⟨k, hk, rfl, ha⟩ := hrel
    by_cases hlt : k < m
    · obtain ⟨b, o, z, rfl, hbl, hx, hc⟩ := hr.int k hlt
      have HX := Lib.hid hx
      have HA := Lib.hid ha
      clear hx ha
      cases hin : inB z 1 1500 with
      | false =>
        go_wp2_with (go_at_call 25; refine (isSize_any _ _).mono ?_; rintro e w' ⟨rfl, rfl⟩)
        go_ret
        exact ⟨ret_bool (by unfold sesB sizesB; rw [all_false HX.out hin]; rfl), z0⟩
      | true =>
        go_wp2_with (go_at_call 25; refine (isSize_any _ _).mono ?_; rintro e w' ⟨rfl, rfl⟩)
        go_round
        case rel => exact ⟨k + 1, by omega, by go_num, by rw [take_snoc HX.out, List.all_append, HA.out]; simp [hin]⟩
        case measure => simp [intOf]; omega
    · have hall : (x.zs.all fun z => inB z 1 1500) = true := by rw [List.take_of_length_le (by rw [HL.out]; omega)] at ha; exact ha
      have HS := Lib.hid (show sesB x = (curB x.f x.l x.s && inB x.st 0 100000 && inB x.ba 0 1000000 && inB x.se x.ba 1000000000 && decide (m ≤ 20)) by unfold sesB sizesB; rw [hall, HL.out]; rfl)
      clear ha hall
      cases hcu : curB x.f x.l x.s with
      | false =>
        go_wp2_with (first | (go_at_call 26; refine (isCurve_any _ _ _ _).mono ?_; rintro e w1 ⟨rfl, hb1⟩) | (go_at_call 27; refine (isTime_any _ _).mono ?_; rintro e w' ⟨rfl, rfl⟩))
        go_ret
        exact ⟨ret_bool (by rw [HS.out, hcu]; rfl), ext_trans z0 hb1⟩
      | true =>
        cases hti : inB x.st 0 100000 with
        | false =>
          go_wp2_with fail
          refine (isCurve_any _ _ _ _).mono ?_; rintro e w1 ⟨rfl, hb1⟩
          have B1 := B0.below hb1
          obtain ⟨y1, x1, c1, f1⟩ := B1.seven
          go_wp2_with (go_at_call 27; refine (isTime_any _ _).mono ?_; rintro e w' ⟨rfl, rfl⟩)
          go_ret
          exact ⟨ret_bool (by rw [HS.out, hcu, hti]; rfl), ext_trans z0 hb1⟩
        | true =>
          have HQ := Lib.hid (show sesB x = (inB x.ba 0 1000000 && inB x.se x.ba 1000000000 && decide (m ≤ 20)) by rw [HS.out, hcu, hti]; rfl)
          go_wp2_with fail
          refine (isCurve_any _ _ _ _).mono ?_; rintro e w1 ⟨rfl, hb1⟩
          have B1 := B0.below hb1
          have z1 := ext_trans z0 hb1
          obtain ⟨y1, x1, c1, f1⟩ := B1.seven
          rw [hcu]
          clear hcu hr
          go_wp2_with (go_at_call 27; refine (isTime_any _ _).mono ?_; rintro e w' ⟨rfl, rfl⟩)
          all_goals (go_ret; refine ⟨ret_bool ?_, z1⟩; rw [HQ.out]; unfold inB; rw [Bool.eq_iff_iff]; simp [*] <;> omega)

theorem implIsSession_any (x : SesV) (w : World) (hm : x.m ≤ 1048576) (hr : Rd w 1 x.A x.m (x.zs.map (Value.int .i64))) :
    Calls Tryd.prog 15 #[.agg #[.int .i64 x.f, .int .i64 x.l, .int .i64 x.s, .int .i64 x.st, .int .i64 x.ba, .int .i64 x.se, .slice x.A x.m x.c]] w fun e w' => e = .returned (.bool (sesB x.toSes)) ∧ Below w.heap.size w w' := implIsSession_at x.toSes x.A x.m x.c w hm hr

set_option maxRecDepth 100000 in
set_option maxHeartbeats 4000000 in
theorem hfGood_any (x : SesV) (w : World) (hm : x.m ≤ 1048576) (hr : Rd w 1 x.A x.m (x.zs.map (Value.int .i64))) :
    Calls Tryd.prog 10 #[.agg #[.int .i64 x.f, .int .i64 x.l, .int .i64 x.s, .int .i64 x.st, .int .i64 x.ba, .int .i64 x.se, .slice x.A x.m x.c]] w fun e w' => e = .returned (.bool (sesB x.toSes)) ∧ Below w.heap.size w w' := by
  have hl := hr.len1
  have HS := Lib.hid (show sesB x.toSes = (sizesB x.zs && curB x.f x.l x.s && inB x.st 0 100000 && inB x.ba 0 1000000 && inB x.se x.ba 1000000000 && decide ((x.m : Int) ≤ 20)) by unfold sesB; rw [hl]; congr 1; exact decide_eq_decide.2 (by omega))
  clear hl
  have B0 := Blk.new w 32 [.int .i64 x.f, .int .i64 x.l, .int .i64 x.s, .int .i64 x.st, .int .i64 x.ba, .int .i64 x.se, .slice x.A x.m x.c]
  have z0 := ext_alloc (ext_refl w) (.cells (List.toArray [.int .i64 x.f, .int .i64 x.l, .int .i64 x.s, .int .i64 x.st, .int .i64 x.ba, .int .i64 x.se, .slice x.A x.m x.c]) 32)
  cases h1 : curB x.f x.l x.s with
  | false =>
    go_enter Tryd.func10, Tryd.ntmps10
    go_wp2_with (first | (go_at_call 20; refine (cuGood_any _ _ _ _).mono ?_; rintro e w1 ⟨rfl, hb1⟩; have B1 := B0.below hb1; have z1 := ext_trans z0 hb1; have hr1 := hr.below z1; obtain ⟨y1, x1, c1, f1⟩ := B1.seven) | (go_at_call 21; refine (cuTime_any _ _).mono ?_; rintro e w' ⟨rfl, rfl⟩) | (go_at_call 22; refine (l1In_any _ _ _ _).mono ?_; rintro e w' ⟨rfl, rfl⟩) | (go_at_call 23; refine (l1All_any x.A x.m x.c x.zs 1 1500 _ hm hr1).mono ?_; rintro e w' ⟨rfl, rfl⟩))
    go_ret
    exact ⟨ret_bool (by rw [HS.out, h1]; simp), z1⟩
  | true =>
    cases h2 : inB x.st 0 100000 with
    | false =>
      go_enter Tryd.func10, Tryd.ntmps10
      go_wp2_with (first | (go_at_call 20; refine (cuGood_any _ _ _ _).mono ?_; rintro e w1 ⟨rfl, hb1⟩; have B1 := B0.below hb1; have z1 := ext_trans z0 hb1; have hr1 := hr.below z1; obtain ⟨y1, x1, c1, f1⟩ := B1.seven) | (go_at_call 21; refine (cuTime_any _ _).mono ?_; rintro e w' ⟨rfl, rfl⟩) | (go_at_call 22; refine (l1In_any _ _ _ _).mono ?_; rintro e w' ⟨rfl, rfl⟩) | (go_at_call 23; refine (l1All_any x.A x.m x.c x.zs 1 1500 _ hm hr1).mono ?_; rintro e w' ⟨rfl, rfl⟩))
      go_ret
      exact ⟨ret_bool (by rw [HS.out, h1, h2]; simp), z1⟩
    | true =>
      cases h3 : inB x.ba 0 1000000 with
      | false =>
        go_enter Tryd.func10, Tryd.ntmps10
        go_wp2_with (first | (go_at_call 20; refine (cuGood_any _ _ _ _).mono ?_; rintro e w1 ⟨rfl, hb1⟩; have B1 := B0.below hb1; have z1 := ext_trans z0 hb1; have hr1 := hr.below z1; obtain ⟨y1, x1, c1, f1⟩ := B1.seven) | (go_at_call 21; refine (cuTime_any _ _).mono ?_; rintro e w' ⟨rfl, rfl⟩) | (go_at_call 22; refine (l1In_any _ _ _ _).mono ?_; rintro e w' ⟨rfl, rfl⟩) | (go_at_call 23; refine (l1All_any x.A x.m x.c x.zs 1 1500 _ hm hr1).mono ?_; rintro e w' ⟨rfl, rfl⟩))
        go_ret
        exact ⟨ret_bool (by rw [HS.out, h1, h2, h3]; simp), z1⟩
      | true =>
        cases h4 : inB x.se x.ba 1000000000 with
        | false =>
          go_enter Tryd.func10, Tryd.ntmps10
          go_wp2_with (first | (go_at_call 20; refine (cuGood_any _ _ _ _).mono ?_; rintro e w1 ⟨rfl, hb1⟩; have B1 := B0.below hb1; have z1 := ext_trans z0 hb1; have hr1 := hr.below z1; obtain ⟨y1, x1, c1, f1⟩ := B1.seven) | (go_at_call 21; refine (cuTime_any _ _).mono ?_; rintro e w' ⟨rfl, rfl⟩) | (go_at_call 22; refine (l1In_any _ _ _ _).mono ?_; rintro e w' ⟨rfl, rfl⟩) | (go_at_call 23; refine (l1All_any x.A x.m x.c x.zs 1 1500 _ hm hr1).mono ?_; rintro e w' ⟨rfl, rfl⟩))
          go_ret
          exact ⟨ret_bool (by rw [HS.out, h1, h2, h3, h4]; simp), z1⟩
        | true =>
          cases h5 : decide ((x.m : Int) ≤ 20) with
          | false =>
            go_enter Tryd.func10, Tryd.ntmps10
            go_wp2_with (first | (go_at_call 20; refine (cuGood_any _ _ _ _).mono ?_; rintro e w1 ⟨rfl, hb1⟩; have B1 := B0.below hb1; have z1 := ext_trans z0 hb1; have hr1 := hr.below z1; obtain ⟨y1, x1, c1, f1⟩ := B1.seven) | (go_at_call 21; refine (cuTime_any _ _).mono ?_; rintro e w' ⟨rfl, rfl⟩) | (go_at_call 22; refine (l1In_any _ _ _ _).mono ?_; rintro e w' ⟨rfl, rfl⟩) | (go_at_call 23; refine (l1All_any x.A x.m x.c x.zs 1 1500 _ hm hr1).mono ?_; rintro e w' ⟨rfl, rfl⟩))
            go_ret
            exact ⟨ret_bool (by rw [HS.out, h1, h2, h3, h4, h5]; simp), z1⟩
          | true =>
            go_enter Tryd.func10, Tryd.ntmps10
            go_wp2_with (first | (go_at_call 20; refine (cuGood_any _ _ _ _).mono ?_; rintro e w1 ⟨rfl, hb1⟩; have B1 := B0.below hb1; have z1 := ext_trans z0 hb1; have hr1 := hr.below z1; obtain ⟨y1, x1, c1, f1⟩ := B1.seven) | (go_at_call 21; refine (cuTime_any _ _).mono ?_; rintro e w' ⟨rfl, rfl⟩) | (go_at_call 22; refine (l1In_any _ _ _ _).mono ?_; rintro e w' ⟨rfl, rfl⟩) | (go_at_call 23; refine (l1All_any x.A x.m x.c x.zs 1 1500 _ hm hr1).mono ?_; rintro e w' ⟨rfl, rfl⟩))
            go_ret
            exact ⟨ret_bool (by rw [HS.out, h1, h2, h3, h4, h5]; simp [sizesB]), z1⟩

end Go.Proofs.YtgljelhglgeojaaDoor