/- Flows: contracts of IsFlow and ShiftFlow, the program's and the reference's; the laws' walks. -/
import Derived.Test.YtnnihiajggdplaaHelp
import Derived.Deep.RegionHeld3
namespace Go.Proofs.Ytnnihiajggdplaa
open Go.RowKit

def fp (b : Bool) (x : Int) : Int := if b then x else 0
def flowB (key src dst port mark start gap burst size : Int) : Bool := inB key 0 1000000000 && ([src, dst, port, mark] : List Int).all (fun x => inB x 0 65535) && inB start 0 10000 && inB gap 1 500 && inB burst 1 10 && inB size 1 1500
theorem flowB_iff {key src dst port mark start gap burst size : Int} : flowB key src dst port mark start gap burst size = true ↔ (0 ≤ key ∧ key ≤ 1000000000) ∧ (([src, dst, port, mark] : List Int).all (fun x => inB x 0 65535) = true) ∧ (0 ≤ start ∧ start ≤ 10000) ∧ (1 ≤ gap ∧ gap ≤ 500) ∧ (1 ≤ burst ∧ burst ≤ 10) ∧ (1 ≤ size ∧ size ≤ 1500) := by
  simp only [flowB, Bool.and_eq_true, inB_iff, and_assoc]

set_option maxHeartbeats 400000 in
theorem isSize_any (n : Int) (w : World) :
    Calls Try.prog 50 #[.int .i64 n] w fun e w' => e = .returned (.bool (inB n 1 1500)) ∧ w = w' := by
  go_enter Try.func50, Try.ntmps50
  go_wp2
  all_goals (go_ret; simp [inB, *] <;> omega)

set_option maxHeartbeats 400000 in
theorem isTicks_any (n : Int) (w : World) :
    Calls Try.prog 59 #[.int .i64 n] w fun e w' => e = .returned (.bool (inB n 0 100000)) ∧ w = w' := by
  go_enter Try.func59, Try.ntmps59
  go_wp2
  all_goals (go_ret; simp [inB, *] <;> omega)

set_option maxHeartbeats 400000 in
theorem tfTick_any (n : Int) (w : World) :
    Calls Try.prog 58 #[.int .i64 n] w fun e w' => e = .returned (.bool (inB n 0 100000)) ∧ w = w' := by
  go_enter Try.func58, Try.ntmps58
  go_wp2_with (go_at_call 55; refine (l1In_any _ _ _ _).mono ?_; rintro e w' ⟨rfl, rfl⟩)
  go_ret
  exact ⟨rfl, rfl⟩

set_option maxHeartbeats 4000000 in
theorem implIsFlow_any (key src dst port mark start gap burst size : Int) (w : World) :
    Calls Try.prog 15 #[.agg #[.int .i64 key, .int .i64 src, .int .i64 dst, .int .i64 port, .int .i64 mark, .int .i64 start, .int .i64 gap, .int .i64 burst, .int .i64 size]] w fun e w' => e = .returned (.bool (flowB key src dst port mark start gap burst size)) ∧ Below w.heap.size w w' := by
  have b0 := Blk.new w 25 [.int .i64 key, .int .i64 src, .int .i64 dst, .int .i64 port, .int .i64 mark, .int .i64 start, .int .i64 gap, .int .i64 burst, .int .i64 size]
  obtain ⟨y0, x0, c0, f0⟩ := b0.nine
  go_enter Try.func15, Try.ntmps15
  go_wp2_with fail
  go_loop [14] (AllRel 4 [src, dst, port, mark] 0 65535) (fun i => 4 - (intOf i).toNat)
  case atStart => exact ⟨0, Nat.zero_le _, rfl, by simp⟩
  case round =>
    obtain ⟨k, hk, rfl, ha⟩ := hrel
    by_cases hlt : k < 4
    · obtain ⟨y, hy, hx⟩ : ∃ y, (∀ W, (Instr.index 68 (.agg #[.int .i64 src, .int .i64 dst, .int .i64 port, .int .i64 mark]) (.int .i64 (k : Int))).run Try.prog W = .ok (.int .i64 y) W) ∧ ([src, dst, port, mark] : List Int)[k]? = some y := by
        match k, hlt with
        | 0, _ => exact ⟨src, fun _ => by kernel_rfl, rfl⟩
        | 1, _ => exact ⟨dst, fun _ => by kernel_rfl, rfl⟩
        | 2, _ => exact ⟨port, fun _ => by kernel_rfl, rfl⟩
        | 3, _ => exact ⟨mark, fun _ => by kernel_rfl, rfl⟩
      have HX := Lib.hid hx
      have HA := Lib.hid ha
      clear hx ha
      by_cases h0 : y < 0
      · have HI := Lib.hid (show inB y 0 65535 = false by simp [inB]; omega)
        go_wp2_with fail
        go_ret
        exact ⟨ret_bool (by rw [flowB, all_false HX.out HI.out]; simp), ext_alloc (ext_refl w) _⟩
      · by_cases h1 : 65535 < y
        · have HI := Lib.hid (show inB y 0 65535 = false by simp [inB]; omega)
          go_wp2_with fail
          go_ret
          exact ⟨ret_bool (by rw [flowB, all_false HX.out HI.out]; simp), ext_alloc (ext_refl w) _⟩
        · have HI := Lib.hid (show inB y 0 65535 = true by simp [inB]; omega)
          go_wp2_with fail
          go_round
          case rel => exact ⟨k + 1, by omega, by go_num, by rw [take_snoc HX.out, List.all_append, HA.out]; simp [HI.out]⟩
          case measure => simp [intOf]; omega
    · have HA := Lib.hid (show (([src, dst, port, mark] : List Int).all fun x => inB x 0 65535) = true by rw [List.take_of_length_le (by simp; omega)] at ha; exact ha)
      clear ha
      cases hz : inB size 1 1500 with
      | false =>
        go_wp2_with (go_at_call 50; refine (isSize_any _ _).mono ?_; rintro e w' ⟨rfl, rfl⟩)
        all_goals (go_ret; refine ⟨ret_bool ?_, ext_alloc (ext_refl w) _⟩; rw [flowB, HA.out, hz]; simp)
      | true =>
        go_wp2_with (go_at_call 50; refine (isSize_any _ _).mono ?_; rintro e w' ⟨rfl, rfl⟩)
        all_goals (go_ret; refine ⟨ret_bool ?_, ext_alloc (ext_refl w) _⟩; rw [flowB, HA.out, hz]; simp [inB] <;> omega)

set_option maxHeartbeats 4000000 in
theorem tfGood_any (key src dst port mark start gap burst size : Int) (w : World) :
    Calls Try.prog 49 #[.agg #[.int .i64 key, .int .i64 src, .int .i64 dst, .int .i64 port, .int .i64 mark, .int .i64 start, .int .i64 gap, .int .i64 burst, .int .i64 size]] w fun e w' => e = .returned (.bool (flowB key src dst port mark start gap burst size)) ∧ Below w.heap.size w w' := by
  have b0 := Blk.new w 25 [.int .i64 key, .int .i64 src, .int .i64 dst, .int .i64 port, .int .i64 mark, .int .i64 start, .int .i64 gap, .int .i64 burst, .int .i64 size]
  cases h1 : inB key 0 1000000000 with
  | false =>
    go_enter Try.func49, Try.ntmps49
    go_wp2_with (go_at_call 55; refine (l1In_any _ _ _ _).mono ?_; rintro e w' ⟨rfl, rfl⟩)
    go_ret
    exact ⟨ret_bool (by simp [flowB, h1]), ext_alloc (ext_refl w) _⟩
  | true =>
    have hB : Blk ((w.alloc (.cells (List.toArray [.int .i64 key, .int .i64 src, .int .i64 dst, .int .i64 port, .int .i64 mark, .int .i64 start, .int .i64 gap, .int .i64 burst, .int .i64 size]) 25)).alloc (.cells (List.toArray [.int .i64 src, .int .i64 dst, .int .i64 port, .int .i64 mark]) 3)) (w.heap.size + 1) 3 (([src, dst, port, mark] : List Int).map (Value.int .i64)) := by have h := Blk.new (w.alloc (.cells (List.toArray [.int .i64 key, .int .i64 src, .int .i64 dst, .int .i64 port, .int .i64 mark, .int .i64 start, .int .i64 gap, .int .i64 burst, .int .i64 size]) 25)) 3 (([src, dst, port, mark] : List Int).map (Value.int .i64)); rw [World.size_alloc] at h; exact h
    have hR := Rd.of_blk (size := 1) (n := 4) hB rfl
    cases hall : ([src, dst, port, mark] : List Int).all (fun x => inB x 0 65535) with
    | false =>
      have HALL := Lib.hid hall
      clear hall
      go_enter Try.func49, Try.ntmps49
      go_wp2_with (first | (go_at_call 55; refine (l1In_any _ _ _ _).mono ?_; rintro e w' ⟨rfl, rfl⟩) | (go_at_call 76; refine (l1All_any _ 4 _ [src, dst, port, mark] _ _ _ (by omega) hR).mono ?_; rintro e w' ⟨rfl, rfl⟩; rw [HALL.out]))
      go_ret
      exact ⟨ret_bool (by rw [flowB, HALL.out]; simp), ext_alloc (ext_alloc (ext_refl w) _) _⟩
    | true =>
      have HALL := Lib.hid hall
      clear hall
      go_enter Try.func49, Try.ntmps49
      go_wp2_with (first | (go_at_call 55; refine (l1In_any _ _ _ _).mono ?_; rintro e w' ⟨rfl, rfl⟩) | (go_at_call 76; refine (l1All_any _ 4 _ [src, dst, port, mark] _ _ _ (by omega) hR).mono ?_; rintro e w' ⟨rfl, rfl⟩; rw [HALL.out]))
      all_goals (go_ret; refine ⟨ret_bool ?_, ext_alloc (ext_alloc (ext_refl w) _) _⟩; rw [flowB, HALL.out]; simp [*])

set_option maxHeartbeats 400000 in
theorem specIsFlow_any (key src dst port mark start gap burst size : Int) (w : World) :
    Calls Try.prog 13 #[.agg #[.int .i64 key, .int .i64 src, .int .i64 dst, .int .i64 port, .int .i64 mark, .int .i64 start, .int .i64 gap, .int .i64 burst, .int .i64 size]] w fun e w' => e = .returned (.bool (flowB key src dst port mark start gap burst size)) ∧ Below w.heap.size w w' := by
  go_enter Try.func13, Try.ntmps13
  go_wp2_with fail
  refine (tfGood_any _ _ _ _ _ _ _ _ _ _).mono ?_; rintro e w1 ⟨rfl, hb1⟩
  go_wp2_with fail
  go_ret
  exact ⟨rfl, ext_trans (ext_alloc (ext_refl w) _) hb1⟩

def shiftB (key src dst port mark start gap burst size t : Int) : Bool := flowB key src dst port mark start gap burst size && inB t 0 100000 && flowB key src dst port mark (start + t) gap burst size
theorem shiftB_long {key src dst port mark start gap burst size t : Int} (h1 : flowB key src dst port mark start gap burst size = true) (h2 : inB t 0 100000 = true) : shiftB key src dst port mark start gap burst size t = decide (start + t ≤ 10000) := by
  have h3 := h1
  simp only [flowB, Bool.and_eq_true] at h1
  obtain ⟨t0, t1⟩ := inB_iff.1 h2
  obtain ⟨s0, s1⟩ := inB_iff.1 h1.1.1.1.2
  rw [Bool.eq_iff_iff]
  rw [shiftB, h3, h2]
  simp only [flowB, h1.1.1.1.1.1, h1.1.1.1.1.2, h1.1.1.2, h1.1.2, h1.2, Bool.and_true, Bool.true_and, inB_iff, decide_eq_true_eq]
  omega

set_option maxHeartbeats 4000000 in
theorem specShiftFlow_any (key src dst port mark start gap burst size t : Int) (w : World) :
    Calls Try.prog 22 #[.agg #[.int .i64 key, .int .i64 src, .int .i64 dst, .int .i64 port, .int .i64 mark, .int .i64 start, .int .i64 gap, .int .i64 burst, .int .i64 size], .int .i64 t] w fun e w' => e = .returned (.tuple #[.agg #[.int .i64 (fp (shiftB key src dst port mark start gap burst size t) key), .int .i64 (fp (shiftB key src dst port mark start gap burst size t) src), .int .i64 (fp (shiftB key src dst port mark start gap burst size t) dst), .int .i64 (fp (shiftB key src dst port mark start gap burst size t) port), .int .i64 (fp (shiftB key src dst port mark start gap burst size t) mark), .int .i64 (fp (shiftB key src dst port mark start gap burst size t) (start + t)), .int .i64 (fp (shiftB key src dst port mark start gap burst size t) gap), .int .i64 (fp (shiftB key src dst port mark start gap burst size t) burst), .int .i64 (fp (shiftB key src dst port mark start gap burst size t) size)], .bool (shiftB key src dst port mark start gap burst size t)]) ∧ Below w.heap.size w w' := by
  have b0 : Blk ((w.alloc (.cells (List.toArray [.int .i64 key, .int .i64 src, .int .i64 dst, .int .i64 port, .int .i64 mark, .int .i64 start, .int .i64 gap, .int .i64 burst, .int .i64 size]) 25)).alloc (.cells (List.toArray [.int .i64 0, .int .i64 0, .int .i64 0, .int .i64 0, .int .i64 0, .int .i64 0, .int .i64 0, .int .i64 0, .int .i64 0]) 25)) w.heap.size 25 [.int .i64 key, .int .i64 src, .int .i64 dst, .int .i64 port, .int .i64 mark, .int .i64 start, .int .i64 gap, .int .i64 burst, .int .i64 size] := (Blk.new w _ _).alloc _
  have br0 : Blk ((w.alloc (.cells (List.toArray [.int .i64 key, .int .i64 src, .int .i64 dst, .int .i64 port, .int .i64 mark, .int .i64 start, .int .i64 gap, .int .i64 burst, .int .i64 size]) 25)).alloc (.cells (List.toArray [.int .i64 0, .int .i64 0, .int .i64 0, .int .i64 0, .int .i64 0, .int .i64 0, .int .i64 0, .int .i64 0, .int .i64 0]) 25)) (w.heap.size + 1) 25 [.int .i64 0, .int .i64 0, .int .i64 0, .int .i64 0, .int .i64 0, .int .i64 0, .int .i64 0, .int .i64 0, .int .i64 0] := by have h := Blk.new (w.alloc (.cells (List.toArray [.int .i64 key, .int .i64 src, .int .i64 dst, .int .i64 port, .int .i64 mark, .int .i64 start, .int .i64 gap, .int .i64 burst, .int .i64 size]) 25)) 25 [.int .i64 0, .int .i64 0, .int .i64 0, .int .i64 0, .int .i64 0, .int .i64 0, .int .i64 0, .int .i64 0, .int .i64 0]; rwa [World.size_alloc] at h
  have z0 : Below w.heap.size w ((w.alloc (.cells (List.toArray [.int .i64 key, .int .i64 src, .int .i64 dst, .int .i64 port, .int .i64 mark, .int .i64 start, .int .i64 gap, .int .i64 burst, .int .i64 size]) 25)).alloc (.cells (List.toArray [.int .i64 0, .int .i64 0, .int .i64 0, .int .i64 0, .int .i64 0, .int .i64 0, .int .i64 0, .int .i64 0, .int .i64 0]) 25)) := ext_alloc (ext_alloc (ext_refl w) _) _
  cases h1 : flowB key src dst port mark start gap burst size with
  | false =>
    have hsh : shiftB key src dst port mark start gap burst size t = false := by simp [shiftB, h1]
    rw [hsh]
    have hf : ∀ x, fp false x = 0 := fun x => rfl
    simp only [hf]
    clear hf
    go_enter Try.func22, Try.ntmps22
    go_wp2_with fail
    refine (tfGood_any _ _ _ _ _ _ _ _ _ _).mono ?_; rintro e w1 ⟨rfl, hb1⟩
    have b1 := b0.below hb1
    have br1 := br0.below hb1
    have z1 := ext_trans z0 hb1
    clear hb1
    obtain ⟨y1, x1, c1, f1⟩ := b1.nine
    obtain ⟨y2, x2, c2, f2⟩ := br1.nine
    go_wp2_with (go_at_call 58; refine (tfTick_any _ _).mono ?_; rintro e w' ⟨rfl, rfl⟩)
    exact bodyPost_ret (v := .tuple #[.agg #[.int .i64 0, .int .i64 0, .int .i64 0, .int .i64 0, .int .i64 0, .int .i64 0, .int .i64 0, .int .i64 0, .int .i64 0], .bool false]) (res_cell2 Try.results22 _ rfl (((((((((br1.set_ 0 (.int .i64 0)).set_ 1 (.int .i64 0)).set_ 2 (.int .i64 0)).set_ 3 (.int .i64 0)).set_ 4 (.int .i64 0)).set_ 5 (.int .i64 0)).set_ 6 (.int .i64 0)).set_ 7 (.int .i64 0)).set_ 8 (.int .i64 0)) Try.underlying25 rfl (by kernel_rfl)) rfl ⟨rfl, (((((((((z1.setCell (p := ⟨w.heap.size + 1, 0, none⟩) (by simp) (.int .i64 0)).setCell (p := ⟨w.heap.size + 1, 1, none⟩) (by simp) (.int .i64 0)).setCell (p := ⟨w.heap.size + 1, 2, none⟩) (by simp) (.int .i64 0)).setCell (p := ⟨w.heap.size + 1, 3, none⟩) (by simp) (.int .i64 0)).setCell (p := ⟨w.heap.size + 1, 4, none⟩) (by simp) (.int .i64 0)).setCell (p := ⟨w.heap.size + 1, 5, none⟩) (by simp) (.int .i64 0)).setCell (p := ⟨w.heap.size + 1, 6, none⟩) (by simp) (.int .i64 0)).setCell (p := ⟨w.heap.size + 1, 7, none⟩) (by simp) (.int .i64 0)).setCell (p := ⟨w.heap.size + 1, 8, none⟩) (by simp) (.int .i64 0))⟩
  | true =>
    cases h2 : inB t 0 100000 with
    | false =>
      have hsh : shiftB key src dst port mark start gap burst size t = false := by simp [shiftB, h2]
      rw [hsh]
      have hf : ∀ x, fp false x = 0 := fun x => rfl
      simp only [hf]
      clear hf
      go_enter Try.func22, Try.ntmps22
      go_wp2_with fail
      refine (tfGood_any _ _ _ _ _ _ _ _ _ _).mono ?_; rintro e w1 ⟨rfl, hb1⟩
      have b1 := b0.below hb1
      have br1 := br0.below hb1
      have z1 := ext_trans z0 hb1
      clear hb1
      obtain ⟨y1, x1, c1, f1⟩ := b1.nine
      obtain ⟨y2, x2, c2, f2⟩ := br1.nine
      go_wp2_with (go_at_call 58; refine (tfTick_any _ _).mono ?_; rintro e w' ⟨rfl, rfl⟩)
      exact bodyPost_ret (v := .tuple #[.agg #[.int .i64 0, .int .i64 0, .int .i64 0, .int .i64 0, .int .i64 0, .int .i64 0, .int .i64 0, .int .i64 0, .int .i64 0], .bool false]) (res_cell2 Try.results22 _ rfl (((((((((br1.set_ 0 (.int .i64 0)).set_ 1 (.int .i64 0)).set_ 2 (.int .i64 0)).set_ 3 (.int .i64 0)).set_ 4 (.int .i64 0)).set_ 5 (.int .i64 0)).set_ 6 (.int .i64 0)).set_ 7 (.int .i64 0)).set_ 8 (.int .i64 0)) Try.underlying25 rfl (by kernel_rfl)) rfl ⟨rfl, (((((((((z1.setCell (p := ⟨w.heap.size + 1, 0, none⟩) (by simp) (.int .i64 0)).setCell (p := ⟨w.heap.size + 1, 1, none⟩) (by simp) (.int .i64 0)).setCell (p := ⟨w.heap.size + 1, 2, none⟩) (by simp) (.int .i64 0)).setCell (p := ⟨w.heap.size + 1, 3, none⟩) (by simp) (.int .i64 0)).setCell (p := ⟨w.heap.size + 1, 4, none⟩) (by simp) (.int .i64 0)).setCell (p := ⟨w.heap.size + 1, 5, none⟩) (by simp) (.int .i64 0)).setCell (p := ⟨w.heap.size + 1, 6, none⟩) (by simp) (.int .i64 0)).setCell (p := ⟨w.heap.size + 1, 7, none⟩) (by simp) (.int .i64 0)).setCell (p := ⟨w.heap.size + 1, 8, none⟩) (by simp) (.int .i64 0))⟩
    | true =>
      have hlong := shiftB_long h1 h2
      have hfb := flowB_iff.1 h1
      obtain ⟨s0, s1⟩ := hfb.2.2.1
      obtain ⟨t0, t1⟩ := inB_iff.1 h2
      have HB := Lib.hid (show flowB key src dst port mark (start + t) gap burst size = shiftB key src dst port mark start gap burst size t by simp [shiftB, h1, h2])
      clear hfb
      by_cases hs : start + t ≤ 10000
      · have hsh : shiftB key src dst port mark start gap burst size t = true := by rw [hlong]; simpa using hs
        rw [hsh] at HB
        clear hlong
        rw [hsh]
        have hf : ∀ x, fp true x = x := fun x => rfl
        simp only [hf]
        clear hf
        go_enter Try.func22, Try.ntmps22
        go_wp2_with fail
        refine (tfGood_any _ _ _ _ _ _ _ _ _ _).mono ?_; rintro e w1 ⟨rfl, hb1⟩
        have b1 := b0.below hb1
        have br1 := br0.below hb1
        have z1 := ext_trans z0 hb1
        clear hb1
        obtain ⟨y1, x1, c1, f1⟩ := b1.nine
        obtain ⟨y2, x2, c2, f2⟩ := br1.nine
        go_wp2_with (go_at_call 58; refine (tfTick_any _ _).mono ?_; rintro e w' ⟨rfl, rfl⟩)
        exact bodyPost_ret (v := .tuple #[.agg #[.int .i64 key, .int .i64 src, .int .i64 dst, .int .i64 port, .int .i64 mark, .int .i64 (start + t), .int .i64 gap, .int .i64 burst, .int .i64 size], .bool true]) (res_cell2 Try.results22 _ rfl ((((((((((br1.far (p := ⟨w.heap.size, 5, none⟩) (by simp) (.int .i64 (start + t))).set_ 0 (.int .i64 key)).set_ 1 (.int .i64 src)).set_ 2 (.int .i64 dst)).set_ 3 (.int .i64 port)).set_ 4 (.int .i64 mark)).set_ 5 (.int .i64 (start + t))).set_ 6 (.int .i64 gap)).set_ 7 (.int .i64 burst)).set_ 8 (.int .i64 size)) Try.underlying25 rfl (by kernel_rfl)) rfl ⟨rfl, ((((((((((z1.setCell (p := ⟨w.heap.size, 5, none⟩) (by simp) (.int .i64 (start + t))).setCell (p := ⟨w.heap.size + 1, 0, none⟩) (by simp) (.int .i64 key)).setCell (p := ⟨w.heap.size + 1, 1, none⟩) (by simp) (.int .i64 src)).setCell (p := ⟨w.heap.size + 1, 2, none⟩) (by simp) (.int .i64 dst)).setCell (p := ⟨w.heap.size + 1, 3, none⟩) (by simp) (.int .i64 port)).setCell (p := ⟨w.heap.size + 1, 4, none⟩) (by simp) (.int .i64 mark)).setCell (p := ⟨w.heap.size + 1, 5, none⟩) (by simp) (.int .i64 (start + t))).setCell (p := ⟨w.heap.size + 1, 6, none⟩) (by simp) (.int .i64 gap)).setCell (p := ⟨w.heap.size + 1, 7, none⟩) (by simp) (.int .i64 burst)).setCell (p := ⟨w.heap.size + 1, 8, none⟩) (by simp) (.int .i64 size))⟩
      · have hsh : shiftB key src dst port mark start gap burst size t = false := by rw [hlong]; simpa using hs
        rw [hsh] at HB
        have hgt : 10000 < start + t := by omega
        clear hlong
        rw [hsh]
        have hf : ∀ x, fp false x = 0 := fun x => rfl
        simp only [hf]
        clear hf
        go_enter Try.func22, Try.ntmps22
        go_wp2_with fail
        refine (tfGood_any _ _ _ _ _ _ _ _ _ _).mono ?_; rintro e w1 ⟨rfl, hb1⟩
        have b1 := b0.below hb1
        have br1 := br0.below hb1
        have z1 := ext_trans z0 hb1
        clear hb1
        obtain ⟨y1, x1, c1, f1⟩ := b1.nine
        obtain ⟨y2, x2, c2, f2⟩ := br1.nine
        go_wp2_with (go_at_call 58; refine (tfTick_any _ _).mono ?_; rintro e w' ⟨rfl, rfl⟩)
        exact bodyPost_ret (v := .tuple #[.agg #[.int .i64 0, .int .i64 0, .int .i64 0, .int .i64 0, .int .i64 0, .int .i64 0, .int .i64 0, .int .i64 0, .int .i64 0], .bool false]) (res_cell2 Try.results22 _ rfl (((((((((br1.set_ 0 (.int .i64 0)).set_ 1 (.int .i64 0)).set_ 2 (.int .i64 0)).set_ 3 (.int .i64 0)).set_ 4 (.int .i64 0)).set_ 5 (.int .i64 0)).set_ 6 (.int .i64 0)).set_ 7 (.int .i64 0)).set_ 8 (.int .i64 0)) Try.underlying25 rfl (by kernel_rfl)) rfl ⟨rfl, (((((((((z1.setCell (p := ⟨w.heap.size + 1, 0, none⟩) (by simp) (.int .i64 0)).setCell (p := ⟨w.heap.size + 1, 1, none⟩) (by simp) (.int .i64 0)).setCell (p := ⟨w.heap.size + 1, 2, none⟩) (by simp) (.int .i64 0)).setCell (p := ⟨w.heap.size + 1, 3, none⟩) (by simp) (.int .i64 0)).setCell (p := ⟨w.heap.size + 1, 4, none⟩) (by simp) (.int .i64 0)).setCell (p := ⟨w.heap.size + 1, 5, none⟩) (by simp) (.int .i64 0)).setCell (p := ⟨w.heap.size + 1, 6, none⟩) (by simp) (.int .i64 0)).setCell (p := ⟨w.heap.size + 1, 7, none⟩) (by simp) (.int .i64 0)).setCell (p := ⟨w.heap.size + 1, 8, none⟩) (by simp) (.int .i64 0))⟩

set_option maxHeartbeats 4000000 in
theorem implShiftFlow_any (key src dst port mark start gap burst size t : Int) (w : World) :
    Calls Try.prog 23 #[.agg #[.int .i64 key, .int .i64 src, .int .i64 dst, .int .i64 port, .int .i64 mark, .int .i64 start, .int .i64 gap, .int .i64 burst, .int .i64 size], .int .i64 t] w fun e w' => e = .returned (.tuple #[.agg #[.int .i64 (fp (shiftB key src dst port mark start gap burst size t) key), .int .i64 (fp (shiftB key src dst port mark start gap burst size t) src), .int .i64 (fp (shiftB key src dst port mark start gap burst size t) dst), .int .i64 (fp (shiftB key src dst port mark start gap burst size t) port), .int .i64 (fp (shiftB key src dst port mark start gap burst size t) mark), .int .i64 (fp (shiftB key src dst port mark start gap burst size t) (start + t)), .int .i64 (fp (shiftB key src dst port mark start gap burst size t) gap), .int .i64 (fp (shiftB key src dst port mark start gap burst size t) burst), .int .i64 (fp (shiftB key src dst port mark start gap burst size t) size)], .bool (shiftB key src dst port mark start gap burst size t)]) ∧ Below w.heap.size w w' := by
  have b0 : Blk ((w.alloc (.cells (List.toArray [.int .i64 key, .int .i64 src, .int .i64 dst, .int .i64 port, .int .i64 mark, .int .i64 start, .int .i64 gap, .int .i64 burst, .int .i64 size]) 25)).alloc (.cells (List.toArray [.int .i64 0, .int .i64 0, .int .i64 0, .int .i64 0, .int .i64 0, .int .i64 0, .int .i64 0, .int .i64 0, .int .i64 0]) 25)) w.heap.size 25 [.int .i64 key, .int .i64 src, .int .i64 dst, .int .i64 port, .int .i64 mark, .int .i64 start, .int .i64 gap, .int .i64 burst, .int .i64 size] := (Blk.new w _ _).alloc _
  have br0 : Blk ((w.alloc (.cells (List.toArray [.int .i64 key, .int .i64 src, .int .i64 dst, .int .i64 port, .int .i64 mark, .int .i64 start, .int .i64 gap, .int .i64 burst, .int .i64 size]) 25)).alloc (.cells (List.toArray [.int .i64 0, .int .i64 0, .int .i64 0, .int .i64 0, .int .i64 0, .int .i64 0, .int .i64 0, .int .i64 0, .int .i64 0]) 25)) (w.heap.size + 1) 25 [.int .i64 0, .int .i64 0, .int .i64 0, .int .i64 0, .int .i64 0, .int .i64 0, .int .i64 0, .int .i64 0, .int .i64 0] := by have h := Blk.new (w.alloc (.cells (List.toArray [.int .i64 key, .int .i64 src, .int .i64 dst, .int .i64 port, .int .i64 mark, .int .i64 start, .int .i64 gap, .int .i64 burst, .int .i64 size]) 25)) 25 [.int .i64 0, .int .i64 0, .int .i64 0, .int .i64 0, .int .i64 0, .int .i64 0, .int .i64 0, .int .i64 0, .int .i64 0]; rwa [World.size_alloc] at h
  have z0 : Below w.heap.size w ((w.alloc (.cells (List.toArray [.int .i64 key, .int .i64 src, .int .i64 dst, .int .i64 port, .int .i64 mark, .int .i64 start, .int .i64 gap, .int .i64 burst, .int .i64 size]) 25)).alloc (.cells (List.toArray [.int .i64 0, .int .i64 0, .int .i64 0, .int .i64 0, .int .i64 0, .int .i64 0, .int .i64 0, .int .i64 0, .int .i64 0]) 25)) := ext_alloc (ext_alloc (ext_refl w) _) _
  cases h1 : flowB key src dst port mark start gap burst size with
  | false =>
    have hsh : shiftB key src dst port mark start gap burst size t = false := by simp [shiftB, h1]
    rw [hsh]
    have hf : ∀ x, fp false x = 0 := fun x => rfl
    simp only [hf]
    clear hf
    go_enter Try.func23, Try.ntmps23
    go_wp2_with fail
    refine (implIsFlow_any _ _ _ _ _ _ _ _ _ _).mono ?_; rintro e w1 ⟨rfl, hb1⟩
    have b1 := b0.below hb1
    have br1 := br0.below hb1
    have z1 := ext_trans z0 hb1
    clear hb1
    obtain ⟨y1, x1, c1, f1⟩ := b1.nine
    obtain ⟨y2, x2, c2, f2⟩ := br1.nine
    go_wp2_with (go_at_call 59; refine (isTicks_any _ _).mono ?_; rintro e w' ⟨rfl, rfl⟩)
    exact bodyPost_ret (v := .tuple #[.agg #[.int .i64 0, .int .i64 0, .int .i64 0, .int .i64 0, .int .i64 0, .int .i64 0, .int .i64 0, .int .i64 0, .int .i64 0], .bool false]) (res_cell2 Try.results23 _ rfl (((((((((br1.set_ 0 (.int .i64 0)).set_ 1 (.int .i64 0)).set_ 2 (.int .i64 0)).set_ 3 (.int .i64 0)).set_ 4 (.int .i64 0)).set_ 5 (.int .i64 0)).set_ 6 (.int .i64 0)).set_ 7 (.int .i64 0)).set_ 8 (.int .i64 0)) Try.underlying25 rfl (by kernel_rfl)) rfl ⟨rfl, (((((((((z1.setCell (p := ⟨w.heap.size + 1, 0, none⟩) (by simp) (.int .i64 0)).setCell (p := ⟨w.heap.size + 1, 1, none⟩) (by simp) (.int .i64 0)).setCell (p := ⟨w.heap.size + 1, 2, none⟩) (by simp) (.int .i64 0)).setCell (p := ⟨w.heap.size + 1, 3, none⟩) (by simp) (.int .i64 0)).setCell (p := ⟨w.heap.size + 1, 4, none⟩) (by simp) (.int .i64 0)).setCell (p := ⟨w.heap.size + 1, 5, none⟩) (by simp) (.int .i64 0)).setCell (p := ⟨w.heap.size + 1, 6, none⟩) (by simp) (.int .i64 0)).setCell (p := ⟨w.heap.size + 1, 7, none⟩) (by simp) (.int .i64 0)).setCell (p := ⟨w.heap.size + 1, 8, none⟩) (by simp) (.int .i64 0))⟩
  | true =>
    cases h2 : inB t 0 100000 with
    | false =>
      have hsh : shiftB key src dst port mark start gap burst size t = false := by simp [shiftB, h2]
      rw [hsh]
      have hf : ∀ x, fp false x = 0 := fun x => rfl
      simp only [hf]
      clear hf
      go_enter Try.func23, Try.ntmps23
      go_wp2_with fail
      refine (implIsFlow_any _ _ _ _ _ _ _ _ _ _).mono ?_; rintro e w1 ⟨rfl, hb1⟩
      have b1 := b0.below hb1
      have br1 := br0.below hb1
      have z1 := ext_trans z0 hb1
      clear hb1
      obtain ⟨y1, x1, c1, f1⟩ := b1.nine
      obtain ⟨y2, x2, c2, f2⟩ := br1.nine
      go_wp2_with (go_at_call 59; refine (isTicks_any _ _).mono ?_; rintro e w' ⟨rfl, rfl⟩)
      exact bodyPost_ret (v := .tuple #[.agg #[.int .i64 0, .int .i64 0, .int .i64 0, .int .i64 0, .int .i64 0, .int .i64 0, .int .i64 0, .int .i64 0, .int .i64 0], .bool false]) (res_cell2 Try.results23 _ rfl (((((((((br1.set_ 0 (.int .i64 0)).set_ 1 (.int .i64 0)).set_ 2 (.int .i64 0)).set_ 3 (.int .i64 0)).set_ 4 (.int .i64 0)).set_ 5 (.int .i64 0)).set_ 6 (.int .i64 0)).set_ 7 (.int .i64 0)).set_ 8 (.int .i64 0)) Try.underlying25 rfl (by kernel_rfl)) rfl ⟨rfl, (((((((((z1.setCell (p := ⟨w.heap.size + 1, 0, none⟩) (by simp) (.int .i64 0)).setCell (p := ⟨w.heap.size + 1, 1, none⟩) (by simp) (.int .i64 0)).setCell (p := ⟨w.heap.size + 1, 2, none⟩) (by simp) (.int .i64 0)).setCell (p := ⟨w.heap.size + 1, 3, none⟩) (by simp) (.int .i64 0)).setCell (p := ⟨w.heap.size + 1, 4, none⟩) (by simp) (.int .i64 0)).setCell (p := ⟨w.heap.size + 1, 5, none⟩) (by simp) (.int .i64 0)).setCell (p := ⟨w.heap.size + 1, 6, none⟩) (by simp) (.int .i64 0)).setCell (p := ⟨w.heap.size + 1, 7, none⟩) (by simp) (.int .i64 0)).setCell (p := ⟨w.heap.size + 1, 8, none⟩) (by simp) (.int .i64 0))⟩
    | true =>
      have hlong := shiftB_long h1 h2
      have hfb := flowB_iff.1 h1
      obtain ⟨s0, s1⟩ := hfb.2.2.1
      obtain ⟨t0, t1⟩ := inB_iff.1 h2
      have HB := Lib.hid (show flowB key src dst port mark (start + t) gap burst size = shiftB key src dst port mark start gap burst size t by simp [shiftB, h1, h2])
      clear hfb
      by_cases hs : start + t ≤ 10000
      · have hsh : shiftB key src dst port mark start gap burst size t = true := by rw [hlong]; simpa using hs
        rw [hsh] at HB
        clear hlong
        rw [hsh]
        have hf : ∀ x, fp true x = x := fun x => rfl
        simp only [hf]
        clear hf
        go_enter Try.func23, Try.ntmps23
        go_wp2_with fail
        refine (implIsFlow_any _ _ _ _ _ _ _ _ _ _).mono ?_; rintro e w1 ⟨rfl, hb1⟩
        have b1 := b0.below hb1
        have br1 := br0.below hb1
        have z1 := ext_trans z0 hb1
        clear hb1
        obtain ⟨y1, x1, c1, f1⟩ := b1.nine
        obtain ⟨y2, x2, c2, f2⟩ := br1.nine
        go_wp2_with (go_at_call 59; refine (isTicks_any _ _).mono ?_; rintro e w' ⟨rfl, rfl⟩)
        refine (implIsFlow_any _ _ _ _ _ _ _ _ _ _).mono ?_; rintro e w2 ⟨rfl, hb2⟩
        have b2 := (b1.set_ 5 (.int .i64 (start + t))).below hb2
        have br2 := (br1.far (p := ⟨w.heap.size, 5, none⟩) (by simp) (.int .i64 (start + t))).below hb2
        have z2 := ext_trans (z1.setCell (p := ⟨w.heap.size, 5, none⟩) (by simp) (.int .i64 (start + t))) hb2
        rw [HB.out]
        clear y1 x1 c1 f1 y2 x2 c2 f2 hb2
        obtain ⟨y3, x3, c3, f3⟩ := br2.nine
        obtain ⟨y4, x4, c4, f4⟩ := Blk.nine b2
        go_wp2_with fail
        exact bodyPost_ret (v := .tuple #[.agg #[.int .i64 key, .int .i64 src, .int .i64 dst, .int .i64 port, .int .i64 mark, .int .i64 (start + t), .int .i64 gap, .int .i64 burst, .int .i64 size], .bool true]) (res_cell2 Try.results23 _ rfl (((((((((br2.set_ 0 (.int .i64 key)).set_ 1 (.int .i64 src)).set_ 2 (.int .i64 dst)).set_ 3 (.int .i64 port)).set_ 4 (.int .i64 mark)).set_ 5 (.int .i64 (start + t))).set_ 6 (.int .i64 gap)).set_ 7 (.int .i64 burst)).set_ 8 (.int .i64 size)) Try.underlying25 rfl (by kernel_rfl)) rfl ⟨rfl, (((((((((z2.setCell (p := ⟨w.heap.size + 1, 0, none⟩) (by simp) (.int .i64 key)).setCell (p := ⟨w.heap.size + 1, 1, none⟩) (by simp) (.int .i64 src)).setCell (p := ⟨w.heap.size + 1, 2, none⟩) (by simp) (.int .i64 dst)).setCell (p := ⟨w.heap.size + 1, 3, none⟩) (by simp) (.int .i64 port)).setCell (p := ⟨w.heap.size + 1, 4, none⟩) (by simp) (.int .i64 mark)).setCell (p := ⟨w.heap.size + 1, 5, none⟩) (by simp) (.int .i64 (start + t))).setCell (p := ⟨w.heap.size + 1, 6, none⟩) (by simp) (.int .i64 gap)).setCell (p := ⟨w.heap.size + 1, 7, none⟩) (by simp) (.int .i64 burst)).setCell (p := ⟨w.heap.size + 1, 8, none⟩) (by simp) (.int .i64 size))⟩
      · have hsh : shiftB key src dst port mark start gap burst size t = false := by rw [hlong]; simpa using hs
        rw [hsh] at HB
        have hgt : 10000 < start + t := by omega
        clear hlong
        rw [hsh]
        have hf : ∀ x, fp false x = 0 := fun x => rfl
        simp only [hf]
        clear hf
        go_enter Try.func23, Try.ntmps23
        go_wp2_with fail
        refine (implIsFlow_any _ _ _ _ _ _ _ _ _ _).mono ?_; rintro e w1 ⟨rfl, hb1⟩
        have b1 := b0.below hb1
        have br1 := br0.below hb1
        have z1 := ext_trans z0 hb1
        clear hb1
        obtain ⟨y1, x1, c1, f1⟩ := b1.nine
        obtain ⟨y2, x2, c2, f2⟩ := br1.nine
        go_wp2_with (go_at_call 59; refine (isTicks_any _ _).mono ?_; rintro e w' ⟨rfl, rfl⟩)
        refine (implIsFlow_any _ _ _ _ _ _ _ _ _ _).mono ?_; rintro e w2 ⟨rfl, hb2⟩
        have br2 := (br1.far (p := ⟨w.heap.size, 5, none⟩) (by simp) (.int .i64 (start + t))).below hb2
        have z2 := ext_trans (z1.setCell (p := ⟨w.heap.size, 5, none⟩) (by simp) (.int .i64 (start + t))) hb2
        rw [HB.out]
        clear y1 x1 c1 f1 y2 x2 c2 f2 hb2
        obtain ⟨y3, x3, c3, f3⟩ := br2.nine
        go_wp2_with fail
        exact bodyPost_ret (v := .tuple #[.agg #[.int .i64 0, .int .i64 0, .int .i64 0, .int .i64 0, .int .i64 0, .int .i64 0, .int .i64 0, .int .i64 0, .int .i64 0], .bool false]) (res_cell2 Try.results23 _ rfl (((((((((br2.set_ 0 (.int .i64 0)).set_ 1 (.int .i64 0)).set_ 2 (.int .i64 0)).set_ 3 (.int .i64 0)).set_ 4 (.int .i64 0)).set_ 5 (.int .i64 0)).set_ 6 (.int .i64 0)).set_ 7 (.int .i64 0)).set_ 8 (.int .i64 0)) Try.underlying25 rfl (by kernel_rfl)) rfl ⟨rfl, (((((((((z2.setCell (p := ⟨w.heap.size + 1, 0, none⟩) (by simp) (.int .i64 0)).setCell (p := ⟨w.heap.size + 1, 1, none⟩) (by simp) (.int .i64 0)).setCell (p := ⟨w.heap.size + 1, 2, none⟩) (by simp) (.int .i64 0)).setCell (p := ⟨w.heap.size + 1, 3, none⟩) (by simp) (.int .i64 0)).setCell (p := ⟨w.heap.size + 1, 4, none⟩) (by simp) (.int .i64 0)).setCell (p := ⟨w.heap.size + 1, 5, none⟩) (by simp) (.int .i64 0)).setCell (p := ⟨w.heap.size + 1, 6, none⟩) (by simp) (.int .i64 0)).setCell (p := ⟨w.heap.size + 1, 7, none⟩) (by simp) (.int .i64 0)).setCell (p := ⟨w.heap.size + 1, 8, none⟩) (by simp) (.int .i64 0))⟩

end Go.Proofs.Ytnnihiajggdplaa