/- PacketAt: contracts of the program's and the reference's; the law's walk. -/
import Derived.Test.YtnnihiajggdplaaTrG
import Derived.Deep.RegionHeld3
namespace Go.Proofs.Ytnnihiajggdplaa
open Go.RowKit

def tickTo (f : Flow) : Nat → Int
  | 0 => f.start
  | k + 1 => tickTo f k + gapI f ((k : Int) + 1)
def pktTick (f : Flow) (n : Int) : Int := tickTo f (n / f.burst).toNat
def pktSize (f : Flow) (n : Int) : Int := 1 + numR [f.key, n, 2] f.size
def pktAt (f : Flow) (n : Int) : Timed := ⟨pktTick f n, ⟨n + 1, f.source, f.dest, f.port, f.mark, pktSize f n⟩⟩
theorem tick_bd {f : Flow} (h : flowOk f = true) : ∀ k : Nat, 0 ≤ tickTo f k ∧ tickTo f k ≤ 10000 + k * 500
  | 0 => by have := flowOk_bd h; simp [tickTo]; omega
  | k + 1 => by have := tick_bd h k; have := gap_bd h ((k : Int) + 1); simp only [tickTo]; omega
theorem size_bd {f : Flow} (h : flowOk f = true) (n : Int) : 1 ≤ pktSize f n ∧ pktSize f n ≤ 1500 := by
  have h1 := flowOk_bd h
  have h2 := num_bd [f.key, n, 2] f.size h1.2.2.2.2.1
  unfold pktSize
  omega

def PkS (w : World) (t : TypeId) (f : Flow) (w' : World) : Prop := Blk w' w.heap.size 25 [.int .i64 f.key, .int .i64 f.source, .int .i64 f.dest, .int .i64 f.port, .int .i64 f.mark, .int .i64 f.start, .int .i64 f.gap, .int .i64 f.burst, .int .i64 f.size] ∧ Blk w' (w.heap.size + 1) t [.int .i64 0, .int .i64 0, .int .i64 0, .int .i64 0, .int .i64 0, .int .i64 0, .int .i64 0] ∧ Below w.heap.size w w'
theorem pkS_ext {w w0 w1 : World} {t : TypeId} {f : Flow} (h : PkS w t f w0) (hb : Below w0.heap.size w0 w1) : PkS w t f w1 := ⟨h.1.below hb, h.2.1.below hb, ext_trans h.2.2 hb⟩
theorem pkS_all {w w' : World} {t : TypeId} {f : Flow} (h : PkS w t f w') : w'.cell? ⟨w.heap.size, 0, none⟩ = some (.int .i64 f.key) ∧ w'.cell? ⟨w.heap.size, 8, none⟩ = some (.int .i64 f.size) ∧ PkS w t f w' := ⟨h.1.cell 0, h.1.cell 8, h⟩
def TickRel (w : World) (t : TypeId) (f : Flow) (m : Nat) (tick b : Value) (wr : World) : Prop := ∃ k : Nat, k ≤ m ∧ b = .int .i64 ((k : Int) + 1) ∧ tick = .int .i64 (tickTo f k) ∧ Blk wr w.heap.size 25 [.int .i64 f.key, .int .i64 f.source, .int .i64 f.dest, .int .i64 f.port, .int .i64 f.mark, .int .i64 f.start, .int .i64 f.gap, .int .i64 f.burst, .int .i64 f.size] ∧ Blk wr (w.heap.size + 1) t [.int .i64 0, .int .i64 0, .int .i64 0, .int .i64 0, .int .i64 0, .int .i64 0, .int .i64 0] ∧ Below w.heap.size w wr
set_option maxRecDepth 100000 in
set_option maxHeartbeats 4000000 in
theorem packetAt_any (f : Flow) (n : Int) (w : World) (hf : flowOk f = true) (hn : 0 ≤ n ∧ n ≤ 60) :
    Calls Try.prog 69 #[.agg #[.int .i64 f.key, .int .i64 f.source, .int .i64 f.dest, .int .i64 f.port, .int .i64 f.mark, .int .i64 f.start, .int .i64 f.gap, .int .i64 f.burst, .int .i64 f.size], .int .i64 n] w fun e w' => e = .returned (.agg #[.int .i64 (pktTick f n), .int .i64 (n + 1), .int .i64 f.source, .int .i64 f.dest, .int .i64 f.port, .int .i64 f.mark, .int .i64 (pktSize f n)]) ∧ Below w.heap.size w w' := by
  have h1 := flowOk_bd hf
  have B0 : Blk ((w.alloc (.cells (List.toArray [.int .i64 f.key, .int .i64 f.source, .int .i64 f.dest, .int .i64 f.port, .int .i64 f.mark, .int .i64 f.start, .int .i64 f.gap, .int .i64 f.burst, .int .i64 f.size]) 25)).alloc (.cells (List.toArray [.int .i64 0, .int .i64 0, .int .i64 0, .int .i64 0, .int .i64 0, .int .i64 0, .int .i64 0]) 58)) w.heap.size 25 [.int .i64 f.key, .int .i64 f.source, .int .i64 f.dest, .int .i64 f.port, .int .i64 f.mark, .int .i64 f.start, .int .i64 f.gap, .int .i64 f.burst, .int .i64 f.size] := (Blk.new w 25 [.int .i64 f.key, .int .i64 f.source, .int .i64 f.dest, .int .i64 f.port, .int .i64 f.mark, .int .i64 f.start, .int .i64 f.gap, .int .i64 f.burst, .int .i64 f.size]).alloc _
  have B1 : Blk ((w.alloc (.cells (List.toArray [.int .i64 f.key, .int .i64 f.source, .int .i64 f.dest, .int .i64 f.port, .int .i64 f.mark, .int .i64 f.start, .int .i64 f.gap, .int .i64 f.burst, .int .i64 f.size]) 25)).alloc (.cells (List.toArray [.int .i64 0, .int .i64 0, .int .i64 0, .int .i64 0, .int .i64 0, .int .i64 0, .int .i64 0]) 58)) (w.heap.size + 1) 58 [.int .i64 0, .int .i64 0, .int .i64 0, .int .i64 0, .int .i64 0, .int .i64 0, .int .i64 0] := by have h := Blk.new (w.alloc (.cells (List.toArray [.int .i64 f.key, .int .i64 f.source, .int .i64 f.dest, .int .i64 f.port, .int .i64 f.mark, .int .i64 f.start, .int .i64 f.gap, .int .i64 f.burst, .int .i64 f.size]) 25)) 58 [.int .i64 0, .int .i64 0, .int .i64 0, .int .i64 0, .int .i64 0, .int .i64 0, .int .i64 0]; rwa [World.size_alloc] at h
  have z0 : Below w.heap.size w ((w.alloc (.cells (List.toArray [.int .i64 f.key, .int .i64 f.source, .int .i64 f.dest, .int .i64 f.port, .int .i64 f.mark, .int .i64 f.start, .int .i64 f.gap, .int .i64 f.burst, .int .i64 f.size]) 25)).alloc (.cells (List.toArray [.int .i64 0, .int .i64 0, .int .i64 0, .int .i64 0, .int .i64 0, .int .i64 0, .int .i64 0]) 58)) := ext_alloc (ext_alloc (ext_refl w) _) _
  have hbn : ¬ f.burst = 0 := by omega
  have hbz : (f.burst == 0) = false := by simp; omega
  have hq0 : 0 ≤ n / f.burst := Int.ediv_nonneg hn.1 (by omega)
  have hq1 : n / f.burst ≤ n := Int.ediv_le_self _ hn.1
  have HPT := Lib.hid (show pktTick f n = tickTo f (n / f.burst).toNat from rfl)
  have hdv : n.tdiv f.burst = n / f.burst := Int.tdiv_eq_ediv_of_nonneg hn.1
  generalize hqq : n / f.burst = q at *
  obtain ⟨m, rfl⟩ := Int.eq_ofNat_of_zero_le hq0
  have HQQ := Lib.hid hqq
  clear hqq
  rw [Int.toNat_natCast] at HPT
  go_enter Try.func69, Try.ntmps69
  go_wp2_with fail
  go_loopw [5, 6] (TickRel w 58 f m) (fun _ i _ => m + 1 - (intOf i).toNat)
  case atStart => exact ⟨0, Nat.zero_le _, by simp, rfl, B0, B1, z0⟩
  case round =>
    obtain ⟨k, hk, rfl, rfl, C0, C1, hb⟩ := hrel
    obtain ⟨y0, x0, d0, f0⟩ := C0.nine
    have htb := tick_bd hf k
    by_cases hlt : k < m
    · have hgb := gap_bd hf ((k : Int) + 1)
      go_wp2_with fail
      refine (gapOf_any f _ _ hf (by omega)).mono ?_; rintro e w3 ⟨rfl, hb3⟩
      have D0 := C0.below hb3
      have D1 := C1.below hb3
      have z3 := ext_trans hb hb3
      go_wp2_with fail
      go_roundw
      case rel => exact ⟨k + 1, by omega, by go_num, rfl, D0, D1, z3⟩
      case measure => simp [intOf]; omega
    · obtain rfl : k = m := by omega
      have hmx := mixR_bd [f.key, n, 2, f.size]
      have HSZ := Lib.hid (show pktSize f n = 1 + mixR [f.key, n, 2, f.size] % f.size from rfl)
      have HM := Lib.hid (mem4 (a := f.key) (b := n) (c := 2) (d := f.size) h1.1 (by omega) (by omega) (by omega))
      have hsb := size_bd hf n
      rw [HSZ.out] at hsb
      generalize hmq : mixR [f.key, n, 2, f.size] = mx at *
      have HMQ := Lib.hid hmq
      clear hmq
      have S0 : PkS w 58 f wr.drew := ⟨C0.drew, C1.drew, hb.drew⟩
      have S1 : PkS w 58 f (wr.alloc (.cells (List.toArray [.int .i64 f.key, .int .i64 n, .int .i64 2, .int .i64 f.size]) 3)).drew := ⟨(C0.alloc _).drew, (C1.alloc _).drew, (ext_alloc hb _).drew⟩
      have HC := Lib.hid (mixOf_any (some ⟨wr.heap.size, 0, none⟩) 4 4 [f.key, n, 2, f.size] (wr.alloc (.cells (List.toArray [.int .i64 f.key, .int .i64 n, .int .i64 2, .int .i64 f.size]) 3)).drew (by omega) (Rd.drew (rd_news rfl rfl)) HM.out)
      have hgz : (f.size == 0) = false := by simp; omega
      have hgn : ¬ f.size = 0 := by omega
      have htm : mx.tmod f.size = mx % f.size := Int.tmod_eq_emod_of_nonneg hmx.1
      have hw1 := wrap_in (mx % f.size) (by omega) (by omega)
      have hw2 := wrap_in (1 + mx % f.size) (by omega) (by omega)
      go_wp2_with fail
      go_region_held3 (fun w' => w'.cell? ⟨w.heap.size, 0, none⟩ = some (.int .i64 f.key) ∧ w'.cell? ⟨w.heap.size, 8, none⟩ = some (.int .i64 f.size) ∧ PkS w 58 f w')
        (first | exact pkS_all S2 | exact pkS_all S1 | exact pkS_all S0)
        (first | (go_at_call 54; refine HC.out.mono ?_; rintro e w1 ⟨rfl, hb1⟩; rw [HMQ.out]; have S2 := pkS_ext S1 hb1))
      clear y0 x0 d0 f0
      obtain ⟨y0, x0, d0, f0⟩ := S2.1.nine
      obtain ⟨y1, x1, d1, f1⟩ := S2.2.1.seven
      clear hw1 hw2 htm
      go_wp2_with fail
      exact bodyPost_ret (v := .agg #[.int .i64 (tickTo f k), .int .i64 (n + 1), .int .i64 f.source, .int .i64 f.dest, .int .i64 f.port, .int .i64 f.mark, .int .i64 (1 + mx % f.size)]) (res_cell1 Try.results69 _ rfl (((((((S2.2.1.set_ 0 (.int .i64 (tickTo f k))).set_ 1 (.int .i64 (n + 1))).set_ 2 (.int .i64 f.source)).set_ 3 (.int .i64 f.dest)).set_ 4 (.int .i64 f.port)).set_ 5 (.int .i64 f.mark)).set_ 6 (.int .i64 (1 + mx % f.size))) Try.underlying58 rfl (by kernel_rfl)) rfl ⟨by rw [HPT.out, HSZ.out], (((((((S2.2.2.setCell (p := ⟨w.heap.size + 1, 0, none⟩) (by simp) (.int .i64 (tickTo f k))).setCell (p := ⟨w.heap.size + 1, 1, none⟩) (by simp) (.int .i64 (n + 1))).setCell (p := ⟨w.heap.size + 1, 2, none⟩) (by simp) (.int .i64 f.source)).setCell (p := ⟨w.heap.size + 1, 3, none⟩) (by simp) (.int .i64 f.dest)).setCell (p := ⟨w.heap.size + 1, 4, none⟩) (by simp) (.int .i64 f.port)).setCell (p := ⟨w.heap.size + 1, 5, none⟩) (by simp) (.int .i64 f.mark)).setCell (p := ⟨w.heap.size + 1, 6, none⟩) (by simp) (.int .i64 (1 + mx % f.size)))⟩

def TfS (w : World) (t : TypeId) (f : Flow) (k : Nat) (w' : World) : Prop := Blk w' w.heap.size 25 [.int .i64 f.key, .int .i64 f.source, .int .i64 f.dest, .int .i64 f.port, .int .i64 f.mark, .int .i64 f.start, .int .i64 f.gap, .int .i64 f.burst, .int .i64 f.size] ∧ Blk w' (w.heap.size + 1) t [.int .i64 0, .int .i64 0, .int .i64 0, .int .i64 0, .int .i64 0, .int .i64 0, .int .i64 0] ∧ Blk w' (w.heap.size + 2) t [.int .i64 (tickTo f k), .int .i64 0, .int .i64 0, .int .i64 0, .int .i64 0, .int .i64 0, .int .i64 0] ∧ Below w.heap.size w w'
theorem tfS_ext {w w0 w1 : World} {t : TypeId} {f : Flow} {k : Nat} (h : TfS w t f k w0) (hb : Below w0.heap.size w0 w1) : TfS w t f k w1 := ⟨h.1.below hb, h.2.1.below hb, h.2.2.1.below hb, ext_trans h.2.2.2 hb⟩
theorem six_of {W : World} {g : Nat} {t : TypeId} {f : Flow} (h : Blk W g t [.int .i64 f.key, .int .i64 f.source, .int .i64 f.dest, .int .i64 f.port, .int .i64 f.mark, .int .i64 f.start, .int .i64 f.gap, .int .i64 f.burst, .int .i64 f.size]) : W.cell? ⟨g, 0, none⟩ = some (.int .i64 f.key) ∧ W.cell? ⟨g, 1, none⟩ = some (.int .i64 f.source) ∧ W.cell? ⟨g, 2, none⟩ = some (.int .i64 f.dest) ∧ W.cell? ⟨g, 3, none⟩ = some (.int .i64 f.port) ∧ W.cell? ⟨g, 4, none⟩ = some (.int .i64 f.mark) ∧ W.cell? ⟨g, 8, none⟩ = some (.int .i64 f.size) := ⟨h.cell 0, h.cell 1, h.cell 2, h.cell 3, h.cell 4, h.cell 8⟩
def TfRel (w : World) (t : TypeId) (f : Flow) (m : Nat) (b : Value) (wr : World) : Prop := ∃ k : Nat, k ≤ m ∧ b = .int .i64 ((k : Int) + 1) ∧ TfS w t f k wr
set_option maxRecDepth 100000 in
set_option maxHeartbeats 4000000 in
theorem tfPacket_any (f : Flow) (n : Int) (w : World) (hf : flowOk f = true) (hn : 0 ≤ n ∧ n ≤ 60) :
    Calls Try.prog 68 #[.agg #[.int .i64 f.key, .int .i64 f.source, .int .i64 f.dest, .int .i64 f.port, .int .i64 f.mark, .int .i64 f.start, .int .i64 f.gap, .int .i64 f.burst, .int .i64 f.size], .int .i64 n] w fun e w' => e = .returned (.agg #[.int .i64 (pktTick f n), .int .i64 (n + 1), .int .i64 f.source, .int .i64 f.dest, .int .i64 f.port, .int .i64 f.mark, .int .i64 (pktSize f n)]) ∧ Below w.heap.size w w' := by
  have h1 := flowOk_bd hf
  have hS0 : TfS w 58 f 0 (((w.alloc (.cells (List.toArray [.int .i64 f.key, .int .i64 f.source, .int .i64 f.dest, .int .i64 f.port, .int .i64 f.mark, .int .i64 f.start, .int .i64 f.gap, .int .i64 f.burst, .int .i64 f.size]) 25)).alloc (.cells (List.toArray [.int .i64 0, .int .i64 0, .int .i64 0, .int .i64 0, .int .i64 0, .int .i64 0, .int .i64 0]) 58)).alloc (.cells (List.toArray [.int .i64 f.start, .int .i64 0, .int .i64 0, .int .i64 0, .int .i64 0, .int .i64 0, .int .i64 0]) 58)) := by
    refine ⟨((Blk.new w 25 [.int .i64 f.key, .int .i64 f.source, .int .i64 f.dest, .int .i64 f.port, .int .i64 f.mark, .int .i64 f.start, .int .i64 f.gap, .int .i64 f.burst, .int .i64 f.size]).alloc _).alloc _, ?_, ?_, ext_alloc (ext_alloc (ext_alloc (ext_refl w) _) _) _⟩
    · have h := (Blk.new (w.alloc (.cells (List.toArray [.int .i64 f.key, .int .i64 f.source, .int .i64 f.dest, .int .i64 f.port, .int .i64 f.mark, .int .i64 f.start, .int .i64 f.gap, .int .i64 f.burst, .int .i64 f.size]) 25)) 58 [.int .i64 0, .int .i64 0, .int .i64 0, .int .i64 0, .int .i64 0, .int .i64 0, .int .i64 0]).alloc (.cells (List.toArray [.int .i64 f.start, .int .i64 0, .int .i64 0, .int .i64 0, .int .i64 0, .int .i64 0, .int .i64 0]) 58); rwa [World.size_alloc] at h
    · have h := Blk.new ((w.alloc (.cells (List.toArray [.int .i64 f.key, .int .i64 f.source, .int .i64 f.dest, .int .i64 f.port, .int .i64 f.mark, .int .i64 f.start, .int .i64 f.gap, .int .i64 f.burst, .int .i64 f.size]) 25)).alloc (.cells (List.toArray [.int .i64 0, .int .i64 0, .int .i64 0, .int .i64 0, .int .i64 0, .int .i64 0, .int .i64 0]) 58)) 58 [.int .i64 f.start, .int .i64 0, .int .i64 0, .int .i64 0, .int .i64 0, .int .i64 0, .int .i64 0]; rwa [World.size_alloc, World.size_alloc] at h
  have HS0 := Lib.hid hS0
  clear hS0
  have hbn : ¬ f.burst = 0 := by omega
  have hbz : (f.burst == 0) = false := by simp; omega
  have hq0 : 0 ≤ n / f.burst := Int.ediv_nonneg hn.1 (by omega)
  have hq1 : n / f.burst ≤ n := Int.ediv_le_self _ hn.1
  have HPT := Lib.hid (show pktTick f n = tickTo f (n / f.burst).toNat from rfl)
  have hdv : n.tdiv f.burst = n / f.burst := Int.tdiv_eq_ediv_of_nonneg hn.1
  generalize hqq : n / f.burst = q at *
  obtain ⟨m, rfl⟩ := Int.eq_ofNat_of_zero_le hq0
  have HQQ := Lib.hid hqq
  clear hqq
  rw [Int.toNat_natCast] at HPT
  go_enter Try.func68, Try.ntmps68
  go_wp2_with fail
  go_loopw [6] (TfRel w 58 f m) (fun i _ => m + 1 - (intOf i).toNat)
  case atStart => exact ⟨0, Nat.zero_le _, by simp, HS0.out⟩
  case round =>
    obtain ⟨k, hk, rfl, hS⟩ := hrel
    obtain ⟨y0, x0, d0, f0⟩ := hS.1.nine
    have htb := tick_bd hf k
    by_cases hlt : k < m
    · have hgb := gap_bd hf ((k : Int) + 1)
      obtain ⟨y1, x1, d1, f1⟩ := hS.2.2.1.seven
      have HTS := Lib.hid (show tickTo f (k + 1) = tickTo f k + gapI f ((k : Int) + 1) from rfl)
      have hSd : TfS w 58 f k wr.drew := ⟨hS.1.drew, hS.2.1.drew, hS.2.2.1.drew, hS.2.2.2.drew⟩
      generalize hgg : gapI f ((k : Int) + 1) = gg at *
      have HGG := Lib.hid hgg
      clear hgg
      have hwt := wrap_in (tickTo f k + gg) (by omega) (by omega)
      go_wp2_with fail
      go_region_with (first | (go_at_call 66; refine (tfGap_any f _ _ hf (by omega)).mono ?_; rintro e w3 ⟨rfl, hb3⟩; rw [HGG.out]; have S3 := tfS_ext hSd hb3; obtain ⟨y2, x2, d2, f2⟩ := S3.2.2.1.seven))
      all_goals
        clear hwt
        go_wp2_with fail
        go_roundw
        case rel => exact ⟨k + 1, by omega, by go_num, S3.1.far (p := ⟨w.heap.size + 2, 0, none⟩) (by simp) _, S3.2.1.far (p := ⟨w.heap.size + 2, 0, none⟩) (by simp) _, by rw [HTS.out]; exact S3.2.2.1.set_ 0 _, S3.2.2.2.setCell (p := ⟨w.heap.size + 2, 0, none⟩) (by simp) _⟩
        case measure => simp [intOf]; omega
    · obtain rfl : k = m := by omega
      have HSZ := Lib.hid (show pktSize f n = 1 + numR [f.key, n, 2] f.size from rfl)
      have HM := Lib.hid (mem3 (a := f.key) (b := n) (c := 2) h1.1 (by omega) (by omega))
      have hsb := size_bd hf n
      rw [HSZ.out] at hsb
      have O0 : Blk (wr.alloc (.cells (List.toArray [.int .i64 f.key, .int .i64 n, .int .i64 2]) 3)).drew w.heap.size 25 [.int .i64 f.key, .int .i64 f.source, .int .i64 f.dest, .int .i64 f.port, .int .i64 f.mark, .int .i64 f.start, .int .i64 f.gap, .int .i64 f.burst, .int .i64 f.size] := (hS.1.alloc _).drew
      have HC := Lib.hid (tfBelow_any (some ⟨wr.heap.size, 0, none⟩) 3 3 [f.key, n, 2] f.size (wr.alloc (.cells (List.toArray [.int .i64 f.key, .int .i64 n, .int .i64 2]) 3)).drew (by omega) (by omega) (Rd.drew (rd_news rfl rfl)) HM.out)
      generalize hq2 : numR [f.key, n, 2] f.size = q2 at *
      have HQ2 := Lib.hid hq2
      clear hq2
      have S1 : TfS w 58 f k (wr.alloc (.cells (List.toArray [.int .i64 f.key, .int .i64 n, .int .i64 2]) 3)).drew := ⟨O0, (hS.2.1.alloc _).drew, (hS.2.2.1.alloc _).drew, (ext_alloc hS.2.2.2 _).drew⟩
      have O9 : Blk wr.drew w.heap.size 25 [.int .i64 f.key, .int .i64 f.source, .int .i64 f.dest, .int .i64 f.port, .int .i64 f.mark, .int .i64 f.start, .int .i64 f.gap, .int .i64 f.burst, .int .i64 f.size] := hS.1.drew
      have hw1 := wrap_in (n + 1) (by omega) (by omega)
      have hw2 := wrap_in (1 + q2) (by omega) (by omega)
      go_wp2_with fail
      go_region_held3 (fun w' => w'.cell? ⟨w.heap.size, 0, none⟩ = some (.int .i64 f.key) ∧ w'.cell? ⟨w.heap.size, 1, none⟩ = some (.int .i64 f.source) ∧ w'.cell? ⟨w.heap.size, 2, none⟩ = some (.int .i64 f.dest) ∧ w'.cell? ⟨w.heap.size, 3, none⟩ = some (.int .i64 f.port) ∧ w'.cell? ⟨w.heap.size, 4, none⟩ = some (.int .i64 f.mark) ∧ w'.cell? ⟨w.heap.size, 8, none⟩ = some (.int .i64 f.size))
        (first | with_reducible exact six_of O2b | with_reducible exact six_of O0 | with_reducible exact six_of O9 | exact six_of ((((((S2.1.far (p := ⟨w.heap.size + 2, 1, none⟩) (by simp) (.int .i64 (n + 1))).far (p := ⟨w.heap.size + 2, 2, none⟩) (by simp) (.int .i64 f.source)).far (p := ⟨w.heap.size + 2, 3, none⟩) (by simp) (.int .i64 f.dest)).far (p := ⟨w.heap.size + 2, 4, none⟩) (by simp) (.int .i64 f.port)).far (p := ⟨w.heap.size + 2, 5, none⟩) (by simp) (.int .i64 f.mark)).far (p := ⟨w.heap.size + 2, 6, none⟩) (by simp) (.int .i64 (1 + q2))))
        (first | (go_at_call 56; refine HC.out.mono ?_; rintro e w1 ⟨rfl, hb1⟩; (try rw [HQ2.out]); have S2 := tfS_ext S1 hb1; have O2b := S2.1; obtain ⟨y2, x2, d2, f2⟩ := S2.2.2.1.seven))
      clear y0 x0 d0 f0 hw1 hw2 y2 x2 d2 f2
      have O2 := ((((((S2.2.2.1.set_ 1 (.int .i64 (n + 1))).set_ 2 (.int .i64 f.source)).set_ 3 (.int .i64 f.dest)).set_ 4 (.int .i64 f.port)).set_ 5 (.int .i64 f.mark)).set_ 6 (.int .i64 (1 + q2)))
      have R2 := ((((((S2.2.1.far (p := ⟨w.heap.size + 2, 1, none⟩) (by simp) (.int .i64 (n + 1))).far (p := ⟨w.heap.size + 2, 2, none⟩) (by simp) (.int .i64 f.source)).far (p := ⟨w.heap.size + 2, 3, none⟩) (by simp) (.int .i64 f.dest)).far (p := ⟨w.heap.size + 2, 4, none⟩) (by simp) (.int .i64 f.port)).far (p := ⟨w.heap.size + 2, 5, none⟩) (by simp) (.int .i64 f.mark)).far (p := ⟨w.heap.size + 2, 6, none⟩) (by simp) (.int .i64 (1 + q2)))
      have z2 := ((((((S2.2.2.2.setCell (p := ⟨w.heap.size + 2, 1, none⟩) (by simp) (.int .i64 (n + 1))).setCell (p := ⟨w.heap.size + 2, 2, none⟩) (by simp) (.int .i64 f.source)).setCell (p := ⟨w.heap.size + 2, 3, none⟩) (by simp) (.int .i64 f.dest)).setCell (p := ⟨w.heap.size + 2, 4, none⟩) (by simp) (.int .i64 f.port)).setCell (p := ⟨w.heap.size + 2, 5, none⟩) (by simp) (.int .i64 f.mark)).setCell (p := ⟨w.heap.size + 2, 6, none⟩) (by simp) (.int .i64 (1 + q2)))
      obtain ⟨y1, x1, d1, f1⟩ := O2.seven
      obtain ⟨y2, x2, d2, f2⟩ := R2.seven
      generalize (World.setCell (World.setCell (World.setCell (World.setCell (World.setCell (World.setCell w1 ⟨w.heap.size + 2, 1, none⟩ (.int .i64 (n + 1))) ⟨w.heap.size + 2, 2, none⟩ (.int .i64 f.source)) ⟨w.heap.size + 2, 3, none⟩ (.int .i64 f.dest)) ⟨w.heap.size + 2, 4, none⟩ (.int .i64 f.port)) ⟨w.heap.size + 2, 5, none⟩ (.int .i64 f.mark)) ⟨w.heap.size + 2, 6, none⟩ (.int .i64 (1 + q2))) = W6 at *
      go_wp2_with fail
      exact bodyPost_ret (v := .agg #[.int .i64 (tickTo f k), .int .i64 (n + 1), .int .i64 f.source, .int .i64 f.dest, .int .i64 f.port, .int .i64 f.mark, .int .i64 (1 + q2)]) (res_cell1 Try.results68 _ rfl (((((((R2.set_ 0 (.int .i64 (tickTo f k))).set_ 1 (.int .i64 (n + 1))).set_ 2 (.int .i64 f.source)).set_ 3 (.int .i64 f.dest)).set_ 4 (.int .i64 f.port)).set_ 5 (.int .i64 f.mark)).set_ 6 (.int .i64 (1 + q2))) Try.underlying58 rfl (by kernel_rfl)) rfl ⟨by rw [HPT.out, HSZ.out], (((((((z2.setCell (p := ⟨w.heap.size + 1, 0, none⟩) (by simp) (.int .i64 (tickTo f k))).setCell (p := ⟨w.heap.size + 1, 1, none⟩) (by simp) (.int .i64 (n + 1))).setCell (p := ⟨w.heap.size + 1, 2, none⟩) (by simp) (.int .i64 f.source)).setCell (p := ⟨w.heap.size + 1, 3, none⟩) (by simp) (.int .i64 f.dest)).setCell (p := ⟨w.heap.size + 1, 4, none⟩) (by simp) (.int .i64 f.port)).setCell (p := ⟨w.heap.size + 1, 5, none⟩) (by simp) (.int .i64 f.mark)).setCell (p := ⟨w.heap.size + 1, 6, none⟩) (by simp) (.int .i64 (1 + q2)))⟩

end Go.Proofs.Ytnnihiajggdplaa