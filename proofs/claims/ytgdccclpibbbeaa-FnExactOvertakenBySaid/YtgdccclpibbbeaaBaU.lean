/- The program's run of bands: contract of impl.runBands. -/
import Derived.Test.YtgdccclpibbbeaaBaT
import Derived.Deep.DeepCutAuto
import Derived.Deep.DeepFit
import Derived.Deep.CutBlock
import Derived.BigRegion
namespace Go.Proofs.Ytgdccclpibbbeaa
open Go.RowKit

def Rp0Rel (w : World) (i : Value) (wr : World) : Prop := i = .int .i64 0 ∧ wr = w
set_option maxRecDepth 100000 in
set_option maxHeartbeats 1000000 in
theorem repeat0_any (v : Int) (c b o : Nat) (w : World) :
    Calls Try.prog 58 #[.slice (some ⟨b, o, none⟩) 1 c, .int .i64 0] w fun e w' => e = .returned (.slice (some ⟨w.heap.size, 0, none⟩) 0 0) ∧ Blk w' w.heap.size 3 (List.replicate 0 (.int .i64 v)) ∧ Below w.heap.size w w' := by
  have hmk : ∀ W, (Instr.makeSlice 22 (.int .i64 0) (.int .i64 0)).run Try.prog W = .ok (.slice (some ⟨W.heap.size, 0, none⟩) 0 0) (W.alloc (.cells (List.toArray []) 3)) := fun _ => by kernel_rfl
  go_enter Try.func58, Try.ntmps58
  go_wp2_with fail
  refine (mul_any 0 _ (by omega)).mono ?_; rintro e w' ⟨rfl, rfl⟩
  have hcp : ∀ W, (Builtin.copy_ #[22, 22] 3 #[.slice (some ⟨w.heap.size, 0, none⟩) 0 0, .slice (some ⟨b, o, none⟩) 1 c]).run Try.prog W = .ok (.int .i64 0) W := fun _ => by kernel_rfl
  go_wp2_with fail
  go_loopw [8] (Rp0Rel (w.alloc (.cells (List.toArray []) 3))) (fun _ _ => 0)
  case atStart => exact ⟨rfl, rfl⟩
  case round =>
    obtain ⟨rfl, rfl⟩ := hrel
    go_wp2_with fail
    go_ret
    exact ⟨rfl, Blk.new w _ _, (ext_refl w).alloc (Nat.le_refl _) _⟩
theorem repeatAll_any (v : Int) (n c b o : Nat) (w : World) (hn : n ≤ 40) (hr : Rd w 1 (some ⟨b, o, none⟩) 1 [.int .i64 v]) :
    Calls Try.prog 58 #[.slice (some ⟨b, o, none⟩) 1 c, .int .i64 n] w fun e w' => e = .returned (.slice (some ⟨w.heap.size, 0, none⟩) n n) ∧ Blk w' w.heap.size 3 (List.replicate n (.int .i64 v)) ∧ Below w.heap.size w w' := by
  rcases Nat.eq_zero_or_pos n with rfl | h
  · exact repeat0_any v c b o w
  · exact repeat_any v n c b o w hn h hr

theorem idx8_0 (v0 v1 v2 v3 v4 v5 v6 v7 : Value) (w : World) : (Instr.index 64 (.agg #[v0, v1, v2, v3, v4, v5, v6, v7]) (.int .i64 0)).run Try.prog w = .ok v0 w := by kernel_rfl
theorem idx8_1 (v0 v1 v2 v3 v4 v5 v6 v7 : Value) (w : World) : (Instr.index 64 (.agg #[v0, v1, v2, v3, v4, v5, v6, v7]) (.int .i64 1)).run Try.prog w = .ok v1 w := by kernel_rfl
theorem idx8_2 (v0 v1 v2 v3 v4 v5 v6 v7 : Value) (w : World) : (Instr.index 64 (.agg #[v0, v1, v2, v3, v4, v5, v6, v7]) (.int .i64 2)).run Try.prog w = .ok v2 w := by kernel_rfl
theorem idx8_3 (v0 v1 v2 v3 v4 v5 v6 v7 : Value) (w : World) : (Instr.index 64 (.agg #[v0, v1, v2, v3, v4, v5, v6, v7]) (.int .i64 3)).run Try.prog w = .ok v3 w := by kernel_rfl
theorem idx8_4 (v0 v1 v2 v3 v4 v5 v6 v7 : Value) (w : World) : (Instr.index 64 (.agg #[v0, v1, v2, v3, v4, v5, v6, v7]) (.int .i64 4)).run Try.prog w = .ok v4 w := by kernel_rfl
theorem idx8_5 (v0 v1 v2 v3 v4 v5 v6 v7 : Value) (w : World) : (Instr.index 64 (.agg #[v0, v1, v2, v3, v4, v5, v6, v7]) (.int .i64 5)).run Try.prog w = .ok v5 w := by kernel_rfl
theorem idx8_6 (v0 v1 v2 v3 v4 v5 v6 v7 : Value) (w : World) : (Instr.index 64 (.agg #[v0, v1, v2, v3, v4, v5, v6, v7]) (.int .i64 6)).run Try.prog w = .ok v6 w := by kernel_rfl
theorem idx8_7 (v0 v1 v2 v3 v4 v5 v6 v7 : Value) (w : World) : (Instr.index 64 (.agg #[v0, v1, v2, v3, v4, v5, v6, v7]) (.int .i64 7)).run Try.prog w = .ok v7 w := by kernel_rfl
theorem list8 {vs : List Value} (h : vs.length = 8) : ∃ v0 v1 v2 v3 v4 v5 v6 v7, vs = [v0, v1, v2, v3, v4, v5, v6, v7] := by
  match vs, h with
  | [v0, v1, v2, v3, v4, v5, v6, v7], _ => exact ⟨_, _, _, _, _, _, _, _, rfl⟩
theorem idx8 {vs : List Value} (hl : vs.length = 8) {b : Nat} {v : Value} (hv : vs[b]? = some v) (w : World) : (Instr.index 64 (.agg vs.toArray) (.int .i64 (b : Int))).run Try.prog w = .ok v w := by
  have hb : b < 8 := by have := (List.getElem?_eq_some_iff.1 hv).1; omega
  obtain ⟨v0, v1, v2, v3, v4, v5, v6, v7, rfl⟩ := list8 hl
  have hc : b = 0 ∨ b = 1 ∨ b = 2 ∨ b = 3 ∨ b = 4 ∨ b = 5 ∨ b = 6 ∨ b = 7 := by omega
  rcases hc with rfl | rfl | rfl | rfl | rfl | rfl | rfl | rfl
  · obtain rfl : v0 = v := Option.some.inj hv
    exact idx8_0 v0 v1 v2 v3 v4 v5 v6 v7 w
  · obtain rfl : v1 = v := Option.some.inj hv
    exact idx8_1 v0 v1 v2 v3 v4 v5 v6 v7 w
  · obtain rfl : v2 = v := Option.some.inj hv
    exact idx8_2 v0 v1 v2 v3 v4 v5 v6 v7 w
  · obtain rfl : v3 = v := Option.some.inj hv
    exact idx8_3 v0 v1 v2 v3 v4 v5 v6 v7 w
  · obtain rfl : v4 = v := Option.some.inj hv
    exact idx8_4 v0 v1 v2 v3 v4 v5 v6 v7 w
  · obtain rfl : v5 = v := Option.some.inj hv
    exact idx8_5 v0 v1 v2 v3 v4 v5 v6 v7 w
  · obtain rfl : v6 = v := Option.some.inj hv
    exact idx8_6 v0 v1 v2 v3 v4 v5 v6 v7 w
  · obtain rfl : v7 = v := Option.some.inj hv
    exact idx8_7 v0 v1 v2 v3 v4 v5 v6 v7 w

/-- At the head of a step of the program's run. -/
def RunI (w : World) (g8 : Nat) (ti ts : TypeId) (xs : List Int) (ar : List Marked) (lim : Int) (cnt a now : Value) (wr : World) : Prop :=
  ∃ (f : Nat) (s : BSt) (vs : List Value), BInv ar f s ∧ bRun xs ar lim f s = bandsRun xs ar lim ∧ cnt = .int .i64 (total s.qs : Nat) ∧ a = .int .i64 (s.a : Nat) ∧ now = .int .i64 s.now ∧
    Blk wr (w.heap.size + 1) ti (s.out.map (Value.int .i64)) ∧ QsV wr (g8 + 1) g8 ts s.qs vs ∧ Below w.heap.size w wr
/-- Inside the intake of a step. -/
def InI (w : World) (g8 : Nat) (ti ts : TypeId) (m : Nat) (xs : List Int) (ar : List Marked) (lim now : Int) (s : BSt) (cnt a : Value) (wr : World) : Prop :=
  ∃ (k : Nat) (qs : Qs) (vs : List Value), s.a ≤ k ∧ k ≤ m ∧ intake xs lim now (ar.drop k) k qs = intake xs lim now (ar.drop s.a) s.a s.qs ∧ QOk k qs ∧ cnt = .int .i64 (total qs : Nat) ∧ a = .int .i64 (k : Nat) ∧
    Blk wr (w.heap.size + 1) ti (s.out.map (Value.int .i64)) ∧ QsV wr (g8 + 1) g8 ts qs vs ∧ Below w.heap.size w wr
/-- Behind the intake of a step. -/
def OutI (w : World) (g8 : Nat) (ti ts : TypeId) (xs : List Int) (ar : List Marked) (lim now : Int) (s : BSt) (cnt a : Value) (wr : World) : Prop :=
  ∃ (vs : List Value), cnt = .int .i64 (total (intake xs lim now (ar.drop s.a) s.a s.qs).2 : Nat) ∧ a = .int .i64 ((intake xs lim now (ar.drop s.a) s.a s.qs).1 : Nat) ∧
    Blk wr (w.heap.size + 1) ti (s.out.map (Value.int .i64)) ∧ QsV wr (g8 + 1) g8 ts (intake xs lim now (ar.drop s.a) s.a s.qs).2 vs ∧ Below w.heap.size w wr
/-- While the first queue that holds something is looked for in the copy of the queues. -/
def FirstI (wc : World) (n fq : Nat) (cnt i : Value) (wx : World) : Prop := ∃ b : Nat, b ≤ fq ∧ cnt = .int .i64 (n : Int) ∧ i = .int .i64 (b : Int) ∧ wx = wc

set_option maxRecDepth 100000 in
set_option maxHeartbeats 4000000 in
theorem runBands_any (A : Option Addr) (c : Nat) (xs : List Int) (B : Option Addr) (m d : Nat) (ar : List Marked) (lim : Int) (w : World) (hx : bandMapB xs = true) (ha : arrB ar = true) (hl0 : 0 < lim) (hl1 : lim ≤ 1048576)
    (hr : Rd w 1 A 16 (xs.map (Value.int .i64))) (hs : Rd w 2 B m (ar.flatMap encMarked)) :
    Calls Try.prog 51 #[.slice A 16 c, .slice B m d, .int .i64 lim] w fun e w' => e = .returned (.slice (some ⟨w.heap.size + 1, 0, none⟩) m m) ∧ Blk w' (w.heap.size + 1) 3 ((bandsRun xs ar lim).map (Value.int .i64)) ∧ Below w.heap.size w w' := by
  obtain ⟨i0, hi, hz0, hz1, hz2⟩ := info_parts infoIntB
  have hl : ar.length = m := by have h1 := hs.1; rw [flat_len encMarked 2 encMarked_len] at h1; omega
  have h40 : m ≤ 40 := by have := arr_len ha; omega
  go_enter Try.func51, Try.ntmps51
  go_wp2_with fail
  refine (repeatAll_any (-1) m _ _ _ _ h40 (Rd.of_blk (Blk.new w _ _) rfl)).mono ?_
  rintro e w1 ⟨rfl, hB1, hb1⟩
  have hb0 := ((ext_refl w).alloc (Nat.le_refl _) (.cells #[.int .i64 (-1)] 3)).trans (hb1.mono (by simp))
  rw [show (w.alloc (.cells #[.int .i64 (-1)] 3)).heap.size = w.heap.size + 1 by simp] at hB1
  clear hb1
  have y1 := hB1.lt
  have e0 : List.replicate m (Value.int .i64 (-1)) = ((bStart ar).out).map (Value.int .i64) := by simp [bStart, hl]
  rw [e0] at hB1
  have HB0 := Lib.hid (hB1.alloc (.cells (List.toArray (List.replicate 8 (.slice none 0 0))) 64))
  have HB1 := Lib.hid (hb0.alloc hb0.size (.cells (List.toArray (List.replicate 8 (.slice none 0 0))) 64))
  have HQ0 := Lib.hid (QsV.start (base := w1.heap.size + 1) (Nat.lt_succ_self _) (by simp) (Blk.new w1 64 (List.replicate 8 (.slice none 0 0))))
  clear hB1 hb0 e0
  go_wp2_with fail
  generalize w1.heap.size = g8 at *
  go_loopw [9, 10, 11] (RunI w g8 3 64 xs ar lim) (fun n i _ _ => 2 * (m - (intOf i).toNat) + (intOf n).toNat)
  case atStart => exact ⟨2 * ar.length, bStart ar, _, bInv_start ha, rfl, rfl, rfl, rfl, HB0.out, HQ0.out, HB1.out⟩
  case round =>
    obtain ⟨f, s, vs, hi2, hrun, rfl, rfl, rfl, hB, hQ, hb⟩ := hrel
    have hx8 := fun x : Marked => bandN_lt hx x
    have han := hi2.an
    have htt := hi2.q.tot
    cases hd : bDone ar s with
    | true =>
      simp only [bDone, Bool.and_eq_true, decide_eq_true_eq, beq_iff_eq] at hd
      have e1 : s.a = m := by omega
      have e2 := hd.1
      rw [bRun_done (by simp [bDone, hd])] at hrun
      rw [hrun] at hB
      rw [e1, e2]
      have HB := Lib.hid hB
      have HBL := Lib.hid hb
      clear hB hb hQ hi2 hrun
      go_wp2_with fail
      go_ret
      exact ⟨rfl, HB.out, HBL.out⟩
    | false =>
      have hN := now_bd ha hi2 hd
      have hsn := hi2.n0
      have HD := Lib.hid hd
      have HI := Lib.hid hi2
      have HR := Lib.hid hrun
      have HX := Lib.hid hx8
      have HA := Lib.hid ha
      have HXS := Lib.hid hx
      have HB := Lib.hid hB
      have HQ := Lib.hid hQ
      clear hd hi2 hrun hx8 ha hx hB hQ HB0 HB1 HQ0
      go_upto_region 6 with fail
      go_cut [9, 27] (fun s9 s27 wx => s9 = .int .i64 (total s.qs : Nat) ∧ s27 = .bool true ∧ wx = wr)
      case first =>
        by_cases h0 : total s.qs = 0
        · have hd := HD.out
          simp only [bDone, Bool.and_eq_false_iff, beq_eq_false_iff_ne, decide_eq_false_iff_not] at hd
          have e1 : ((s.a : Int) < (m : Int)) := by omega
          have e2 : ¬ ((0 : Int) < (total s.qs : Nat)) := by omega
          have e3 : decide (0 < total s.qs) = false := by simpa using h0
          go_wp2_with fail
          go_meet
          exact ⟨by first | rfl | rw [h0]; rfl, rfl, rfl⟩
        · have e2 : (0 : Int) < (total s.qs : Nat) := by omega
          have e3 : decide (0 < total s.qs) = true := by simpa using e2
          go_wp2_with fail
          go_meet
          exact ⟨rfl, rfl, rfl⟩
      case rest =>
        obtain ⟨rfl, rfl, rfl⟩ := hcut
        go_upto_if 31 with fail
        go_cut [9, 11] (fun s9 s11 wx => s9 = .int .i64 (total s.qs : Nat) ∧ s11 = .int .i64 (nowOf ar s) ∧ wx = wc)
        case first =>
          by_cases h0 : total s.qs = 0
          · have e1 : ((total s.qs : Nat) : Int) = 0 := by omega
            have hd := HD.out
            simp only [bDone, Bool.and_eq_false_iff, beq_eq_false_iff_ne, decide_eq_false_iff_not] at hd
            have hlt : s.a < m := by omega
            obtain ⟨b2, o2, rfl, hbl2, hcell⟩ := hs.2 (by omega)
            have hlx : s.a < ar.length := by omega
            have hx : ar[s.a]? = some ar[s.a] := List.getElem?_eq_getElem hlx
            generalize ar[s.a] = x at hx
            have hbw := hb.size
            have c0 : wc.cell? ⟨b2, o2 + (s.a * 2 + 0), none⟩ = some (.int .i64 x.tick) := (hb.cell (p := ⟨b2, o2 + (s.a * 2 + 0), none⟩) hbl2).trans (hcell _ _ ((flat_get encMarked 2 encMarked_len ar s.a 0 x hx (by omega)).trans rfl))
            simp only [Nat.add_zero] at c0
            have eN : nowOf ar s = max s.now x.tick := by simp [nowOf, h0, tickAt, hx]
            clear hx hcell hd
            go_wp2_with fail
            all_goals go_meet
            all_goals exact ⟨by first | rfl | rw [e1], by rw [eN]; congr 1; omega, rfl⟩
          · have e1 : ¬ ((total s.qs : Nat) : Int) = 0 := by omega
            have eN : nowOf ar s = s.now := by simp [nowOf, h0]
            go_wp2_with fail
            go_meet
            exact ⟨by first | rfl | rw [e1], by rw [eN], rfl⟩
        case rest =>
          obtain ⟨rfl, rfl, rfl⟩ := hcut
          have n0 := hN.1
          have n1 : nowOf ar s ≤ 100081 := by omega
          generalize hNN : nowOf ar s = N at *
          have HNN := Lib.hid hNN
          clear hNN hN
          go_upto_block 2 with fail
          go_cut [9, 10] (OutI w g8 3 64 xs ar lim N s)
          case first =>
            go_wp2_with fail
            go_loopw [9, 10] (InI w g8 3 64 m xs ar lim N s) (fun _ i _ => m - (intOf i).toNat)
            case atStart => exact ⟨s.a, s.qs, vs, Nat.le_refl _, by omega, rfl, HI.out.q, rfl, rfl, HB.out, HQ.out, hb⟩
            case round =>
              clear hb HB HQ
              obtain ⟨k, qs, vs2, hk1, hk2, hin, hQO, rfl, rfl, hB2, hQ2, hb2⟩ := hrel
              have hqt := hQO.tot
              by_cases hlt : k < m
              · have e1 : ((k : Int) < (m : Int)) := by omega
                have hlx : k < ar.length := by omega
                have hx : ar[k]? = some ar[k] := List.getElem?_eq_getElem hlx
                generalize ar[k] = x at hx
                have hxb := (arr_at HA.out hx)
                obtain ⟨b2, o2, rfl, hbl2, hcell⟩ := hs.2 (by omega)
                have hbw2 : b2 < wr.heap.size := Nat.lt_of_lt_of_le hbl2 hb2.size
                have c0 : wr.cell? ⟨b2, o2 + (k * 2 + 0), none⟩ = some (.int .i64 x.tick) := (hb2.cell (p := ⟨b2, o2 + (k * 2 + 0), none⟩) hbl2).trans (hcell _ _ ((flat_get encMarked 2 encMarked_len ar k 0 x hx (by omega)).trans rfl))
                simp only [Nat.add_zero] at c0
                by_cases ht : x.tick = N
                · rw [ht] at c0
                  have c1 : wr.cell? ⟨b2, o2 + (k * 2 + 1), none⟩ = some (.int .i64 x.mark) := (hb2.cell (p := ⟨b2, o2 + (k * 2 + 1), none⟩) hbl2).trans (hcell _ _ ((flat_get encMarked 2 encMarked_len ar k 1 x hx (by omega)).trans rfl))
                  simp only [← Nat.add_assoc] at c1
                  obtain ⟨j, hj⟩ := Int.eq_ofNat_of_zero_le hxb.2.1
                  rw [hj] at c1
                  obtain ⟨b, o, z, rfl, hbl, hz, hba, hcz⟩ := band_at HXS.out hr j
                  have hbw : b < wr.heap.size := Nat.lt_of_lt_of_le hbl hb2.size
                  have hbn : bandN xs x = z := by unfold bandN; rw [hj, hba]; simp
                  have hcz' := (hb2.cell (p := ⟨b, o + j % 16, none⟩) hbl).trans hcz
                  have hj2 : j ≤ 65535 := by omega
                  have hcome := intake_come (xs := xs) (lim := lim) (qs := qs) hx ht
                  rw [hbn] at hcome
                  have hen := enq_ok (lim := lim) hQO hz
                  have HF := Lib.hid (And.intro hB2 (And.intro hQ2 hb2))
                  have HIN := Lib.hid (hcome.symm.trans hin)
                  have HEN := Lib.hid hen
                  have HQO := Lib.hid hQO
                  clear hx hcell hcz hba hj hbn hcome hen hin hB2 hQ2 hQO
                  go_upto_region 13 with fail
                  generalize wr = w1 at *
                  clear c0 c1 hcz' hbw hbw2 hb2
                  obtain ⟨hB3, hQ3, hb3⟩ := HF.out
                  obtain ⟨ad, cap, hv, cv, hqr, fv, hg8⟩ := hQ3.at_ hz
                  have hql := qAt_le_total qs z
                  by_cases hroom : ((qAt qs z).length : Int) < lim
                  · have HE := Lib.hid (show enq lim z k qs = qs.set z (qAt qs z ++ [k]) by unfold enq; rw [if_pos hroom])
                    go_upto_region 14 with fail
                    have hqrA := hqr.later (grown_alloc w1 (.cells #[.int .i64 (k : Int)] 3) (some g8)) (fun g e h => by have := (hqr.own e).1; injection h with h; omega)
                    have HQA := Lib.hid hqrA
                    have HQ3 := Lib.hid hQ3
                    have HB3 := Lib.hid hB3
                    have HB4 := Lib.hid hb3
                    have HHV := Lib.hid hv
                    clear hqrA hQ3 hB3 hb3 HF hqr hv
                    go_wp2_with (at_builtin; refine wpList_qappend rfl (.tmp 72) (.tmp 74) rfl rfl _ (g8 + 1) (.slice ad (qAt qs z).length cap) (nq (qAt qs z)) (.int .i64 (k : Int)) ⟨w1.heap.size, 0, none⟩ 1 rfl rfl HQA.out ?p1 ?p2 ?p3 rfl ?_)
                    case p3 => simp
                    case p1 => simp; omega
                    case p2 => simp [nq]; omega
                    intro v' w4 hq4 hg4 ho4
                    have hgA := (grown_alloc w1 (.cells #[.int .i64 (k : Int)] 3) (Value.slice ad (qAt qs z).length cap).ownBlock).trans hg4
                    have hown : ∀ g, (Value.slice ad (qAt qs z).length cap).ownBlock = some g → g8 + 1 ≤ g := fun g e => ((HQ3.out.row z _ HHV.out).own e).1
                    have hB8 := HQ3.out.blk.grown hgA (fun e => by have := hown _ e.symm; omega)
                    have c4 : w4.cell? ⟨g8, z, none⟩ = some (.slice ad (qAt qs z).length cap) := by rw [hB8.cell]; exact HHV.out
                    have f4 := hB8.frozen z
                    have y4 := hB8.lt
                    have hB5 := (HB3.out.grown hgA (fun e => by have := hown _ e.symm; omega)).far (p := ⟨g8, z, none⟩) (by show w.heap.size + 1 ≠ g8; omega) v'
                    have hb5 := (HB4.out.grown hgA HB4.out.size (fun g e => by have := hown _ e; omega)).setCell (p := ⟨g8, z, none⟩) (by show w.heap.size ≤ g8; omega) v'
                    have hQ5 := HQ3.out.set (q' := qAt qs z ++ [k]) hz HHV.out hgA (by simpa [nq] using hq4) (by rcases ho4 with h | h; exact .inl h; exact .inr ⟨_, by simp, h⟩)
                    obtain ⟨ad2, cap2, rfl⟩ := hq4.shape
                    have htt2 := total_set qs z (qAt qs z ++ [k]) (by rw [HQ3.out.ql]; exact hz)
                    rw [List.length_append, List.length_singleton] at htt2
                    simp only [List.length_append, List.length_singleton] at hB5 hQ5 hb5
                    have H5 := Lib.hid (And.intro hB5 (And.intro hQ5 hb5))
                    clear hB5 hb5 hQ5 hq4 hg4 ho4 hgA hB8 hown HQA HQ3 HB3 HB4
                    go_wp2_with fail
                    go_roundw
                    case rel =>
                      obtain ⟨hB5, hQ5, hb5⟩ := H5.out
                      have hin5 := HIN.out
                      have hen5 := HEN.out
                      rw [HE.out] at hin5 hen5
                      have hr2 : InI w g8 3 64 m xs ar lim N s (.int .i64 ((total qs : Nat) + 1)) (.int .i64 ((k : Int) + 1)) _ := ⟨k + 1, _, _, by omega, by omega, hin5, hen5, by rw [show total (qs.set z (qAt qs z ++ [k])) = total qs + 1 by omega]; simp, by simp, hB5, hQ5, hb5⟩
                      first | exact hr2 | ((repeat apply Exists.intro); exact ⟨hr2, rfl⟩)
                    case measure => simp [intOf]; omega
                  · have HE := Lib.hid (show enq lim z k qs = qs by unfold enq; rw [if_neg hroom])
                    go_wp2_with fail
                    go_roundw
                    case rel =>
                      have hin5 := HIN.out
                      have hen5 := HEN.out
                      rw [HE.out] at hin5 hen5
                      have hr2 : InI w g8 3 64 m xs ar lim N s (.int .i64 (total qs : Nat)) (.int .i64 ((k : Int) + 1)) w1 := ⟨k + 1, _, _, by omega, by omega, hin5, hen5, rfl, by simp, hB3, hQ3, hb3⟩
                      first | exact hr2 | ((repeat apply Exists.intro); exact ⟨hr2, rfl⟩)
                    case measure => simp [intOf]; omega
                · have HST := Lib.hid (intake_stop (xs := xs) (lim := lim) (qs := qs) (fun y hy => by rw [hx] at hy; rw [← Option.some.inj hy]; exact ht))
                  clear hx hcell
                  go_wp2_with fail
                  go_meet
                  rw [HST.out] at hin
                  exact ⟨vs2, by rw [← hin], by rw [← hin], hB2, by rw [← hin]; exact hQ2, hb2⟩
              · have e1 : ¬ ((k : Int) < (m : Int)) := by omega
                go_wp2_with fail
                go_meet
                rw [intake_stop (fun y hy => by have := (List.getElem?_eq_some_iff.1 hy).1; omega)] at hin
                exact ⟨vs2, by rw [← hin], by rw [← hin], hB2, by rw [← hin]; exact hQ2, hb2⟩
          case rest =>
            clear hb HB HQ
            obtain ⟨vs3, rfl, rfl, hB3, hQ3, hb3⟩ := hcut
            have hst := step_in HA.out HX.out hl0 HI.out HD.out
            have hiv := bInv_step HA.out HX.out hl0 HI.out HD.out
            have hrn := HR.out
            rw [bRun_step (now_bd HA.out HI.out HD.out).2.2.2 HD.out] at hrn
            have hbs : bStep xs ar lim s = ⟨N + 1, (intake xs lim N (ar.drop s.a) s.a s.qs).1, (bSend N (intake xs lim N (ar.drop s.a) s.a s.qs).2 s.out).1, (bSend N (intake xs lim N (ar.drop s.a) s.a s.qs).2 s.out).2⟩ := by unfold bStep; simp only [HNN.out]
            have hio := (intake_ok (lim := lim) (now := N) HX.out (ar.drop s.a) s.a s.qs HI.out.q).2.2.2.2.1
            rw [HNN.out] at hst
            rw [hbs] at hiv hrn
            clear hbs
            generalize intake xs lim N (ar.drop s.a) s.a s.qs = T at *
            obtain ⟨a3, q3⟩ := T
            simp only at hst hiv hrn hB3 hQ3 hio ⊢
            obtain ⟨hqo, ha3, ha4, ht0, hms, hnx⟩ := hst
            have hf3 := firstQ_lt ht0
            have hf8 : firstQ q3 < 8 := by have := hqo.len; omega
            have hne := firstQ_ne hf3
            have hhd := head_lt hqo hf3
            have hsd : bSend N q3 s.out = (q3.set (firstQ q3) (qAt q3 (firstQ q3)).tail, s.out.set ((qAt q3 (firstQ q3)).headD 0) N) := by unfold bSend; rw [if_pos hf3]
            rw [hsd] at hiv hrn
            obtain ⟨i3, tl, htl⟩ : ∃ i3 tl, qAt q3 (firstQ q3) = i3 :: tl := by
              cases h : qAt q3 (firstQ q3) with
              | nil => exact absurd h hne
              | cons y ys => exact ⟨y, ys, rfl⟩
            have hbef : ∀ b, b < firstQ q3 → qAt q3 b = [] := fun b h => firstQ_before h
            have htt3 := total_set q3 (firstQ q3) tl hf3
            rw [htl] at hhd hiv hrn htt3
            simp only [List.headD_cons, List.tail_cons, List.length_cons] at hhd hiv hrn htt3
            have h3t : total q3 ≤ a3 := hqo.tot
            have hmb : 2 * (m - a3) + total (q3.set (firstQ q3) tl) < 2 * (m - s.a) + total s.qs := by omega
            generalize firstQ q3 = fq at *
            have HIV := Lib.hid hiv
            have HRN := Lib.hid hrn
            have HB3 := Lib.hid hB3
            have HB4 := Lib.hid hb3
            have HQ3 := Lib.hid hQ3
            have HBF := Lib.hid hbef
            have HTL := Lib.hid htl
            have HMB := Lib.hid hmb
            clear hio hiv hrn hB3 hb3 hbef hms hnx hqo hsd hne hf3 htl hmb hQ3
            go_upto_region 16 with fail
            go_cut [79, 80] (fun s79 s80 wx => s79 = .agg vs3.toArray ∧ s80 = .int .i64 0 ∧ wx = wc)
            case first =>
              obtain ⟨v0, v1, v2, v3, v4, v5, v6, v7, rfl⟩ := list8 HQ3.out.vl
              have d0 := HQ3.out.blk.cell 0
              have d1 := HQ3.out.blk.cell 1
              have d2 := HQ3.out.blk.cell 2
              have d3 := HQ3.out.blk.cell 3
              have d4 := HQ3.out.blk.cell 4
              have d5 := HQ3.out.blk.cell 5
              have d6 := HQ3.out.blk.cell 6
              have d7 := HQ3.out.blk.cell 7
              have dl := HQ3.out.blk.lt
              simp only [List.getElem?_cons_zero, List.getElem?_cons_succ] at d0 d1 d2 d3 d4 d5 d6 d7
              go_wp2_with fail
              go_meet
              exact ⟨rfl, rfl, rfl⟩
            case rest =>
            obtain ⟨rfl, rfl, rfl⟩ := hcut
            go_wp2_with fail
            go_loopw [9, 80] (FirstI wc (total q3) fq) (fun _ i _ => 8 - (intOf i).toNat)
            case atStart => exact ⟨0, Nat.zero_le _, rfl, rfl, rfl⟩
            case round =>
              obtain ⟨b, hbq, rfl, rfl, rfl⟩ := hrel
              obtain ⟨ad, cap, hv, cv, hqr, fv, hg8⟩ := HQ3.out.at_ (b := b) (by omega)
              have e1 : (b : Int) < 8 := by omega
              by_cases hlt : b < fq
              · rw [HBF.out b hlt] at cv
                rw [HBF.out b hlt] at hv
                simp only [List.length_nil] at cv hv
                have hix := fun W => idx8 HQ3.out.vl hv W
                clear hqr hv
                go_wp2_with fail
                go_roundw
                case rel => first | exact ⟨b + 1, by omega, rfl, by simp, rfl⟩ | ((repeat apply Exists.intro); exact ⟨⟨b + 1, by omega, rfl, by simp, rfl⟩, rfl⟩)
                case measure => simp [intOf]; omega
              · obtain rfl : b = fq := by omega
                rw [HTL.out] at hv cv hqr
                obtain ⟨g, o, rfl, hg1, hg2, hg3, cg⟩ := hqr.head
                simp only [List.length_cons] at hv cv hqr hg3
                have hix := fun W => idx8 HQ3.out.vl hv W
                have HHV := Lib.hid hv
                have HQR := Lib.hid hqr
                clear hv hqr
                obtain ⟨y, cy⟩ : ∃ y, wr.cell? ⟨w.heap.size + 1, i3, none⟩ = some (.int .i64 y) := by rw [HB3.out.cell, List.getElem?_map, List.getElem?_eq_getElem (by rw [HI.out.ol]; omega)]; exact ⟨_, rfl⟩
                have fy := HB3.out.frozen i3
                have hy := HB3.out.lt
                have hB5 : Blk (wr.setCell ⟨w.heap.size + 1, i3, none⟩ (.int .i64 N)) (w.heap.size + 1) 3 ((s.out.set i3 N).map (Value.int .i64)) := by
                  have h := HB3.out.set_ i3 (.int .i64 N)
                  rw [← List.map_set] at h
                  exact h
                have hQ5 := HQ3.out.grown (grown_set wr (w.heap.size + 1) i3 (.int .i64 N)) (fun g e => by injection e with e; omega)
                have hb5 : Below w.heap.size w (wr.setCell ⟨w.heap.size + 1, i3, none⟩ (.int .i64 N)) := HB4.out.setCell (Nat.le_succ _) _
                have H5 := Lib.hid (And.intro hB5 (And.intro hQ5 hb5))
                clear hB5 hQ5 hb5
                go_upto_region 21 with fail
                generalize (wr.setCell ⟨w.heap.size + 1, i3, none⟩ (.int .i64 N)) = w5 at H5 ⊢
                clear cv cg cy fy hy fv hg8 hg1 hg2
                obtain ⟨hB5, hQ5, hb5⟩ := H5.out
                have hr5 := hQ5.row b _ HHV.out
                have cv := (hQ5.blk.cell b).trans HHV.out
                have fv := hQ5.blk.frozen b
                have hg8 := hQ5.blk.lt
                have hgo := hr5.own (g := g) rfl
                have hnl : (nq tl).length = tl.length := by simp [nq]
                rw [HTL.out, show nq (i3 :: tl) = .int .i64 (i3 : Int) :: nq tl from rfl, ← hnl] at hr5
                have hrt := hr5.tail
                rw [hnl] at hrt
                have hQ6 := hQ5.set (q' := tl) hf8 HHV.out (World.grownBy.refl w5 _) hrt (.inl rfl)
                have hB6 := hB5.far (p := ⟨g8, b, none⟩) (by show w.heap.size + 1 ≠ g8; omega) (.slice (some ⟨g, if cap = 1 then o else o + 1, none⟩) tl.length (cap - 1))
                have hb6 := hb5.setCell (p := ⟨g8, b, none⟩) (by show w.heap.size ≤ g8; omega) (.slice (some ⟨g, if cap = 1 then o else o + 1, none⟩) tl.length (cap - 1))
                have H6 := Lib.hid (And.intro hB6 (And.intro hQ6 hb6))
                clear H5 hB5 hQ5 hb5 hr5 hrt hQ6 hB6 hb6
                go_wp2_with fail
                go_roundw
                case rel =>
                  obtain ⟨hB6, hQ6, hb6⟩ := H6.out
                  have ee : (if cap = 1 then some (⟨g, o, none⟩ : Addr) else some ⟨g, o + 1, none⟩) = some ⟨g, if cap = 1 then o else o + 1, none⟩ := by split <;> rfl
                  rw [ee]
                  exact ⟨f - 1, ⟨N + 1, a3, q3.set b tl, s.out.set i3 N⟩, _, HIV.out, HRN.out, by rw [show ((total q3 : Nat) : Int) - 1 = ((total (q3.set b tl) : Nat) : Int) by omega], rfl, rfl, hB6, hQ6, hb6⟩
                case measure =>
                  have hmb := HMB.out
                  have e1 : (intOf (.int .i64 ((total q3 : Nat) - 1))).toNat = total (q3.set b tl) := by simp only [intOf]; omega
                  rw [e1]
                  simpa [intOf] using hmb

end Go.Proofs.Ytgdccclpibbbeaa
