/- MergeFlows: contract of the program's. No condition. -/
import Derived.Test.YtnnihiajggdplaaTrMa
namespace Go.Proofs.Ytnnihiajggdplaa
open Go.RowKit Go.Sort

def mgB (xs : List Flow) (t : Int) : Bool := decide (xs.length ≤ 6) && inB t 0 100000 && xs.all flowOk
def mgL (xs : List Flow) (t : Int) : List Timed := xs.flatMap fun f => untilL f t
def mgR (xs : List Flow) (t : Int) : List Timed := if mgB xs t then renum ((srt tkey (mgL xs t)).take 60) else []
theorem srt_len (l : List Timed) : (srt tkey l).length = l.length := (srt_ok l).2.len
theorem mgL_len {t : Int} : ∀ (xs : List Flow), (mgL xs t).length ≤ xs.length * 60
  | [] => by simp [mgL]
  | f :: r => by
    have h1 := until_len f t
    have h2 := mgL_len (t := t) r
    have e : mgL (f :: r) t = untilL f t ++ mgL r t := by simp [mgL]
    rw [e, List.length_append, List.length_cons, Nat.add_mul]; omega
theorem mgR_len (xs : List Flow) (t : Int) : (mgR xs t).length ≤ 60 := by
  unfold mgR
  split
  · rw [renum_len, List.length_take]; omega
  · simp
theorem mgL_succ {xs : List Flow} {t : Int} {k : Nat} {f : Flow} (h : xs[k]? = some f) : mgL (xs.take (k + 1)) t = mgL (xs.take k) t ++ untilL f t := by
  rw [List.take_add_one, h]
  simp [mgL]
theorem mg_bad {xs : List Flow} {t : Int} (h : mgB xs t = false) : mgR xs t = [] := by simp [mgR, h]
theorem mg_good {xs : List Flow} {t : Int} (h : mgB xs t = true) : mgR xs t = renum ((srt tkey (mgL xs t)).take 60) := by simp [mgR, h]
theorem flows_false {xs : List Flow} {k : Nat} {f : Flow} (h : xs[k]? = some f) (hf : flowOk f = false) : xs.all flowOk = false := by
  cases ha : xs.all flowOk with
  | false => rfl
  | true =>
    have := List.all_eq_true.1 ha f (List.mem_of_getElem? h)
    rw [hf] at this; cases this
theorem all_take {xs : List Flow} {k : Nat} {f : Flow} (h : xs[k]? = some f) (h1 : (xs.take k).all flowOk = true) (hf : flowOk f = true) : (xs.take (k + 1)).all flowOk = true := by
  rw [List.take_add_one, h]
  simp only [Option.toList_some, List.all_append, h1, List.all_cons, hf, List.all_nil, Bool.and_self]
theorem ownT_app {w wr w1 : World} {t : TypeId} {v v' : Value} {l rs : List Timed} (h : OwnT w t v l wr) (h1 : w1.ownsRow w.heap.size t 7 v' (l.length + rs.length) (l.flatMap encTimed ++ rs.flatMap encTimed)) (hg : wr.grownBy w1 v.ownBlock) : OwnT w t v' (l ++ rs) w1 := by
  refine ⟨by rw [List.length_append, List.flatMap_append]; exact h1, own_grown h.2 h.1 h.2.size hg⟩
theorem own_cap {w : World} {base n c : Nat} {A : Option Addr} {cs : List Value} (h : w.ownsRow base 58 7 (.slice A n c) n cs) : n ≤ c := by
  rcases h.2 with ⟨_, h0⟩ | ⟨g, cap, cur, hv, _, _, hnc, _⟩
  · omega
  · injection hv with h1 h2 h3
    subst h3; exact hnc
def MgRel (w : World) (n : Nat) (xs : List Flow) (t : Int) (out i : Value) (wr : World) : Prop := ∃ k : Nat, k ≤ n ∧ i = .int .i64 k ∧ (xs.take k).all flowOk = true ∧ OwnT w 58 out (mgL (xs.take k) t) wr
def MiRel (w : World) (A : Option Addr) (c : Nat) (l : List Timed) (i : Value) (wr : World) : Prop := ∃ k : Nat, k ≤ l.length ∧ i = .int .i64 k ∧ wr.ownsRow w.heap.size 58 7 (.slice A l.length c) l.length ((idTo k l).flatMap encTimed) ∧ Below w.heap.size w wr

set_option maxRecDepth 100000 in
set_option maxHeartbeats 4000000 in
theorem implMerge_any (A : Option Addr) (n c : Nat) (xs : List Flow) (t : Int) (w : World) (hn : n ≤ 1048576) (hl : xs.length = n) (hr : Rd w 9 A n (xs.flatMap encFlow)) :
    Calls Try.prog 28 #[.slice A n c, .int .i64 t] w (RetTB 58 w (mgR xs t) (mgB xs t)) := by
  obtain ⟨i0, hi, hz0, hz1, hz2⟩ := info_parts infoTimed
  by_cases h6 : 6 < n
  · have hb : mgB xs t = false := by simp [mgB]; omega
    rw [mg_bad hb, hb]
    have h6z : (6 : Int) < (n : Int) := by omega
    clear hb hl
    go_enter Try.func28, Try.ntmps28
    go_wp2_with (go_at_call 59; refine (isTicks_any _ _).mono ?_; rintro e w' ⟨rfl, rfl⟩)
    go_ret2
    exact retTB_nil (ext_refl w)
  have h6z : ¬ (6 : Int) < (n : Int) := by omega
  cases h2 : inB t 0 100000 with
  | false =>
    have hb : mgB xs t = false := by simp [mgB, h2]
    rw [mg_bad hb, hb]
    clear hb hl
    go_enter Try.func28, Try.ntmps28
    go_wp2_with (go_at_call 59; refine (isTicks_any _ _).mono ?_; rintro e w' ⟨rfl, rfl⟩)
    go_ret2
    exact retTB_nil (ext_refl w)
  | true =>
    have HL := Lib.hid hl
    have h6l := hl
    rw [← h6l] at h6
    have H6 := Lib.hid h6
    clear hl h6l h6
    go_enter Try.func28, Try.ntmps28
    go_wp2_with (go_at_call 59; refine (isTicks_any _ _).mono ?_; rintro e w' ⟨rfl, rfl⟩)
    go_loopw [6, 21] (MgRel w n xs t) (fun _ i _ => n - (intOf i).toNat)
    case atStart => exact ⟨0, Nat.zero_le _, rfl, rfl, ownT_empty_at (ext_refl w)⟩
    case round =>
      obtain ⟨k, hk, rfl, hall, hO⟩ := hrel
      have HALL := Lib.hid hall
      have hb := hO.2
      clear hall
      by_cases hlt : k < n
      · have kz : (k : Int) < (n : Int) := by omega
        obtain ⟨b, o, rfl, hblb, hcellb⟩ := hr.2 (by omega)
        have hblrbf : b < wr.heap.size := Nat.lt_of_lt_of_le hblb hb.size
        have hlxf : k < xs.length := by rw [HL.out]; omega
        have hxf : xs[k]? = some xs[k] := List.getElem?_eq_getElem hlxf
        generalize xs[k] = f at hxf
        have c0 : wr.cell? ⟨b, o + (k * 9 + 0), none⟩ = some (.int .i64 f.key) := (hb.cell (p := ⟨b, o + (k * 9 + 0), none⟩) hblb).trans (hcellb _ _ ((flat_get encFlow 9 encFlow_len xs k 0 f hxf (by omega)).trans rfl))
        have c1 : wr.cell? ⟨b, o + (k * 9 + 1), none⟩ = some (.int .i64 f.source) := (hb.cell (p := ⟨b, o + (k * 9 + 1), none⟩) hblb).trans (hcellb _ _ ((flat_get encFlow 9 encFlow_len xs k 1 f hxf (by omega)).trans rfl))
        have c2 : wr.cell? ⟨b, o + (k * 9 + 2), none⟩ = some (.int .i64 f.dest) := (hb.cell (p := ⟨b, o + (k * 9 + 2), none⟩) hblb).trans (hcellb _ _ ((flat_get encFlow 9 encFlow_len xs k 2 f hxf (by omega)).trans rfl))
        have c3 : wr.cell? ⟨b, o + (k * 9 + 3), none⟩ = some (.int .i64 f.port) := (hb.cell (p := ⟨b, o + (k * 9 + 3), none⟩) hblb).trans (hcellb _ _ ((flat_get encFlow 9 encFlow_len xs k 3 f hxf (by omega)).trans rfl))
        have c4 : wr.cell? ⟨b, o + (k * 9 + 4), none⟩ = some (.int .i64 f.mark) := (hb.cell (p := ⟨b, o + (k * 9 + 4), none⟩) hblb).trans (hcellb _ _ ((flat_get encFlow 9 encFlow_len xs k 4 f hxf (by omega)).trans rfl))
        have c5 : wr.cell? ⟨b, o + (k * 9 + 5), none⟩ = some (.int .i64 f.start) := (hb.cell (p := ⟨b, o + (k * 9 + 5), none⟩) hblb).trans (hcellb _ _ ((flat_get encFlow 9 encFlow_len xs k 5 f hxf (by omega)).trans rfl))
        have c6 : wr.cell? ⟨b, o + (k * 9 + 6), none⟩ = some (.int .i64 f.gap) := (hb.cell (p := ⟨b, o + (k * 9 + 6), none⟩) hblb).trans (hcellb _ _ ((flat_get encFlow 9 encFlow_len xs k 6 f hxf (by omega)).trans rfl))
        have c7 : wr.cell? ⟨b, o + (k * 9 + 7), none⟩ = some (.int .i64 f.burst) := (hb.cell (p := ⟨b, o + (k * 9 + 7), none⟩) hblb).trans (hcellb _ _ ((flat_get encFlow 9 encFlow_len xs k 7 f hxf (by omega)).trans rfl))
        have c8 : wr.cell? ⟨b, o + (k * 9 + 8), none⟩ = some (.int .i64 f.size) := (hb.cell (p := ⟨b, o + (k * 9 + 8), none⟩) hblb).trans (hcellb _ _ ((flat_get encFlow 9 encFlow_len xs k 8 f hxf (by omega)).trans rfl))
        simp only [Nat.add_zero, ← Nat.add_assoc] at c0 c1 c2 c3 c4 c5 c6 c7 c8
        have HX := Lib.hid hxf
        clear hxf hlxf hcellb
        have B0 := Blk.new wr 25 [.int .i64 f.key, .int .i64 f.source, .int .i64 f.dest, .int .i64 f.port, .int .i64 f.mark, .int .i64 f.start, .int .i64 f.gap, .int .i64 f.burst, .int .i64 f.size]
        have hO0 := ownT_alloc hO (.cells (List.toArray [.int .i64 f.key, .int .i64 f.source, .int .i64 f.dest, .int .i64 f.port, .int .i64 f.mark, .int .i64 f.start, .int .i64 f.gap, .int .i64 f.burst, .int .i64 f.size]) 25)
        have HO0 := Lib.hid hO0
        clear hO0
        cases h1 : flowOk f with
        | false =>
          have hbb : mgB xs t = false := by unfold mgB; rw [flows_false HX.out h1]; simp
          have HBB := Lib.hid hbb
          have H1 := Lib.hid (show flowB f.key f.source f.dest f.port f.mark f.start f.gap f.burst f.size = false from h1)
          clear hbb h1
          go_wp2_with fail
          refine (implIsFlow_any f.key f.source f.dest f.port f.mark f.start f.gap f.burst f.size _).mono ?_; rintro e w1 ⟨rfl, hb1⟩
          rw [H1.out]
          have hO1 := Lib.hid (ownT_ext HO0.out hb1)
          go_wp2_with fail
          go_ret2
          rw [mg_bad HBB.out, HBB.out]
          exact retTB_nil hO1.out.2
        | true =>
          have H1 := Lib.hid (show flowB f.key f.source f.dest f.port f.mark f.start f.gap f.burst f.size = true from h1)
          have HFL := Lib.hid h1
          clear h1
          go_wp2_with fail
          refine (implIsFlow_any f.key f.source f.dest f.port f.mark f.start f.gap f.burst f.size _).mono ?_; rintro e w1 ⟨rfl, hb1⟩
          rw [H1.out]
          have D0 := B0.below hb1
          have HO1 := Lib.hid (ownT_ext HO0.out hb1)
          clear B0 HO0 hO hb1 hb c0 c1 c2 c3 c4 c5 c6 c7 c8
          obtain ⟨y0, x0, d0, f0⟩ := D0.nine
          go_wp2_with fail
          refine (flowUntil_any f t _ HFL.out).mono ?_; rintro e w2 ⟨A2, c2, rfl, ow2, hb2⟩
          have hO2 := ownT_ext HO1.out hb2
          have hs2 := hO2.2.size
          have hlen := mgL_len (t := t) (xs.take k)
          have hlk : (xs.take k).length ≤ 6 := by rw [List.length_take]; have := H6.out; omega
          have hul := until_len f t
          have hsum : (mgL (xs.take k) t).length + (untilL f t).length ≤ 420 := by
            have := Nat.mul_le_mul_right 60 hlk
            omega
          have HS := Lib.hid (mgL_succ (t := t) HX.out)
          have HAL := Lib.hid (all_take HX.out HALL.out HFL.out)
          generalize mgL (xs.take k) t = l at *
          generalize untilL f t = rs at *
          clear y0 x0 d0 f0 D0 hb2 HO1 hlen hul hlk
          go_wp2_with (at_builtin; refine wpList_append_rd (size := 7) (bytes := 56) (base := w.heap.size) rfl (.tmp 28) (.tmp 31) rfl Try.underlying42 hi hz0 hz1 hz2 rfl (by decide) rfl hO2.1 A2 rs.length c2 (rs.flatMap encTimed) rfl (Rd.of_own ow2) (timeds_one rs) ?mgf1 ?mgf2 ?mgf3 ?_)
          case mgf1 => unfold maxLen; omega
          case mgf2 => omega
          case mgf3 => omega
          intro v' w4 hown1 hg1
          have HO4 := Lib.hid (ownT_app hO2 hown1 hg1)
          clear hO2 hown1 hg1 ow2
          go_wp2_with fail
          go_roundw
          case rel =>
            have hr2 : MgRel w n xs t v' (.int .i64 ((k : Int) + 1)) w4 := ⟨k + 1, by omega, by simp, HAL.out, by rw [HS.out]; exact HO4.out⟩
            first | exact hr2 | ((repeat apply Exists.intro); exact ⟨hr2, rfl⟩)
          case measure => simp [intOf]; omega
      · obtain rfl : k = n := by omega
        have kz : ¬ (k : Int) < (k : Int) := by omega
        have hall := HALL.out
        have hlen := mgL_len (t := t) xs
        rw [List.take_of_length_le (by rw [HL.out]; omega)] at hall hO
        have hbb : mgB xs t = true := by unfold mgB; rw [hall, h2, decide_eq_true (Nat.not_lt.1 H6.out)]; rfl
        have HBB := Lib.hid hbb
        have hlN : (mgL xs t).length ≤ 360 := by have := H6.out; omega
        have HML := Lib.hid (mg_good hbb)
        generalize mgL xs t = L at *
        obtain ⟨N, hN⟩ : ∃ N, N = L.length := ⟨_, rfl⟩
        unfold OwnT at hO
        rw [← hN] at hO hlN
        obtain ⟨A4, c4, rfl⟩ := own_shape hO.1
        have hc := sortStable_own w w.heap.size N c4 A4 L wr hO.1 hN.symm hO.2 (by omega)
        have HN := Lib.hid hN
        have hcN := own_cap hO.1
        clear hO hall hlen hbb hb hN HALL
        obtain ⟨K, hK, hKN, hKv⟩ : ∃ K : Nat, (K = min N 60) ∧ K ≤ N ∧ ((N ≤ 60 ∧ K = N) ∨ (60 < N ∧ K = 60)) := ⟨min N 60, rfl, by omega, by omega⟩
        have HK := Lib.hid hK
        clear hK
        have hmn : min (N : Int) 60 = (K : Int) := by omega
        have hKc : (K : Int) ≤ (c4 : Int) := by omega
        have hKc2 : K ≤ c4 := by omega
        go_wp2_with (go_at_call 62; refine hc.mono ?_; rintro e w5 ⟨rfl, ho5, hb5⟩)
        have hKl : ((srt tkey L).take K).length = K := by rw [List.length_take, srt_len]; have := HN.out; omega
        have hcl := cloneT_any A4 K c4 ((srt tkey L).take K) w5 (by omega) hKl (Rd.take_ (Rd.of_own ho5) (by rw [srt_len]; exact HN.out.symm) hKN)
        have hfin : mgR xs t = renum ((srt tkey L).take K) := by
          rw [HML.out]
          rcases hKv with ⟨h1, h2⟩ | ⟨h1, h2⟩
          · rw [List.take_of_length_le (l := srt tkey L) (by rw [srt_len]; have := HN.out; omega), List.take_of_length_le (l := srt tkey L) (by rw [srt_len]; have := HN.out; omega)]
          · rw [h2]
        have HFIN := Lib.hid hfin
        generalize (srt tkey L).take K = l at *
        have HKL := Lib.hid hKl
        have HB5 := Lib.hid hb5
        clear hc ho5 hb5 hKl hfin hmn
        refine hcl.mono ?_; rintro e w6 ⟨A6, c6, rfl, ow6, hb6⟩
        have o6 := own_base ow6 HB5.out.size
        have z6 := ext_trans HB5.out hb6
        have hl60 : l.length ≤ 60 := by have := HKL.out; omega
        have H6b := Lib.hid (And.intro o6 z6)
        clear hcl ow6 hb6 o6 z6
        go_wp2_with fail
        go_loopw [44] (MiRel w A6 c6 l) (fun i _ => l.length - (intOf i).toNat)
        case atStart => exact ⟨0, Nat.zero_le _, rfl, by rw [idTo_zero]; exact H6b.out.1, H6b.out.2⟩
        case round =>
          clear H6b
          obtain ⟨k2, hk2, rfl, ho, hbw⟩ := hrel
          by_cases hlt2 : k2 < l.length
          · have kz2 : (k2 : Int) < (l.length : Int) := by omega
            have hil := idTo_len k2 l hk2
            obtain ⟨g, rfl, hR⟩ := RowW.of_own (d := (idTo k2 l).toArray) (w0 := w) ho (by omega) (by simpa using hil) hbw
            have hx : (idTo k2 l).toArray[k2]! = l[k2] := by
              have h1 := idTo_get hlt2
              obtain ⟨h3, h4⟩ := List.getElem?_eq_some_iff.1 h1
              rw [getElem!_pos _ _ (by simpa using h3)]
              simpa using h4
            have hR2 := hR.put1 hlt2 hx
            have hset : (((idTo k2 l).toArray).setIfInBounds k2 (idAt k2 l[k2])).toList = idTo (k2 + 1) l := by rw [Array.toList_setIfInBounds]; exact idTo_succ hlt2
            have hc1 := (hR.seven hlt2 hx).2.1
            have hf1 := (hR.froz k2).2.1
            have HR2 := Lib.hid (And.intro hR2 hset)
            have k60 : k2 < 60 := by omega
            clear ho hR hx hR2 hset hil hbw
            go_wp2_with fail
            go_roundw
            case rel =>
              have hr2 : MiRel w (some ⟨g, 0, none⟩) c6 l (.int .i64 ((k2 : Int) + 1)) (wr.setCell ⟨g, k2 * 7 + 1, none⟩ (.int .i64 ((k2 : Int) + 1))) := by
                have h1 := HR2.out.1.own
                rw [HR2.out.2] at h1
                exact ⟨k2 + 1, by omega, by simp, h1, HR2.out.1.ext⟩
              first | exact hr2 | ((repeat apply Exists.intro); exact ⟨hr2, rfl⟩)
            case measure => simp [intOf]; omega
          · obtain rfl : k2 = l.length := by omega
            have kz2 : ¬ (l.length : Int) < (l.length : Int) := by omega
            rw [idTo_all] at ho
            have HO := Lib.hid (And.intro ho hbw)
            clear ho hbw
            go_wp2_with fail
            go_ret2
            rw [HFIN.out, HBB.out]
            have h1 := HO.out.1
            have e := renum_len l
            generalize renum l = rl at *
            rw [← e] at h1 ⊢
            exact ⟨A6, c6, rfl, h1, HO.out.2⟩
end Go.Proofs.Ytnnihiajggdplaa
