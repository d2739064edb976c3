/- ChainDelays: contracts of the program's and the reference's; the law's walk. -/
import Derived.Test.YtmmelpgnfjjokaaBoC
import Derived.Deep.RegionHeld3
import Derived.StillTailTactics
namespace Go.Proofs.Ytmmelpgnfjjokaa
open Go.RowKit

def nowAt (b r : Int) (xs : List Service) (k : Nat) : Int := b + r * chDelay (xs.take k)
def cdTo (b r : Int) (xs : List Service) : Nat → Int
  | 0 => 0
  | k + 1 => cdTo b r xs k + (match xs[k]? with
    | none => 0
    | some x => x.delay + upI (nowAt b r xs k) x.rate)
def fitTo (b r : Int) (xs : List Service) (k : Nat) : Bool := (List.range k).all fun j => isInflowB (nowAt b r xs (j + 1)) r
def cdPre (b r : Int) (xs : List Service) : Bool := chainOk xs && bothB b r (chRate xs) (chDelay xs)
def cdB (b r : Int) (xs : List Service) : Bool := cdPre b r xs && fitTo b r xs (xs.length - 1)
def cdW (b : Int) (xs : List Service) : Int := chDelay xs + upI b (chRate xs)
theorem fp_trueX {c : Bool} (h : c = true) (s : Int) : fp c s = s := by simp [fp, h]
theorem now_zero (b r : Int) (xs : List Service) : nowAt b r xs 0 = b := by simp [nowAt, chDelay, sumOf]
theorem now_succ {b r : Int} {xs : List Service} {k : Nat} {x : Service} (hx : xs[k]? = some x) : nowAt b r xs (k + 1) = nowAt b r xs k + r * x.delay := by
  rw [nowAt, (ch_snoc hx).2, nowAt, Int.mul_add, Int.add_assoc]
theorem cdTo_succ {b r : Int} {xs : List Service} {k : Nat} {x : Service} (hx : xs[k]? = some x) : cdTo b r xs (k + 1) = cdTo b r xs k + (x.delay + upI (nowAt b r xs k) x.rate) := by simp [cdTo, hx]
theorem fitTo_succ (b r : Int) (xs : List Service) (k : Nat) : fitTo b r xs (k + 1) = (fitTo b r xs k && isInflowB (nowAt b r xs (k + 1)) r) := by simp [fitTo, List.range_succ]
theorem fitTo_false {b r : Int} {xs : List Service} {k m : Nat} (hk : k < m) (h : isInflowB (nowAt b r xs (k + 1)) r = false) : fitTo b r xs m = false := by
  unfold fitTo
  rw [List.all_eq_false]
  exact ⟨k, List.mem_range.2 hk, by simp [h]⟩
theorem fold_min_le : ∀ (l : List Int) (a : Int), l.foldl min a ≤ a ∧ ∀ x ∈ l, l.foldl min a ≤ x
  | [], a => ⟨Int.le_refl _, fun x hx => by simp at hx⟩
  | y :: l, a => by
    have h := fold_min_le l (min a y)
    simp only [List.foldl_cons]
    refine ⟨by have := h.1; omega, fun x hx => ?_⟩
    rcases List.mem_cons.1 hx with rfl | hx
    · have := h.1; omega
    · exact h.2 x hx
theorem chRate_le {xs : List Service} {k : Nat} {x : Service} (hx : xs[k]? = some x) : chRate xs ≤ x.rate := (fold_min_le _ _).2 _ (List.mem_map.2 ⟨x, List.mem_of_getElem? hx, rfl⟩)
theorem pre_facts {b r : Int} {xs : List Service} (h : cdPre b r xs = true) : (1 ≤ xs.length ∧ xs.length ≤ 8) ∧ servicesOk xs = true ∧ isInflowB b r = true ∧ bothB b r (chRate xs) (chDelay xs) = true ∧ r ≤ chRate xs := by
  simp only [cdPre, chainOk, Bool.and_eq_true] at h
  have h1 := inB_iff.1 h.1.1.1
  have h2 := bothB_iff.1 h.2
  exact ⟨by omega, h.1.1.2, isInflowB_iff.2 h2.1, h.2, h2.2.2⟩
theorem both_at {b r : Int} {xs : List Service} {k : Nat} {x : Service} {m : Int} (h : cdPre b r xs = true) (hx : xs[k]? = some x) (hm : isInflowB m r = true) : bothB m r x.rate x.delay = true := by
  obtain ⟨_, h2, _, _, h5⟩ := pre_facts h
  have h6 := chRate_le hx
  have h7 : isServiceB x.rate x.delay = true := List.all_eq_true.1 h2 x (List.mem_of_getElem? hx)
  simp only [bothB, hm, h7, Bool.true_and, decide_eq_true_eq]; omega
def cdRes (b r : Int) (xs : List Service) : Value := .tuple #[.int .i64 (fp (cdB b r xs) (cdTo b r xs xs.length)), .int .i64 (fp (cdB b r xs) (cdW b xs)), .bool (cdB b r xs)]
theorem cdRes_false {b r : Int} {xs : List Service} (h : cdB b r xs = false) : Ending.returned (.tuple #[.int .i64 0, .int .i64 0, .bool false]) = .returned (cdRes b r xs) := by simp [cdRes, h, fp]
theorem cdRes_true {b r : Int} {xs : List Service} (h : cdB b r xs = true) : Ending.returned (.tuple #[.int .i64 (cdTo b r xs xs.length), .int .i64 (cdW b xs), .bool true]) = .returned (cdRes b r xs) := by simp [cdRes, h, fp]
theorem now_ok {b r : Int} {xs : List Service} {m : Nat} (h : cdPre b r xs = true) (hf : fitTo b r xs m = true) : isInflowB (nowAt b r xs m) r = true := by
  cases m with
  | zero => rw [now_zero]; exact (pre_facts h).2.2.1
  | succ j => rw [fitTo_succ, Bool.and_eq_true] at hf; exact hf.2
theorem cdTo_bd {b r : Int} {xs : List Service} (h : cdPre b r xs = true) : ∀ k : Nat, k ≤ xs.length → fitTo b r xs (k - 1) = true → (0 ≤ cdTo b r xs k ∧ cdTo b r xs k ≤ k * 2000000000)
  | 0, _, _ => by simp [cdTo]
  | k + 1, hk, hf => by
    have hx : xs[k]? = some xs[k] := List.getElem?_eq_getElem (by omega)
    generalize xs[k] = x at hx
    have hm : isInflowB (nowAt b r xs k) r = true := by
      cases k with
      | zero => rw [now_zero]; exact (pre_facts h).2.2.1
      | succ j => simp only [Nat.add_sub_cancel] at hf; rw [fitTo_succ, Bool.and_eq_true] at hf; exact hf.2
    have hfk : fitTo b r xs (k - 1) = true := by
      cases k with
      | zero => simp [fitTo]
      | succ j => simp only [Nat.add_sub_cancel] at hf ⊢; rw [fitTo_succ, Bool.and_eq_true] at hf; exact hf.1
    have ih := cdTo_bd h k (by omega) hfk
    have h1 := isInflowB_iff.1 hm
    have h2 := bothB_iff.1 (both_at h hx hm)
    have h3 := upI_bd (a := nowAt b r xs k) (b := x.rate) (by omega) (by omega)
    rw [cdTo_succ hx]
    omega
/-- The program's loop: the inflow before the last service, the sum. -/
def CdRel (w : World) (g : Nat) (t : TypeId) (b r : Int) (xs : List Service) (n : Nat) (sum i : Value) (wr : World) : Prop :=
  ∃ k : Nat, k ≤ n ∧ i = .int .i64 k ∧ sum = .int .i64 (cdTo b r xs k) ∧ fitTo b r xs (k - 1) = true ∧ Blk wr g t [.int .i64 (nowAt b r xs (k - 1)), .int .i64 r] ∧ Below w.heap.size w wr

theorem ySel {W : World} {n k b o : Nat} {xs : List Service} {y : Service} (hy : xs[k]? = some y) (h : Rd W 2 (some ⟨b, o, none⟩) n (xs.flatMap encService)) : W.cell? ⟨b, o + k * 2, none⟩ = some (.int .i64 y.rate) ∧ W.cell? ⟨b, o + k * 2 + 1, none⟩ = some (.int .i64 y.delay) := by
  have hl : xs.length = n := by have h1 := h.1; rw [flat_len encService 2 encService_len] at h1; omega
  have hk := (List.getElem?_eq_some_iff.1 hy).1
  obtain ⟨b', o', he, _, hc⟩ := h.2 (by omega)
  injection he with he
  injection he with h1 h2
  subst h1; subst h2
  have c0 := hc _ _ ((flat_get encService 2 encService_len xs k 0 y hy (by omega)).trans rfl)
  have c1 := hc _ _ ((flat_get encService 2 encService_len xs k 1 y hy (by omega)).trans rfl)
  simp only [Nat.add_zero, ← Nat.add_assoc] at c0 c1
  exact ⟨c0, c1⟩

set_option maxRecDepth 100000 in
set_option maxHeartbeats 4000000 in
theorem implChainDelays_cd (b r : Int) (A : Option Addr) (n : Nat) (xs : List Service) (w : World) (hn : n ≤ 1048576) (hr : Rd w 2 A n (xs.flatMap encService)) :
    Calls Try.prog 52 #[.agg #[.int .i64 b, .int .i64 r], .slice A n n] w fun e w' => e = .returned (cdRes b r xs) ∧ Below w.heap.size w w' := by
  have hl : xs.length = n := by have h1 := hr.1; rw [flat_len encService 2 encService_len] at h1; omega
  have HL := Lib.hid hl
  clear hl
  have B0 := Blk.new w 25 [.int .i64 b, .int .i64 r]
  have z0 := ext_alloc (ext_refl w) (.cells (List.toArray [.int .i64 b, .int .i64 r]) 25)
  have hr0 := hr.below z0
  cases h1 : chainOk xs with
  | false =>
    have HF := Lib.hid (show cdB b r xs = false by simp [cdB, cdPre, h1])
    go_enter Try.func52, Try.ntmps52
    go_wp2_with fail
    refine (implChainServices_any _ n _ xs _ hn hr0).mono ?_; rintro e w1 ⟨rfl, hb1⟩
    rw [h1]
    have z1 := ext_trans z0 hb1
    go_wp2_with fail
    go_ret3
    exact ⟨cdRes_false HF.out, ext_alloc z1 _⟩
  | true =>
    have hfp := fun s => fp_trueX h1 s
    have HFP := Lib.hid hfp
    clear hfp
    cases h2 : bothB b r (chRate xs) (chDelay xs) with
    | false =>
      have HF := Lib.hid (show cdB b r xs = false by simp [cdB, cdPre, h2])
      have HDE := Lib.hid (show delayI b r (chRate xs) (chDelay xs) = 0 by simp [delayI, h2])
      go_enter Try.func52, Try.ntmps52
      go_wp2_with fail
      refine (implChainServices_any _ n _ xs _ hn hr0).mono ?_; rintro e w1 ⟨rfl, hb1⟩
      rw [HFP.out, HFP.out, h1]
      have z1 := ext_alloc (ext_trans z0 hb1) (.cells (List.toArray [.int .i64 (chRate xs), .int .i64 (chDelay xs)]) 31)
      have C0 := (B0.below hb1).alloc (.cells (List.toArray [.int .i64 (chRate xs), .int .i64 (chDelay xs)]) 31)
      obtain ⟨y0, x0, d0, f0⟩ := (B0.below hb1).two
      clear hb1
      go_wp2_with fail
      refine (implDelayBound_any _ _ _ _ _).mono ?_; rintro e w2 ⟨rfl, hb2⟩
      rw [h2, HDE.out]
      go_wp2_with fail
      go_ret3
      exact ⟨cdRes_false HF.out, ext_trans z1 hb2⟩
    | true =>
      have hpre : cdPre b r xs = true := by simp [cdPre, h1, h2]
      have hpf := pre_facts hpre
      have hn8 : 1 ≤ n ∧ n ≤ 8 := by have := hpf.1; have := HL.out; omega
      have hib := isInflowB_iff.1 hpf.2.2.1
      have HPRE := Lib.hid hpre
      have HDE := Lib.hid (show delayI b r (chRate xs) (chDelay xs) = cdW b xs by simp [delayI, h2, cdW])
      clear hpre hpf
      go_enter Try.func52, Try.ntmps52
      go_wp2_with fail
      refine (implChainServices_any _ n _ xs _ hn hr0).mono ?_; rintro e w1 ⟨rfl, hb1⟩
      rw [HFP.out, HFP.out, h1]
      have z1 := ext_alloc (ext_trans z0 hb1) (.cells (List.toArray [.int .i64 (chRate xs), .int .i64 (chDelay xs)]) 31)
      have C0 := (B0.below hb1).alloc (.cells (List.toArray [.int .i64 (chRate xs), .int .i64 (chDelay xs)]) 31)
      have hr1 := hr.below z1
      obtain ⟨y0, x0, d0, f0⟩ := (B0.below hb1).two
      clear hb1
      go_wp2_with fail
      refine (implDelayBound_any _ _ _ _ _).mono ?_; rintro e w2 ⟨rfl, hb2⟩
      rw [h2, HDE.out]
      have z2 := ext_trans z1 hb2
      have D0 := C0.below hb2
      have hr2 := hr1.below hb2
      clear hb2 z1 C0 hr1 y0 x0 d0 f0 hr0 B0 z0
      obtain ⟨y0, x0, d0, f0⟩ := D0.two
      go_wp2_with fail
      clear y0 x0 d0 f0
      go_loopw [10, 34] (CdRel w w2.heap.size 25 b r xs n) (fun _ i _ => n - (intOf i).toNat)
      case atStart => exact ⟨0, Nat.zero_le _, rfl, rfl, rfl, by rw [now_zero]; exact Blk.new w2 _ _, ext_alloc z2 _⟩
      case round =>
        obtain ⟨k, hk, rfl, rfl, hfit, G, hb⟩ := hrel
        have hsb := cdTo_bd HPRE.out k (by rw [HL.out]; exact hk) hfit
        have HFIT := Lib.hid hfit
        clear hfit
        by_cases hlt : k < n
        · skip
          obtain ⟨b2, o2, rfl, hblb2, hcellb2⟩ := hr.2 (by omega)
          have hblrb2x : b2 < wr.heap.size := Nat.lt_of_lt_of_le hblb2 hb.size
          have hlxx : k < xs.length := by rw [HL.out]; omega
          have hxx : xs[k]? = some xs[k] := List.getElem?_eq_getElem hlxx
          generalize xs[k] = x at hxx
          have c0 : wr.cell? ⟨b2, o2 + (k * 2 + 0), none⟩ = some (.int .i64 x.rate) := (hb.cell (p := ⟨b2, o2 + (k * 2 + 0), none⟩) hblb2).trans (hcellb2 _ _ ((flat_get encService 2 encService_len xs k 0 x hxx (by omega)).trans rfl))
          have c1 : wr.cell? ⟨b2, o2 + (k * 2 + 1), none⟩ = some (.int .i64 x.delay) := (hb.cell (p := ⟨b2, o2 + (k * 2 + 1), none⟩) hblb2).trans (hcellb2 _ _ ((flat_get encService 2 encService_len xs k 1 x hxx (by omega)).trans rfl))
          simp only [Nat.add_zero, ← Nat.add_assoc] at c0 c1
          have HX := Lib.hid hxx
          clear hxx hlxx
          have HCELL := Lib.hid hcellb2
          clear hcellb2
          have hxs := isServiceB_iff.1 (List.all_eq_true.1 (pre_facts HPRE.out).2.1 x (List.mem_of_getElem? HX.out))
          have HSU := Lib.hid (cdTo_succ (b := b) (r := r) HX.out)
          have hnp := now_ok HPRE.out HFIT.out
          have hnpb := isInflowB_iff.1 hnp
          by_cases hk0 : k = 0
          · have g0 : decide (0 < k) = false := by simp; omega
            have hkk : k - 1 = k := by omega
            rw [hkk] at G hnp hnpb
            have HFK := Lib.hid (show fitTo b r xs (k + 1 - 1) = true by rw [Nat.add_sub_cancel, hk0]; rfl)
            have HBO := Lib.hid (both_at HPRE.out HX.out hnp)
            have HDE := Lib.hid (show delayI (nowAt b r xs k) r x.rate x.delay = x.delay + upI (nowAt b r xs k) x.rate by simp [delayI, HBO.out])
            have HK0 := Lib.hid hk0
            clear hk0 hkk hnp
            generalize hq0 : nowAt b r xs k = q at *
            have HQ := Lib.hid hq0
            clear hq0
            have hub := upI_bd (a := q) (b := x.rate) (by omega) (by omega)
            obtain ⟨y0, x0, d0, f0⟩ := G.two
            go_wp2_with fail
            have G4 := G.alloc (.cells (List.toArray [.int .i64 x.rate, .int .i64 x.delay]) 31)
            have z4 := ext_alloc hb (.cells (List.toArray [.int .i64 x.rate, .int .i64 x.delay]) 31)
            clear y0 x0 d0 f0 c0 c1
            -- DelayBound
            refine (implDelayBound_any _ _ _ _ _).mono ?_; rintro e w5 ⟨rfl, hb5⟩
            rw [HDE.out, HBO.out]
            have G5 := G4.below hb5
            have z5 := ext_trans z4 hb5
            clear hb5 G4 z4
            go_wp2_with fail
            go_roundw
            case rel => exact ⟨k + 1, by omega, by go_num, by rw [HSU.out], HFK.out, by rw [Nat.add_sub_cancel, HQ.out]; exact G5, z5⟩
            case measure => simp [intOf]; omega

          · have g0 : decide (0 < k) = true := by simp; omega
            have hkj : k = (k - 1) + 1 := by omega
            have hly : k - 1 < xs.length := by rw [HL.out]; omega
            have hy : xs[k - 1]? = some xs[k - 1] := List.getElem?_eq_getElem hly
            generalize xs[k - 1] = y at hy
            have hyb := isServiceB_iff.1 (List.all_eq_true.1 (pre_facts HPRE.out).2.1 y (List.mem_of_getElem? hy))
            have e0 : wr.cell? ⟨b2, o2 + ((k - 1) * 2 + 0), none⟩ = some (.int .i64 y.rate) := (hb.cell (p := ⟨b2, o2 + ((k - 1) * 2 + 0), none⟩) hblb2).trans (HCELL.out _ _ ((flat_get encService 2 encService_len xs (k - 1) 0 y hy (by omega)).trans rfl))
            have e1 : wr.cell? ⟨b2, o2 + ((k - 1) * 2 + 1), none⟩ = some (.int .i64 y.delay) := (hb.cell (p := ⟨b2, o2 + ((k - 1) * 2 + 1), none⟩) hblb2).trans (HCELL.out _ _ ((flat_get encService 2 encService_len xs (k - 1) 1 y hy (by omega)).trans rfl))
            simp only [Nat.add_zero, ← Nat.add_assoc] at e0 e1
            have hnq : nowAt b r xs k = nowAt b r xs (k - 1) + r * y.delay := by have h := now_succ (b := b) (r := r) hy; rwa [← hkj] at h
            have hbo := both_at HPRE.out hy hnp
            have hob : outB (nowAt b r xs (k - 1)) r y.rate y.delay = isInflowB (nowAt b r xs k) r := by rw [outB, hbo, ← hnq]; rfl
            have a0 : (wr.alloc (.cells (List.toArray [.int .i64 x.rate, .int .i64 x.delay]) 31)).cell? ⟨w2.heap.size, 0, none⟩ = some (.int .i64 (nowAt b r xs (k - 1))) := (G.alloc (.cells (List.toArray [.int .i64 x.rate, .int .i64 x.delay]) 31)).cell 0
            have a1 : (wr.alloc (.cells (List.toArray [.int .i64 x.rate, .int .i64 x.delay]) 31)).cell? ⟨w2.heap.size, 1, none⟩ = some (.int .i64 r) := (G.alloc (.cells (List.toArray [.int .i64 x.rate, .int .i64 x.delay]) 31)).cell 1
            have a2 : (wr.alloc (.cells (List.toArray [.int .i64 x.rate, .int .i64 x.delay]) 31)).cell? ⟨b2, o2 + (k - 1) * 2, none⟩ = some (.int .i64 y.rate) := (World.cell?_alloc_lt _ _ _ hblrb2x).trans e0
            have a3 : (wr.alloc (.cells (List.toArray [.int .i64 x.rate, .int .i64 x.delay]) 31)).cell? ⟨b2, o2 + (k - 1) * 2 + 1, none⟩ = some (.int .i64 y.delay) := (World.cell?_alloc_lt _ _ _ hblrb2x).trans e1
            have i0 : (0 : Int) ≤ (k : Int) - 1 := by omega
            have i1 : (1 : Int) ≤ (k : Int) := by omega
            have i2 : ((k : Int) - 1).toNat = k - 1 := by omega
            have i3 : (k : Int) - 1 < (n : Int) := by omega
            have hwk := wrap_in ((k : Int) - 1) (by omega) (by omega)
            have hkn : k - 1 < n - 1 := by omega
            have HKJ := Lib.hid hkj
            have HY := Lib.hid hy
            clear hkj hy hly hk0 hbo e0 e1
            cases hin : isInflowB (nowAt b r xs k) r with
            | false =>
              rw [hin] at hob
              have HOB := Lib.hid (show outBu (nowAt b r xs (k - 1)) r y.rate y.delay = 0 ∧ outRa (nowAt b r xs (k - 1)) r y.rate y.delay = 0 by simp [outBu, outRa, hob])
              have HF := Lib.hid (show cdB b r xs = false by rw [cdB, HL.out, fitTo_false hkn (by rw [← HKJ.out]; exact hin), Bool.and_false])
              have HO2 := Lib.hid hob
              clear hob hnq hin
              go_wp2_with fail
              have GW := G.alloc (.cells (List.toArray [.int .i64 x.rate, .int .i64 x.delay]) 31)
              have XW := Blk.new wr 31 [.int .i64 x.rate, .int .i64 x.delay]
              have zW := ext_alloc hb (.cells (List.toArray [.int .i64 x.rate, .int .i64 x.delay]) 31)
              obtain ⟨y9, x9, d9, f9⟩ := GW.two
              generalize (wr.alloc (.cells (List.toArray [.int .i64 x.rate, .int .i64 x.delay]) 31)) = W at *
              go_region_with (first | (go_at_call 32; refine (implOutputInflow_any _ _ _ _ _).mono ?_; rintro e w4 ⟨rfl, hb4⟩; rw [HOB.out.1, HOB.out.2, HO2.out]; have G3 := GW.drew.below hb4; have X3 := XW.drew.below hb4; have z3 := ext_trans zW.drew hb4; obtain ⟨y0, x0, d0, f0⟩ := G3.two))
              all_goals
                clear hwk i0 i1 i2 i3 a0 a1 a2 a3 y9 x9 d9 f9 y0 x0 d0 f0 hb4
                have G4 := (G3.set_ 0 (.int .i64 0)).set_ 1 (.int .i64 0)
                have X4 := (X3.far (p := ⟨w2.heap.size, 0, none⟩) (by have := G.lt; simp; omega) (.int .i64 0)).far (p := ⟨w2.heap.size, 1, none⟩) (by have := G.lt; simp; omega) (.int .i64 0)
                have z4 := (z3.setCell (p := ⟨w2.heap.size, 0, none⟩) (by have := z2.size; simp; omega) (.int .i64 0)).setCell (p := ⟨w2.heap.size, 1, none⟩) (by have := z2.size; simp; omega) (.int .i64 0)
                clear G3 X3 z3
                go_wp2_with fail
                go_ret3
                exact ⟨cdRes_false HF.out, z4⟩
            | true =>
              rw [hin] at hob
              have HOB := Lib.hid (show outBu (nowAt b r xs (k - 1)) r y.rate y.delay = nowAt b r xs k ∧ outRa (nowAt b r xs (k - 1)) r y.rate y.delay = r by rw [hnq]; simp [outBu, outRa, hob])
              have HO2 := Lib.hid hob
              have HFK := Lib.hid (show fitTo b r xs (k + 1 - 1) = true by have h := HFIT.out; rw [Nat.add_sub_cancel, HKJ.out, fitTo_succ, h, ← HKJ.out, hin]; rfl)
              have HBO := Lib.hid (both_at HPRE.out HX.out hin)
              have HDE := Lib.hid (show delayI (nowAt b r xs k) r x.rate x.delay = x.delay + upI (nowAt b r xs k) x.rate by simp [delayI, HBO.out])
              have hqb := isInflowB_iff.1 hin
              have hub := upI_bd (a := nowAt b r xs k) (b := x.rate) (by omega) (by omega)
              clear hob hnq hin
              generalize hq0 : nowAt b r xs k = q at *
              have HQ := Lib.hid hq0
              clear hq0
              go_wp2_with fail
              have GW := G.alloc (.cells (List.toArray [.int .i64 x.rate, .int .i64 x.delay]) 31)
              have XW := Blk.new wr 31 [.int .i64 x.rate, .int .i64 x.delay]
              have zW := ext_alloc hb (.cells (List.toArray [.int .i64 x.rate, .int .i64 x.delay]) 31)
              obtain ⟨y9, x9, d9, f9⟩ := GW.two
              generalize (wr.alloc (.cells (List.toArray [.int .i64 x.rate, .int .i64 x.delay]) 31)) = W at *
              go_region_with (first | (go_at_call 32; refine (implOutputInflow_any _ _ _ _ _).mono ?_; rintro e w4 ⟨rfl, hb4⟩; rw [HOB.out.1, HOB.out.2, HO2.out]; have G3 := GW.drew.below hb4; have X3 := XW.drew.below hb4; have z3 := ext_trans zW.drew hb4; obtain ⟨y0, x0, d0, f0⟩ := G3.two))
              all_goals
                clear hwk i0 i1 i2 i3 a0 a1 a2 a3 y9 x9 d9 f9 y0 x0 d0 f0 hb4
                have G4 := (G3.set_ 0 (.int .i64 q)).set_ 1 (.int .i64 r)
                have X4 := (X3.far (p := ⟨w2.heap.size, 0, none⟩) (by have := G.lt; simp; omega) (.int .i64 q)).far (p := ⟨w2.heap.size, 1, none⟩) (by have := G.lt; simp; omega) (.int .i64 r)
                have z4 := (z3.setCell (p := ⟨w2.heap.size, 0, none⟩) (by have := z2.size; simp; omega) (.int .i64 q)).setCell (p := ⟨w2.heap.size, 1, none⟩) (by have := z2.size; simp; omega) (.int .i64 r)
                clear G3 X3 z3
                obtain ⟨y1, x1, d1, f1⟩ := X4.two
                obtain ⟨y0, x0, d0, f0⟩ := G4.two
                generalize hW6 : ((w4.setCell ⟨w2.heap.size, 0, none⟩ (.int .i64 q)).setCell ⟨w2.heap.size, 1, none⟩ (.int .i64 r)) = W6 at *
                clear hW6
                go_wp2_with fail
                clear y0 x0 d0 f0 y1 x1 d1 f1
                -- DelayBound
                refine (implDelayBound_any _ _ _ _ _).mono ?_; rintro e w5 ⟨rfl, hb5⟩
                rw [HDE.out, HBO.out]
                have G5 := G4.below hb5
                have z5 := ext_trans z4 hb5
                clear hb5 G4 z4
                go_wp2_with fail
                go_roundw
                case rel => exact ⟨k + 1, by omega, by go_num, by rw [HSU.out], HFK.out, by rw [Nat.add_sub_cancel, HQ.out]; exact G5, z5⟩
                case measure => simp [intOf]; omega

        · go_wp2_with fail
          go_ret3
          obtain rfl : k = n := by omega
          refine ⟨?_, hb⟩
          have hB : cdB b r xs = true := by rw [cdB, HPRE.out, HL.out, HFIT.out]; rfl
          have := cdRes_true hB
          rw [HL.out] at this
          exact this

def CS (w : World) (t : TypeId) (b r : Int) (A : Option Addr) (n : Nat) (xs : List Service) (w' : World) : Prop := Blk w' w.heap.size t [.int .i64 b, .int .i64 r] ∧ Below w.heap.size w w' ∧ Rd w' 2 A n (xs.flatMap encService)
section
variable {w w0 w1 : World} {t : TypeId} {b r : Int} {A : Option Addr} {n : Nat} {xs : List Service}
theorem cs_all (h : CS w t b r A n xs w0) : w0.cell? ⟨w.heap.size, 0, none⟩ = some (.int .i64 b) ∧ w0.cell? ⟨w.heap.size, 1, none⟩ = some (.int .i64 r) ∧ CS w t b r A n xs w0 := ⟨h.1.cell 0, h.1.cell 1, h⟩
theorem cs_step (h : w0.cell? ⟨w.heap.size, 0, none⟩ = some (.int .i64 b) ∧ w0.cell? ⟨w.heap.size, 1, none⟩ = some (.int .i64 r) ∧ CS w t b r A n xs w0) (hb : Below w0.heap.size w0 w1) :
    w1.cell? ⟨w.heap.size, 0, none⟩ = some (.int .i64 b) ∧ w1.cell? ⟨w.heap.size, 1, none⟩ = some (.int .i64 r) ∧ CS w t b r A n xs w1 := cs_all ⟨h.2.2.1.below hb, ext_trans h.2.2.2.1 hb, h.2.2.2.2.below hb⟩
theorem cs_ext (h : CS w t b r A n xs w0) (hb : Below w0.heap.size w0 w1) : CS w t b r A n xs w1 := ⟨h.1.below hb, ext_trans h.2.1 hb, h.2.2.below hb⟩
theorem CS_mk (h1 : Blk w0 w.heap.size t [.int .i64 b, .int .i64 r]) (h2 : Below w.heap.size w w0) (h3 : Rd w0 2 A n (xs.flatMap encService)) : CS w t b r A n xs w0 := ⟨h1, h2, h3⟩
theorem cs_rd (h : w0.cell? ⟨w.heap.size, 0, none⟩ = some (.int .i64 b) ∧ w0.cell? ⟨w.heap.size, 1, none⟩ = some (.int .i64 r) ∧ CS w t b r A n xs w0) : Rd w0 2 A n (xs.flatMap encService) := h.2.2.2.2
end
def CdRelS (w : World) (g : Nat) (t : TypeId) (b r : Int) (xs : List Service) (n : Nat) (sum i : Value) (wr : World) : Prop :=
  ∃ k : Nat, k < n ∧ i = .int .i64 k ∧ sum = .int .i64 (cdTo b r xs k) ∧ fitTo b r xs k = true ∧ Blk wr g t [.int .i64 (nowAt b r xs k), .int .i64 r] ∧ Blk wr w.heap.size t [.int .i64 b, .int .i64 r] ∧ Below w.heap.size w wr

set_option maxRecDepth 100000 in
set_option maxHeartbeats 4000000 in
theorem specChainDelays_cd (b r : Int) (A : Option Addr) (n : Nat) (xs : List Service) (w : World) (hn : n ≤ 1048576) (hr : Rd w 2 A n (xs.flatMap encService)) :
    Calls Try.prog 51 #[.agg #[.int .i64 b, .int .i64 r], .slice A n n] w fun e w' => e = .returned (cdRes b r xs) ∧ Below w.heap.size w w' := by
  have hl : xs.length = n := by have h1 := hr.1; rw [flat_len encService 2 encService_len] at h1; omega
  have HL := Lib.hid hl
  clear hl
  have B0 := Blk.new w 25 [.int .i64 b, .int .i64 r]
  have z0 := ext_alloc (ext_refl w) (.cells (List.toArray [.int .i64 b, .int .i64 r]) 25)
  have hr0 := hr.below z0
  cases h1 : (servicesOk xs && inB n 1 8) with
  | false =>
    have HF := Lib.hid (show cdB b r xs = false by rw [cdB, cdPre, chainOk, HL.out, Bool.and_comm (inB _ _ _), h1]; rfl)
    go_enter Try.func51, Try.ntmps51
    go_wp2_with fail
    have C0 : CS w 25 b r A n xs ((w.alloc (.cells (List.toArray [.int .i64 b, .int .i64 r]) 25)).drew) := ⟨B0.drew, z0.drew, hr0.drew⟩
    first
    | (go_region_with (first | (go_at_call 70; refine (bnServices_any _ n _ xs _ hn C0.2.2).mono ?_; rintro e w1 ⟨rfl, hb1⟩; rw [h1]; have C1 := cs_ext C0 hb1; obtain ⟨K1a, K1b, _⟩ := cs_all C1)))
    | fail
    all_goals go_wp2_with fail
    all_goals go_ret3
    all_goals exact ⟨cdRes_false HF.out, C1.2.1⟩
  | true =>
    have h12 := h1
    rw [Bool.and_eq_true] at h12
    have hn8 : 1 ≤ n ∧ n ≤ 8 := by have := inB_iff.1 h12.2; omega
    have HOK := Lib.hid h12.1
    have HI := Lib.hid h12.2
    clear h12
    cases h2 : isServiceB (chRate xs) (chDelay xs) with
    | false =>
      have HF := Lib.hid (show cdB b r xs = false by rw [cdB, cdPre, chainOk, h2, Bool.and_false]; rfl)
      go_enter Try.func51, Try.ntmps51
      go_wp2_with fail
      have C0 : CS w 25 b r A n xs ((w.alloc (.cells (List.toArray [.int .i64 b, .int .i64 r]) 25)).drew) := ⟨B0.drew, z0.drew, hr0.drew⟩
      first
      | (go_region_with (first | (go_at_call 70; refine (bnServices_any _ n _ xs _ hn C0.2.2).mono ?_; rintro e w1 ⟨rfl, hb1⟩; rw [h1]; have C1 := cs_ext C0 hb1; obtain ⟨K1a, K1b, _⟩ := cs_all C1) | (go_at_call 71; refine (bnChain_any _ n xs _ hn8.2 hn8.1 C3.2.2 HOK.out).mono ?_; rintro e w4 ⟨rfl, hb4⟩; have C4 := cs_ext C3 hb4; obtain ⟨K4a, K4b, _⟩ := cs_all C4) | (go_at_call 71; refine (bnChain_any _ n xs _ hn8.2 hn8.1 C1.2.2 HOK.out).mono ?_; rintro e w2 ⟨rfl, hb2⟩; have C2 := cs_ext C1 hb2; obtain ⟨K2a, K2b, _⟩ := cs_all C2) | (go_at_call 60; refine (bnService_any _ _ _).mono ?_; rintro e w3 ⟨rfl, hb3⟩; rw [h2]; have C3 := cs_ext C2 hb3; obtain ⟨K3a, K3b, _⟩ := cs_all C3)))
      | fail
      all_goals go_wp2_with fail
      all_goals go_ret3
      all_goals exact ⟨cdRes_false HF.out, C3.2.1⟩
    | true =>
      cases h3 : bothB b r (chRate xs) (chDelay xs) with
      | false =>
        have HF := Lib.hid (show cdB b r xs = false by rw [cdB, cdPre, h3, Bool.and_false]; rfl)
        go_enter Try.func51, Try.ntmps51
        go_wp2_with fail
        have C0 : CS w 25 b r A n xs ((w.alloc (.cells (List.toArray [.int .i64 b, .int .i64 r]) 25)).drew) := ⟨B0.drew, z0.drew, hr0.drew⟩
        first
        | (go_region_with (first | (go_at_call 70; refine (bnServices_any _ n _ xs _ hn C0.2.2).mono ?_; rintro e w1 ⟨rfl, hb1⟩; rw [h1]; have C1 := cs_ext C0 hb1; obtain ⟨K1a, K1b, _⟩ := cs_all C1) | (go_at_call 71; refine (bnChain_any _ n xs _ hn8.2 hn8.1 C3.2.2 HOK.out).mono ?_; rintro e w4 ⟨rfl, hb4⟩; have C4 := cs_ext C3 hb4; obtain ⟨K4a, K4b, _⟩ := cs_all C4) | (go_at_call 71; refine (bnChain_any _ n xs _ hn8.2 hn8.1 C1.2.2 HOK.out).mono ?_; rintro e w2 ⟨rfl, hb2⟩; have C2 := cs_ext C1 hb2; obtain ⟨K2a, K2b, _⟩ := cs_all C2) | (go_at_call 60; refine (bnService_any _ _ _).mono ?_; rintro e w3 ⟨rfl, hb3⟩; rw [h2]; have C3 := cs_ext C2 hb3; obtain ⟨K3a, K3b, _⟩ := cs_all C3) | (go_at_call 61; refine (bnBoth_any _ _ _ _ _).mono ?_; rintro e w5 ⟨rfl, hb5⟩; rw [h3]; have C5 := cs_ext C4 hb5; obtain ⟨K5a, K5b, _⟩ := cs_all C5)))
        | fail
        all_goals go_wp2_with fail
        all_goals go_ret3
        all_goals exact ⟨cdRes_false HF.out, C5.2.1⟩
      | true =>
        have hpre : cdPre b r xs = true := by rw [cdPre, chainOk, HL.out, HI.out, HOK.out, h2, h3]; rfl
        have HPRE := Lib.hid hpre
        have hib := isInflowB_iff.1 (pre_facts hpre).2.2.1
        have hsv := isServiceB_iff.1 h2
        clear hpre
        go_enter Try.func51, Try.ntmps51
        go_wp2_with fail
        have C0 : CS w 25 b r A n xs ((w.alloc (.cells (List.toArray [.int .i64 b, .int .i64 r]) 25)).drew) := ⟨B0.drew, z0.drew, hr0.drew⟩
        go_region_held3 (fun w' => w'.cell? ⟨w.heap.size, 0, none⟩ = some (.int .i64 b) ∧ w'.cell? ⟨w.heap.size, 1, none⟩ = some (.int .i64 r) ∧ CS w 25 b r A n xs w')
          (first | exact cs_all C5 | exact cs_all C4 | exact cs_all C3 | exact cs_all C2 | exact cs_all C1 | exact cs_all C0)
          (first | (go_at_call 70; refine (bnServices_any _ n _ xs _ hn C0.2.2).mono ?_; rintro e w1 ⟨rfl, hb1⟩; rw [h1]; have C1 := cs_ext C0 hb1; obtain ⟨K1a, K1b, _⟩ := cs_all C1) | (go_at_call 71; refine (bnChain_any _ n xs _ hn8.2 hn8.1 C3.2.2 HOK.out).mono ?_; rintro e w4 ⟨rfl, hb4⟩; have C4 := cs_ext C3 hb4; obtain ⟨K4a, K4b, _⟩ := cs_all C4) | (go_at_call 71; refine (bnChain_any _ n xs _ hn8.2 hn8.1 C1.2.2 HOK.out).mono ?_; rintro e w2 ⟨rfl, hb2⟩; have C2 := cs_ext C1 hb2; obtain ⟨K2a, K2b, _⟩ := cs_all C2) | (go_at_call 60; refine (bnService_any _ _ _).mono ?_; rintro e w3 ⟨rfl, hb3⟩; rw [h2]; have C3 := cs_ext C2 hb3; obtain ⟨K3a, K3b, _⟩ := cs_all C3) | (go_at_call 61; refine (bnBoth_any _ _ _ _ _).mono ?_; rintro e w5 ⟨rfl, hb5⟩; rw [h3]; have C5 := cs_ext C4 hb5; obtain ⟨K5a, K5b, _⟩ := cs_all C5))
        obtain ⟨D0, z1, hr1⟩ := C5
        clear C0 C1 C2 C3 C4 hb1 hb2 hb3 hb4 hb5
        clear hr0 B0 z0
        obtain ⟨y0, x0, d0, f0⟩ := D0.two
        go_wp2_with fail
        clear y0 x0 d0 f0 h1 h2 h3
        go_loopw [7, 30] (CdRelS w w5.heap.size 25 b r xs n) (fun _ i _ => n - (intOf i).toNat)
        case atStart => exact ⟨0, hn8.1, rfl, rfl, rfl, by rw [now_zero]; exact Blk.new w5 _ _, D0.alloc _, ext_alloc z1 _⟩
        case round =>
          obtain ⟨k, hk, rfl, rfl, hfit, G, D, hb⟩ := hrel
          have hnk := now_ok HPRE.out hfit
          have hnb := isInflowB_iff.1 hnk
          have hsb := cdTo_bd HPRE.out k (by rw [HL.out]; omega) (by cases k with | zero => rfl | succ j => rw [Nat.add_sub_cancel]; rw [fitTo_succ, Bool.and_eq_true] at hfit; exact hfit.1)
          have HFIT := Lib.hid hfit
          clear hfit hnk
          obtain ⟨b2, o2, rfl, hblb2, hcellb2⟩ := hr.2 (by omega)
          have hblrb2x : b2 < wr.heap.size := Nat.lt_of_lt_of_le hblb2 hb.size
          have hlxx : k < xs.length := by rw [HL.out]; omega
          have hxx : xs[k]? = some xs[k] := List.getElem?_eq_getElem hlxx
          generalize xs[k] = x at hxx
          have c0 : wr.cell? ⟨b2, o2 + (k * 2 + 0), none⟩ = some (.int .i64 x.rate) := (hb.cell (p := ⟨b2, o2 + (k * 2 + 0), none⟩) hblb2).trans (hcellb2 _ _ ((flat_get encService 2 encService_len xs k 0 x hxx (by omega)).trans rfl))
          have c1 : wr.cell? ⟨b2, o2 + (k * 2 + 1), none⟩ = some (.int .i64 x.delay) := (hb.cell (p := ⟨b2, o2 + (k * 2 + 1), none⟩) hblb2).trans (hcellb2 _ _ ((flat_get encService 2 encService_len xs k 1 x hxx (by omega)).trans rfl))
          simp only [Nat.add_zero, ← Nat.add_assoc] at c0 c1
          have HX := Lib.hid hxx
          clear hxx hlxx hcellb2
          have hxs := isServiceB_iff.1 (List.all_eq_true.1 HOK.out x (List.mem_of_getElem? HX.out))
          have HSU := Lib.hid (cdTo_succ (b := b) (r := r) HX.out)
          have HNS := Lib.hid (now_succ (b := b) (r := r) HX.out)
          generalize hq0 : nowAt b r xs k = q at *
          have HQ := Lib.hid hq0
          clear hq0
          have hub := upI_bd (a := q) (b := x.rate) (by omega) (by omega)
          have hmul := mul_bd (a := r) (b := x.delay) hib.2.1 hib.2.2 hxs.2.1 hxs.2.2
          obtain ⟨y0, x0, d0, f0⟩ := G.two
          go_wp2_with fail
          refine (bnDelay_any _ _ _ _ _ (by omega) (by omega) (by omega) (by omega) (by omega) (by omega)).mono ?_; rintro e w6 ⟨rfl, hb6⟩
          have G6 := (G.alloc (.cells (List.toArray [.int .i64 x.rate, .int .i64 x.delay]) 31)).below hb6
          have D6 := (D.alloc (.cells (List.toArray [.int .i64 x.rate, .int .i64 x.delay]) 31)).below hb6
          have X6 := (Blk.new wr 31 [.int .i64 x.rate, .int .i64 x.delay]).below hb6
          have z6 := ext_trans (ext_alloc hb (.cells (List.toArray [.int .i64 x.rate, .int .i64 x.delay]) 31)) hb6
          clear hb6 y0 x0 d0 f0 c0 c1
          by_cases hlast : k = n - 1
          · have g1 : ((k : Int) == (n : Int) - 1) = true := by simp; omega
            have HLAST := Lib.hid hlast
            clear hlast
            have hcs := CS_mk (D6.drew) z6.drew (hr.below z6.drew)
            go_wp2_with fail
            obtain ⟨K6a, K6b, _⟩ := cs_all hcs
            go_region_with (first | (go_at_call 71; refine (bnChain_any _ n xs _ hn8.2 hn8.1 hcs.2.2 HOK.out).mono ?_; rintro e w7 ⟨rfl, hb7⟩; have C7 := cs_ext hcs hb7; obtain ⟨K7a, K7b, _⟩ := cs_all C7) | (go_at_call 64; refine (bnDelay_any _ _ _ _ _ (by omega) (by omega) (by omega) (by omega) (by omega) (by omega)).mono ?_; rintro e w8 ⟨rfl, hb8⟩; have C8 := cs_ext C7 hb8))
            all_goals go_wp2_with fail
            all_goals go_ret3
            all_goals refine ⟨?_, C8.2.1⟩
            all_goals
              have hB : cdB b r xs = true := by rw [cdB, HPRE.out, HL.out, ← HLAST.out, HFIT.out]; rfl
              have h9 := cdRes_true hB
              rw [HL.out, show n = k + 1 by have := HLAST.out; omega, HSU.out] at h9
              exact h9
          · have g1 : ((k : Int) == (n : Int) - 1) = false := by simp; omega
            have hk1 : k + 1 < n := by omega
            clear hlast
            obtain ⟨y0, x0, d0, f0⟩ := G6.two
            obtain ⟨y1, x1, d1, f1⟩ := X6.two
            go_wp2_with fail
            refine (bnBacklog_any _ _ _ _ _ (by omega) (by omega) (by omega) (by omega)).mono ?_; rintro e w7 ⟨rfl, hb7⟩
            have G7 := G6.below hb7
            have D7 := D6.below hb7
            have z7 := ext_trans z6 hb7
            clear hb7 y0 x0 d0 f0 y1 x1 d1 f1 G6 D6 X6 z6
            obtain ⟨y0, x0, d0, f0⟩ := G7.two
            have hgw : w.heap.size ≤ w5.heap.size := z1.size
            have hgw2 : w.heap.size < w5.heap.size := D0.lt
            cases hin : isInflowB (q + r * x.delay) r with
            | false =>
              have HF := Lib.hid (show cdB b r xs = false by rw [cdB, HL.out, fitTo_false (k := k) (by omega) (by rw [HNS.out]; exact hin), Bool.and_false])
              go_wp2_with fail
              refine (bnInflow_any _ _ _).mono ?_; rintro e w8 ⟨rfl, hb8⟩
              rw [hin]
              go_wp2_with fail
              go_ret3
              exact ⟨cdRes_false HF.out, ext_trans (z7.setCell (p := ⟨w5.heap.size, 0, none⟩) hgw _) hb8⟩
            | true =>
              go_wp2_with fail
              refine (bnInflow_any _ _ _).mono ?_; rintro e w8 ⟨rfl, hb8⟩
              rw [hin]
              have G8 := (G7.set_ 0 (.int .i64 (q + r * x.delay))).below hb8
              have D8 := (D7.far (p := ⟨w5.heap.size, 0, none⟩) (by simp; omega) (.int .i64 (q + r * x.delay))).below hb8
              have z8 := ext_trans (z7.setCell (p := ⟨w5.heap.size, 0, none⟩) hgw (.int .i64 (q + r * x.delay))) hb8
              clear hb8 y0 x0 d0 f0
              go_wp2_with fail
              go_roundw
              case rel => exact ⟨k + 1, hk1, by go_num, by rw [HSU.out], by rw [fitTo_succ, HFIT.out, HNS.out, hin]; rfl, by rw [HNS.out]; exact G8, D8, z8⟩
              case measure => simp [intOf]; omega

theorem implChainDelays_any (b r : Int) (A : Option Addr) (n : Nat) (xs : List Service) (w : World) (hn : n ≤ 1048576) (hr : Rd w 2 A n (xs.flatMap encService)) :
    Calls Try.prog 52 #[.agg #[.int .i64 b, .int .i64 r], .slice A n n] w fun e w' => e = .returned (.tuple #[.int .i64 (fp (cdB b r xs) (cdTo b r xs xs.length)), .int .i64 (fp (cdB b r xs) (cdW b xs)), .bool (cdB b r xs)]) ∧ Below w.heap.size w w' :=
  implChainDelays_cd b r A n xs w hn hr

theorem specChainDelays_any (b r : Int) (A : Option Addr) (n : Nat) (xs : List Service) (w : World) (hn : n ≤ 1048576) (hr : Rd w 2 A n (xs.flatMap encService)) :
    Calls Try.prog 51 #[.agg #[.int .i64 b, .int .i64 r], .slice A n n] w fun e w' => e = .returned (.tuple #[.int .i64 (fp (cdB b r xs) (cdTo b r xs xs.length)), .int .i64 (fp (cdB b r xs) (cdW b xs)), .bool (cdB b r xs)]) ∧ Below w.heap.size w w' :=
  specChainDelays_cd b r A n xs w hn hr

set_option maxHeartbeats 4000000 in
theorem walkChainDelays (b r : Int) (Axs : Option Addr) (nxs cxs : Nat) (xs : List Service) (hnxs : nxs ≤ 9223372036854775807) (w : World) (hrxs : Rd w 2 Axs nxs (xs.flatMap encService)) :
    Calls Try.prog 14 #[.agg #[.int .i64 b, .int .i64 r], .slice Axs nxs cxs] w fun e w' => e = .returned (.bool true) ∧ Below w.heap.size w w' := by
  by_cases hbigxs : 1048576 < nxs
  · go_enter Try.func14, Try.ntmps14
    go_wp2_with (first | (go_at_call 39; refine (szServiceS_any Axs nxs cxs _ _ hnxs (by omega) (by omega)).mono ?_; rintro e w1 ⟨rfl, rfl⟩; have hsxs : (if (1048576 : Int) < (nxs : Int) then (-1 : Int) else 1048576 - nxs) = -1 := by {{ split <;> omega }}; rw [hsxs]; clear hsxs) | fail)
    go_ret
    exact ⟨rfl, ext_alloc (ext_refl w) _⟩
  have hmxs : nxs ≤ 1048576 := by omega
  have ba0 := Blk.new w 23 [.int .i64 b, .int .i64 r]
  have z0 : Below w.heap.size w (w.alloc (.cells (List.toArray [.int .i64 b, .int .i64 r]) 23)) := ext_alloc (ext_refl w) _
  go_enter Try.func14, Try.ntmps14
  go_wp2_with fail
  refine (szServiceS_any Axs nxs cxs _ _ hnxs (by omega) (by omega)).mono ?_; rintro e w' ⟨rfl, rfl⟩
  have hsxs : (if (1048576 : Int) < (nxs : Int) then (-1 : Int) else 1048576 - nxs) = 1048576 - nxs := by { split <;> omega }
  rw [hsxs]
  clear hsxs
  go_wp2_with fail
  refine (toInflow_any _ _ _ ).mono ?_; rintro e w1 ⟨rfl, hb1⟩
  have ba1 := ba0.below hb1
  have z1 := ext_trans z0 hb1
  go_wp2_with fail
  refine (toServiceS_any Axs nxs cxs xs _ hmxs (hrxs.below z1)).mono ?_; rintro e w2 ⟨gt1, rfl, owt1, hb2⟩
  have ba2 := ba1.below hb2
  have ot12 := own_base owt1 z1.size
  have z2 := ext_trans z1 hb2
  go_wp2_with fail
  refine (specChainDelays_any b r _ nxs xs _ hmxs (Rd.of_own ot12)).mono ?_; rintro e w3 ⟨rfl, hb3⟩
  have ot13 := own_ext ot12 hb3
  have ba3 := ba2.below hb3
  have z3 := ext_trans z2 hb3
  go_wp2_with fail
  refine (toServiceS_any Axs nxs cxs xs _ hmxs (hrxs.below z3)).mono ?_; rintro e w4 ⟨gxxs, rfl, owxxs, hb4⟩
  have apxxst1 := apart_before ot13.lt owxxs.lt
  have ot14 := own_ext ot13 hb4
  have ba4 := ba3.below hb4
  have oxxs4 := own_base owxxs z3.size
  have z4 := ext_trans z3 hb4
  obtain ⟨ya4, xa4, ca4, fa4⟩ := ba4.two
  go_wp2_with fail
  refine (toInflow_any _ _ _ ).mono ?_; rintro e w5 ⟨rfl, hb5⟩
  have ot15 := own_ext ot14 hb5
  have oxxs5 := own_ext oxxs4 hb5
  have ba5 := ba4.below hb5
  have z5 := ext_trans z4 hb5
  clear ya4 xa4 ca4 fa4
  go_wp2_with fail
  refine (implChainDelays_any b r _ nxs xs _ hmxs (Rd.of_own oxxs5)).mono ?_; rintro e w6 ⟨rfl, hb6⟩
  have ot16 := own_ext ot15 hb6
  have oxxs6 := own_ext oxxs5 hb6
  have ba6 := ba5.below hb6
  have z6 := ext_trans z5 hb6
  go_wp2_with fail
  refine (toServiceS_any Axs nxs cxs xs _ hmxs (hrxs.below z6)).mono ?_; rintro e w7 ⟨gt3, rfl, owt3, hb7⟩
  have apt3t1 := apart_before ot16.lt owt3.lt
  have ot17 := own_ext ot16 hb7
  have apt3xxs := apart_before oxxs6.lt owt3.lt
  have oxxs7 := own_ext oxxs6 hb7
  have ba7 := ba6.below hb7
  have ot37 := own_base owt3 z6.size
  have z7 := ext_trans z6 hb7
  go_wp2_with fail
  refine (eqServiceS_same _ _ nxs _ _ xs _ hmxs (Rd.of_own oxxs7) (Rd.of_own ot37)).mono ?_; rintro e w8 ⟨rfl, hb8⟩
  have ot18 := own_ext ot17 hb8
  have oxxs8 := own_ext oxxs7 hb8
  have ot38 := own_ext ot37 hb8
  have ba8 := ba7.below hb8
  have z8 := ext_trans z7 hb8
  go_wp2_with fail
  go_ret
  exact ⟨rfl, z8⟩

end Go.Proofs.Ytmmelpgnfjjokaa