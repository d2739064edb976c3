/- GapsOf: contracts of the program's and the reference's; the law's walk. -/
import Derived.Test.YtnnihiajggdplaaTrM
import Derived.Deep.RegionHeld3
namespace Go.Proofs.Ytnnihiajggdplaa
open Go.RowKit

def flowOk (f : Flow) : Bool := flowB f.key f.source f.dest f.port f.mark f.start f.gap f.burst f.size
theorem flowOk_bd {f : Flow} (h : flowOk f = true) : (0 ≤ f.key ∧ f.key ≤ 1000000000) ∧ (0 ≤ f.start ∧ f.start ≤ 10000) ∧ (1 ≤ f.gap ∧ f.gap ≤ 500) ∧ (1 ≤ f.burst ∧ f.burst ≤ 10) ∧ (1 ≤ f.size ∧ f.size ≤ 1500) := by
  have h1 := flowB_iff.1 h
  exact ⟨h1.1, h1.2.2⟩
def gapI (f : Flow) (b : Int) : Int := 1 + numR [f.key, b, 1] f.gap
theorem gap_bd {f : Flow} (h : flowOk f = true) (b : Int) : 1 ≤ gapI f b ∧ gapI f b ≤ 500 := by
  have h1 := flowOk_bd h
  have h2 := num_bd [f.key, b, 1] f.gap h1.2.2.1.1
  unfold gapI
  omega
theorem rd_news {W : World} {g n : Nat} {t : TypeId} {cs : List Value} (hg : W.heap.size = g) (hn : cs.length = n * 1) : Rd (W.alloc (.cells cs.toArray t)) 1 (some ⟨g, 0, none⟩) n cs := by subst hg; exact Rd.of_blk (Blk.new W t cs) hn
theorem mem3 {a b c : Int} (ha : 0 ≤ a ∧ a ≤ 1000000000) (hb : 0 ≤ b ∧ b ≤ 1000000000) (hc : 0 ≤ c ∧ c ≤ 1000000000) : ∀ x ∈ [a, b, c], 0 ≤ x ∧ x ≤ 1000000000 := by
  intro x hx
  simp only [List.mem_cons, List.not_mem_nil, or_false] at hx
  rcases hx with rfl | rfl | rfl <;> assumption
theorem mem4 {a b c d : Int} (ha : 0 ≤ a ∧ a ≤ 1000000000) (hb : 0 ≤ b ∧ b ≤ 1000000000) (hc : 0 ≤ c ∧ c ≤ 1000000000) (hd : 0 ≤ d ∧ d ≤ 1000000000) : ∀ x ∈ [a, b, c, d], 0 ≤ x ∧ x ≤ 1000000000 := by
  intro x hx
  simp only [List.mem_cons, List.not_mem_nil, or_false] at hx
  rcases hx with rfl | rfl | rfl | rfl <;> assumption
def FlS (w : World) (t : TypeId) (f : Flow) (w' : World) : Prop := Blk w' w.heap.size t [.int .i64 f.key, .int .i64 f.source, .int .i64 f.dest, .int .i64 f.port, .int .i64 f.mark, .int .i64 f.start, .int .i64 f.gap, .int .i64 f.burst, .int .i64 f.size] ∧ Below w.heap.size w w'
theorem flS_ext {w w0 w1 : World} {t : TypeId} {f : Flow} (h : FlS w t f w0) (hb : Below w0.heap.size w0 w1) : FlS w t f w1 := ⟨h.1.below hb, ext_trans h.2 hb⟩
theorem flS_alloc {w w0 : World} {t : TypeId} {f : Flow} (h : FlS w t f w0) (o : Obj) : FlS w t f (w0.alloc o) := ⟨h.1.alloc o, ext_alloc h.2 o⟩
theorem flS_drew {w w0 : World} {t : TypeId} {f : Flow} (h : FlS w t f w0) : FlS w t f w0.drew := ⟨h.1.drew, h.2.drew⟩
theorem flS_new (w : World) (t : TypeId) (f : Flow) : FlS w t f (w.alloc (.cells (List.toArray [.int .i64 f.key, .int .i64 f.source, .int .i64 f.dest, .int .i64 f.port, .int .i64 f.mark, .int .i64 f.start, .int .i64 f.gap, .int .i64 f.burst, .int .i64 f.size]) t)) := ⟨Blk.new w t _, ext_alloc (ext_refl w) _⟩
theorem flS_gap {w w' : World} {t : TypeId} {f : Flow} (h : FlS w t f w') : w'.cell? ⟨w.heap.size, 0, none⟩ = some (.int .i64 f.key) ∧ w'.cell? ⟨w.heap.size, 6, none⟩ = some (.int .i64 f.gap) ∧ FlS w t f w' := ⟨h.1.cell 0, h.1.cell 6, h⟩

set_option maxHeartbeats 1000000 in
theorem tfGap_any (f : Flow) (b : Int) (w : World) (hf : flowOk f = true) (hb : 0 ≤ b ∧ b ≤ 1000) :
    Calls Try.prog 66 #[.agg #[.int .i64 f.key, .int .i64 f.source, .int .i64 f.dest, .int .i64 f.port, .int .i64 f.mark, .int .i64 f.start, .int .i64 f.gap, .int .i64 f.burst, .int .i64 f.size], .int .i64 b] w fun e w' => e = .returned (.int .i64 (gapI f b)) ∧ Below w.heap.size w w' := by
  have h1 := flowOk_bd hf
  have hgb := gap_bd hf b
  have C0 := flS_new w 25 f
  have HM := Lib.hid (mem3 (a := f.key) (b := b) (c := 1) h1.1 (by omega) (by omega))
  unfold gapI at hgb ⊢
  go_enter Try.func66, Try.ntmps66
  go_wp2_with fail
  refine (tfBelow_any (some ⟨w.heap.size + 1, 0, none⟩) 3 3 [f.key, b, 1] f.gap _ (by omega) (by omega) (rd_news (by simp) rfl) HM.out).mono ?_; rintro e w1 ⟨rfl, hb1⟩
  generalize hq : numR [f.key, b, 1] f.gap = q at *
  have HQ := Lib.hid hq
  clear hq
  go_wp2_with fail
  go_ret
  exact ⟨ret_int (by rw [HQ.out]), ext_trans (ext_alloc C0.2 _) hb1⟩

set_option maxHeartbeats 1000000 in
theorem gapOf_any (f : Flow) (b : Int) (w : World) (hf : flowOk f = true) (hb : 0 ≤ b ∧ b ≤ 1000) :
    Calls Try.prog 67 #[.agg #[.int .i64 f.key, .int .i64 f.source, .int .i64 f.dest, .int .i64 f.port, .int .i64 f.mark, .int .i64 f.start, .int .i64 f.gap, .int .i64 f.burst, .int .i64 f.size], .int .i64 b] w fun e w' => e = .returned (.int .i64 (gapI f b)) ∧ Below w.heap.size w w' := by
  have h1 := flowOk_bd hf
  have hgb := gap_bd hf b
  have C0 := flS_drew (flS_new w 25 f)
  have HM := Lib.hid (mem4 (a := f.key) (b := b) (c := 1) (d := f.gap) h1.1 (by omega) (by omega) (by omega))
  have hmx := mixR_bd [f.key, b, 1, f.gap]
  have HG := Lib.hid (show gapI f b = 1 + mixR [f.key, b, 1, f.gap] % f.gap from rfl)
  unfold gapI numR at hgb
  simp only [List.cons_append, List.nil_append] at hgb
  generalize hq : mixR [f.key, b, 1, f.gap] = mx at *
  have HQ := Lib.hid hq
  clear hq
  have hg1 := h1.2.2.1.1
  have C1 := flS_drew (flS_alloc (flS_new w 25 f) (.cells (List.toArray [.int .i64 f.key, .int .i64 b, .int .i64 1, .int .i64 f.gap]) 3))
  have HC := Lib.hid (mixOf_any (some ⟨w.heap.size + 1, 0, none⟩) 4 4 [f.key, b, 1, f.gap] ((w.alloc (.cells (List.toArray [.int .i64 f.key, .int .i64 f.source, .int .i64 f.dest, .int .i64 f.port, .int .i64 f.mark, .int .i64 f.start, .int .i64 f.gap, .int .i64 f.burst, .int .i64 f.size]) 25)).alloc (.cells (List.toArray [.int .i64 f.key, .int .i64 b, .int .i64 1, .int .i64 f.gap]) 3)).drew (by omega) (Rd.drew (rd_news (by simp) rfl)) HM.out)
  have hgz : (f.gap == 0) = false := by simp; omega
  have hgn : ¬ f.gap = 0 := by omega
  have htm : mx.tmod f.gap = mx % f.gap := Int.tmod_eq_emod_of_nonneg hmx.1
  have hw1 := wrap_in (mx % f.gap) (by omega) (by omega)
  have hw2 := wrap_in (1 + mx % f.gap) (by omega) (by omega)
  go_enter Try.func67, Try.ntmps67
  go_wp2_with fail
  go_region_held3 (fun w' => w'.cell? ⟨w.heap.size, 0, none⟩ = some (.int .i64 f.key) ∧ w'.cell? ⟨w.heap.size, 6, none⟩ = some (.int .i64 f.gap) ∧ FlS w 25 f w')
    (first | exact flS_gap C2 | exact flS_gap C1 | exact flS_gap C0)
    (first | (go_at_call 54; refine HC.out.mono ?_; rintro e w1 ⟨rfl, hb1⟩; rw [HQ.out]; have C2 := flS_ext C1 hb1))
  go_wp2_with fail
  go_ret
  exact ⟨ret_int (by rw [HG.out]), C2.2⟩

theorem ownL_up {w0 w wr : World} {t : TypeId} {v : Value} {l : List Int} (h : OwnL w t v l wr) (z : Below w0.heap.size w0 w) : OwnL w0 t v l wr := ⟨own_base h.1 z.size, ext_trans z h.2⟩
def gapsTo (f : Flow) (k : Nat) : List Int := (List.range k).map fun (j : Nat) => gapI f ((j : Int) + 1)
theorem gapsTo_succ (f : Flow) (k : Nat) : gapsTo f (k + 1) = gapsTo f k ++ [gapI f ((k : Int) + 1)] := by simp [gapsTo, List.range_succ]
theorem gapsTo_len (f : Flow) (k : Nat) : (gapsTo f k).length = k := by simp [gapsTo]
def gapsB (f : Flow) (m : Int) : Bool := flowOk f && inB m 0 40
def gapsR (f : Flow) (m : Int) : List Int := if gapsB f m then gapsTo f m.toNat else []
theorem gapsR_len (f : Flow) (m : Int) : (gapsR f m).length ≤ 40 := by
  unfold gapsR
  split
  · rename_i h
    simp only [gapsB, Bool.and_eq_true, inB_iff] at h
    rw [gapsTo_len]; omega
  · simp
def GapRel (w : World) (ty : TypeId) (m : Nat) (f : Flow) (out b : Value) (wr : World) : Prop := ∃ k : Nat, k ≤ m ∧ b = .int .i64 ((k : Int) + 1) ∧ OwnL w ty out (gapsTo f k) wr

set_option maxHeartbeats 2000000 in
theorem specGapsOf_any (f : Flow) (m : Int) (w : World) :
    Calls Try.prog 34 #[.agg #[.int .i64 f.key, .int .i64 f.source, .int .i64 f.dest, .int .i64 f.port, .int .i64 f.mark, .int .i64 f.start, .int .i64 f.gap, .int .i64 f.burst, .int .i64 f.size], .int .i64 m] w (RetInts 3 w (gapsR f m) (gapsB f m)) := by
  obtain ⟨i0, hi, hz0, hz1, hz2⟩ := info_parts infoIntT
  have C0 := flS_new w 25 f
  cases h1 : flowOk f with
  | false =>
    have e0 : gapsB f m = false := by simp [gapsB, h1]
    have e1 : gapsR f m = [] := by simp [gapsR, e0]
    rw [e0, e1]
    have H1 := Lib.hid (show flowB f.key f.source f.dest f.port f.mark f.start f.gap f.burst f.size = false from h1)
    clear e0 e1 h1
    go_enter Try.func34, Try.ntmps34
    go_wp2_with fail
    refine (tfGood_any f.key f.source f.dest f.port f.mark f.start f.gap f.burst f.size _).mono ?_; rintro e w1 ⟨rfl, hb1⟩
    rw [H1.out]
    have D1 := C0.1.below hb1
    have z1 := ext_trans C0.2 hb1
    clear hb1 C0
    go_wp2_with (go_at_call 55; refine (l1In_any _ _ _ _).mono ?_; rintro e w' ⟨rfl, rfl⟩)
    go_ret2
    exact retInts_nil z1
  | true =>
    have H1 := Lib.hid (show flowB f.key f.source f.dest f.port f.mark f.start f.gap f.burst f.size = true from h1)
    have HF := Lib.hid h1
    cases h2 : inB m 0 40 with
    | false =>
      have e0 : gapsB f m = false := by simp [gapsB, h2]
      have e1 : gapsR f m = [] := by simp [gapsR, e0]
      rw [e0, e1]
      clear e0 e1 h1
      have h3 := inB_not h2
      by_cases h4 : m < 0
      · go_enter Try.func34, Try.ntmps34
        go_wp2_with fail
        refine (tfGood_any f.key f.source f.dest f.port f.mark f.start f.gap f.burst f.size _).mono ?_; rintro e w1 ⟨rfl, hb1⟩
        rw [H1.out]
        have D1 := C0.1.below hb1
        have z1 := ext_trans C0.2 hb1
        clear hb1 C0
        go_wp2_with (go_at_call 55; refine (l1In_any _ _ _ _).mono ?_; rintro e w' ⟨rfl, rfl⟩)
        all_goals first | exact (show False by omega).elim | (go_ret2; exact retInts_nil z1)
      · go_enter Try.func34, Try.ntmps34
        go_wp2_with fail
        refine (tfGood_any f.key f.source f.dest f.port f.mark f.start f.gap f.burst f.size _).mono ?_; rintro e w1 ⟨rfl, hb1⟩
        rw [H1.out]
        have D1 := C0.1.below hb1
        have z1 := ext_trans C0.2 hb1
        clear hb1 C0
        go_wp2_with (go_at_call 55; refine (l1In_any _ _ _ _).mono ?_; rintro e w' ⟨rfl, rfl⟩)
        all_goals first | exact (show False by omega).elim | (go_ret2; exact retInts_nil z1)
    | true =>
      have e0 : gapsB f m = true := by simp [gapsB, h1, h2]
      have e1 : gapsR f m = gapsTo f m.toNat := by simp [gapsR, e0]
      rw [e0, e1]
      clear e0 e1 h1
      have hm := inB_iff.1 h2
      obtain ⟨n, rfl⟩ := Int.eq_ofNat_of_zero_le hm.1
      rw [Int.toNat_natCast]
      have hn : n ≤ 40 := by omega
      go_enter Try.func34, Try.ntmps34
      go_wp2_with fail
      refine (tfGood_any f.key f.source f.dest f.port f.mark f.start f.gap f.burst f.size _).mono ?_; rintro e w1 ⟨rfl, hb1⟩
      rw [H1.out]
      have D1 := C0.1.below hb1
      have z1 := ext_trans C0.2 hb1
      clear hb1 C0
      go_wp2_with (go_at_call 55; refine (l1In_any _ _ _ _).mono ?_; rintro e w' ⟨rfl, rfl⟩)
      go_loopw [6, 7] (GapRel w1 3 n f) (fun _ i _ => n + 1 - (intOf i).toNat)
      case atStart => exact ⟨0, Nat.zero_le _, by simp, ownL_nil (ext_refl w1)⟩
      case round =>
        obtain ⟨k, hk, rfl, hO⟩ := hrel
        have hbs := hO.2.size
        by_cases hlt : k < n
        · have E0 := D1.below hO.2
          obtain ⟨y0, x0, d0, f0⟩ := E0.nine
          have hlo := gapsTo_len f k
          have hsu := gapsTo_succ f k
          have hgb := gap_bd HF.out ((k : Int) + 1)
          generalize gapsTo f k = l at *
          have HSU := Lib.hid hsu
          have HLO := Lib.hid hlo
          clear hsu hlo
          go_wp2_with fail
          refine (tfGap_any f _ _ HF.out (by omega)).mono ?_; rintro e w3 ⟨rfl, hb3⟩
          have hO3 := ownL_ext hO hb3
          have hs3 := hO3.2.size
          generalize hgg : gapI f ((k : Int) + 1) = g at *
          have HGG := Lib.hid hgg
          clear hgg y0 x0 d0 f0
          go_wp2_with (at_builtin; refine wpList_append_rd (size := 1) (bytes := 8) (base := w1.heap.size) rfl (.tmp 21) (.tmp 25) rfl Try.underlying28 hi hz0 hz1 hz2 rfl (by decide) rfl (hO3.1.alloc _) (some ⟨w3.heap.size, 0, none⟩) 1 1 [.int .i64 (g)] rfl (rd_news (by simp) rfl) (by intro u hu; simp at hu; subst hu; rfl) ?p1 ?p2 ?p3 ?_)
          case p1 => have := HLO.out; unfold maxLen; omega
          case p2 => have := HLO.out; omega
          case p3 => simp; omega
          intro v' w4 hown1 hg1
          have hO4 := ownL_push hO3 hown1 hg1
          have HO4 := Lib.hid hO4
          clear hO4 hown1 hg1
          go_wp2_with fail
          go_roundw
          case rel => first | exact ⟨k + 1, by omega, by go_num, by rw [HSU.out]; exact HO4.out⟩ | ((repeat apply Exists.intro); exact ⟨⟨k + 1, by omega, by go_num, by rw [HSU.out]; exact HO4.out⟩, rfl⟩)
          case measure => simp [intOf]; omega
        · go_wp2_with fail
          go_ret2
          obtain rfl : k = n := by omega
          exact ownL_ret (ownL_up hO z1)

set_option maxHeartbeats 2000000 in
theorem implGapsOf_any (f : Flow) (m : Int) (w : World) :
    Calls Try.prog 35 #[.agg #[.int .i64 f.key, .int .i64 f.source, .int .i64 f.dest, .int .i64 f.port, .int .i64 f.mark, .int .i64 f.start, .int .i64 f.gap, .int .i64 f.burst, .int .i64 f.size], .int .i64 m] w (RetInts 3 w (gapsR f m) (gapsB f m)) := by
  obtain ⟨i0, hi, hz0, hz1, hz2⟩ := info_parts infoIntT
  have C0 := flS_new w 25 f
  cases h1 : flowOk f with
  | false =>
    have e0 : gapsB f m = false := by simp [gapsB, h1]
    have e1 : gapsR f m = [] := by simp [gapsR, e0]
    rw [e0, e1]
    have H1 := Lib.hid (show flowB f.key f.source f.dest f.port f.mark f.start f.gap f.burst f.size = false from h1)
    clear e0 e1 h1
    go_enter Try.func35, Try.ntmps35
    go_wp2_with fail
    refine (implIsFlow_any f.key f.source f.dest f.port f.mark f.start f.gap f.burst f.size _).mono ?_; rintro e w1 ⟨rfl, hb1⟩
    rw [H1.out]
    have D1 := C0.1.below hb1
    have z1 := ext_trans C0.2 hb1
    clear hb1 C0
    go_wp2_with fail
    go_ret2
    exact retInts_nil z1
  | true =>
    have H1 := Lib.hid (show flowB f.key f.source f.dest f.port f.mark f.start f.gap f.burst f.size = true from h1)
    have HF := Lib.hid h1
    cases h2 : inB m 0 40 with
    | false =>
      have e0 : gapsB f m = false := by simp [gapsB, h2]
      have e1 : gapsR f m = [] := by simp [gapsR, e0]
      rw [e0, e1]
      clear e0 e1 h1
      have h3 := inB_not h2
      by_cases h4 : m < 0
      · go_enter Try.func35, Try.ntmps35
        go_wp2_with fail
        refine (implIsFlow_any f.key f.source f.dest f.port f.mark f.start f.gap f.burst f.size _).mono ?_; rintro e w1 ⟨rfl, hb1⟩
        rw [H1.out]
        have D1 := C0.1.below hb1
        have z1 := ext_trans C0.2 hb1
        clear hb1 C0
        go_wp2_with fail
        all_goals first | exact (show False by omega).elim | (go_ret2; exact retInts_nil z1)
      · go_enter Try.func35, Try.ntmps35
        go_wp2_with fail
        refine (implIsFlow_any f.key f.source f.dest f.port f.mark f.start f.gap f.burst f.size _).mono ?_; rintro e w1 ⟨rfl, hb1⟩
        rw [H1.out]
        have D1 := C0.1.below hb1
        have z1 := ext_trans C0.2 hb1
        clear hb1 C0
        go_wp2_with fail
        all_goals first | exact (show False by omega).elim | (go_ret2; exact retInts_nil z1)
    | true =>
      have e0 : gapsB f m = true := by simp [gapsB, h1, h2]
      have e1 : gapsR f m = gapsTo f m.toNat := by simp [gapsR, e0]
      rw [e0, e1]
      clear e0 e1 h1
      have hm := inB_iff.1 h2
      obtain ⟨n, rfl⟩ := Int.eq_ofNat_of_zero_le hm.1
      rw [Int.toNat_natCast]
      have hn : n ≤ 40 := by omega
      go_enter Try.func35, Try.ntmps35
      go_wp2_with fail
      refine (implIsFlow_any f.key f.source f.dest f.port f.mark f.start f.gap f.burst f.size _).mono ?_; rintro e w1 ⟨rfl, hb1⟩
      rw [H1.out]
      have D1 := C0.1.below hb1
      have z1 := ext_trans C0.2 hb1
      clear hb1 C0
      go_wp2_with fail
      go_loopw [6, 7] (GapRel w1 3 n f) (fun _ i _ => n + 1 - (intOf i).toNat)
      case atStart => exact ⟨0, Nat.zero_le _, by simp, ownL_empty (ext_refl w1)⟩
      case round =>
        obtain ⟨k, hk, rfl, hO⟩ := hrel
        have hbs := hO.2.size
        by_cases hlt : k < n
        · have E0 := D1.below hO.2
          obtain ⟨y0, x0, d0, f0⟩ := E0.nine
          have hlo := gapsTo_len f k
          have hsu := gapsTo_succ f k
          have hgb := gap_bd HF.out ((k : Int) + 1)
          generalize gapsTo f k = l at *
          have HSU := Lib.hid hsu
          have HLO := Lib.hid hlo
          clear hsu hlo
          go_wp2_with fail
          refine (gapOf_any f _ _ HF.out (by omega)).mono ?_; rintro e w3 ⟨rfl, hb3⟩
          have hO3 := ownL_ext hO hb3
          have hs3 := hO3.2.size
          generalize hgg : gapI f ((k : Int) + 1) = g at *
          have HGG := Lib.hid hgg
          clear hgg y0 x0 d0 f0
          go_wp2_with (at_builtin; refine wpList_append_rd (size := 1) (bytes := 8) (base := w1.heap.size) rfl (.tmp 25) (.tmp 29) rfl Try.underlying28 hi hz0 hz1 hz2 rfl (by decide) rfl (hO3.1.alloc _) (some ⟨w3.heap.size, 0, none⟩) 1 1 [.int .i64 (g)] rfl (rd_news (by simp) rfl) (by intro u hu; simp at hu; subst hu; rfl) ?p1 ?p2 ?p3 ?_)
          case p1 => have := HLO.out; unfold maxLen; omega
          case p2 => have := HLO.out; omega
          case p3 => simp; omega
          intro v' w4 hown1 hg1
          have hO4 := ownL_push hO3 hown1 hg1
          have HO4 := Lib.hid hO4
          clear hO4 hown1 hg1
          go_wp2_with fail
          go_roundw
          case rel => first | exact ⟨k + 1, by omega, by go_num, by rw [HSU.out]; exact HO4.out⟩ | ((repeat apply Exists.intro); exact ⟨⟨k + 1, by omega, by go_num, by rw [HSU.out]; exact HO4.out⟩, rfl⟩)
          case measure => simp [intOf]; omega
        · go_wp2_with fail
          go_ret2
          obtain rfl : k = n := by omega
          exact ownL_ret (ownL_up hO z1)

end Go.Proofs.Ytnnihiajggdplaa