/- SlowestSends: contracts of the program's and the reference's; the law's walk. -/
import Derived.Test.YtmmelpgnfjjokaaBoT
import Derived.Test.YtmmelpgnfjjokaaApp
import Derived.Deep.RegionHeld3
import Derived.StillTailTactics
namespace Go.Proofs.Ytmmelpgnfjjokaa
open Go.RowKit

structure Slow where
  (first sum fin : Int)
def slowF (r d : Int) (s : Slow) (x : Arrived) : Slow :=
  if s.fin < x.time then ⟨x.time, x.size, x.time + d + upI x.size r⟩ else ⟨s.first, s.sum + x.size, s.first + d + upI (s.sum + x.size) r⟩
def slowSt (r d : Int) (xs : List Arrived) : Slow := xs.foldl (slowF r d) ⟨0, 0, -1⟩
def slowTo (r d : Int) (xs : List Arrived) (k : Nat) : List Int := (List.range k).map fun j => (slowSt r d (xs.take (j + 1))).fin
def slowB (r d : Int) (xs : List Arrived) : Bool := isServiceB r d && traceB xs
def slowR (r d : Int) (xs : List Arrived) : List Int := if slowB r d xs then slowTo r d xs xs.length else []
theorem slowSt_succ {r d : Int} {xs : List Arrived} {k : Nat} {x : Arrived} (hx : xs[k]? = some x) : slowSt r d (xs.take (k + 1)) = slowF r d (slowSt r d (xs.take k)) x := by rw [take_snoc hx]; simp [slowSt]
theorem slowTo_succ (r d : Int) (xs : List Arrived) (k : Nat) : slowTo r d xs (k + 1) = slowTo r d xs k ++ [(slowSt r d (xs.take (k + 1))).fin] := by simp [slowTo, List.range_succ]
theorem slowTo_len (r d : Int) (xs : List Arrived) (k : Nat) : (slowTo r d xs k).length = k := by simp [slowTo]
theorem slowTo_last (r d : Int) (xs : List Arrived) (j : Nat) : (slowTo r d xs (j + 1))[j]? = some (slowSt r d (xs.take (j + 1))).fin := by
  rw [slowTo_succ, List.getElem?_append_right (by rw [slowTo_len]; exact Nat.le_refl _), slowTo_len]; simp
theorem slowR_len (r d : Int) (xs : List Arrived) : (slowR r d xs).length ≤ 40 := by
  unfold slowR
  split
  · rename_i h
    simp only [slowB, Bool.and_eq_true] at h
    rw [slowTo_len]; exact trace_len h.2
  · simp
theorem upI_le {a b : Int} (ha : 0 ≤ a) (hb : 1 ≤ b) : 0 ≤ upI a b ∧ upI a b ≤ a := by
  unfold upI
  have h0 : 0 ≤ (a + b - 1) / b := Int.ediv_nonneg (by omega) (by omega)
  refine ⟨h0, ?_⟩
  rcases Int.lt_or_le 0 a with h | h
  · have h1 : a + b - 1 < (a + 1) * b := by
      have : (a + 1) * b = a * b + b := by rw [Int.add_mul, Int.one_mul]
      have h2 : a * 1 ≤ a * b := Int.mul_le_mul_of_nonneg_left hb (by omega)
      omega
    have := Int.ediv_lt_of_lt_mul (by omega) h1
    omega
  · obtain rfl : a = 0 := by omega
    have : (0 + b - 1) / b = 0 := Int.ediv_eq_zero_of_lt (by omega) (by omega)
    omega
def SlowOk (k : Int) (s : Slow) : Prop := (0 ≤ s.first ∧ s.first ≤ 100000) ∧ (0 ≤ s.sum ∧ s.sum ≤ k * 1500) ∧ (-1 ≤ s.fin ∧ s.fin ≤ 1000000)
theorem slow_ok {r d : Int} (hr : 1 ≤ r ∧ r ≤ 100000) (hd : 0 ≤ d ∧ d ≤ 10000) {xs : List Arrived} (h : traceB xs = true) : ∀ k : Nat, k ≤ xs.length → SlowOk k (slowSt r d (xs.take k))
  | 0, _ => by simp [slowSt, SlowOk]
  | k + 1, hk => by
    have hx : xs[k]? = some xs[k] := List.getElem?_eq_getElem (by omega)
    generalize xs[k] = x at hx
    have ih := slow_ok hr hd h k (by omega)
    have hxb := trace_at h hx
    have hl := trace_len h
    rw [slowSt_succ hx]
    generalize slowSt r d (xs.take k) = s at ih
    unfold SlowOk at ih ⊢
    unfold slowF
    split
    · have := upI_le (a := x.size) (b := r) (by omega) (by omega)
      simp only [] at *
      omega
    · have := upI_le (a := s.sum + x.size) (b := r) (by omega) (by omega)
      simp only [] at *
      omega
def SlowIn (w : World) (ty : TypeId) (n : Nat) (r d : Int) (xs : List Arrived) (out first sum i : Value) (wr : World) : Prop :=
  ∃ k : Nat, k ≤ n ∧ i = .int .i64 k ∧ first = .int .i64 (slowSt r d (xs.take k)).first ∧ sum = .int .i64 (slowSt r d (xs.take k)).sum ∧ OwnL w ty out (slowTo r d xs k) wr
def SlowInE (w : World) (ty : TypeId) (n : Nat) (r d : Int) (xs : List Arrived) (out first sum fin i : Value) (wr : World) : Prop :=
  ∃ k : Nat, k ≤ n ∧ i = .int .i64 k ∧ first = .int .i64 (slowSt r d (xs.take k)).first ∧ sum = .int .i64 (slowSt r d (xs.take k)).sum ∧ fin = .int .i64 (slowSt r d (xs.take k)).fin ∧ OwnL w ty out (slowTo r d xs k) wr
theorem ownL_alloc {w wr : World} {t : TypeId} {v : Value} {l : List Int} (h : OwnL w t v l wr) (o : Obj) : OwnL w t v l (wr.alloc o) := ⟨h.1.alloc o, ext_alloc h.2 o⟩
theorem ownL_drewN {w wr : World} {t : TypeId} {v : Value} {l : List Int} (h : OwnL w t v l wr) (k : Nat) : OwnL w t v l (wr.drewN k) := ⟨h.1, ext_drewN h.2 k⟩
theorem ownL_drew {w wr : World} {t : TypeId} {v : Value} {l : List Int} (h : OwnL w t v l wr) : OwnL w t v l wr.drew := ⟨h.1, ext_drew h.2⟩
theorem ownL_up {w0 w wr : World} {t : TypeId} {v : Value} {l : List Int} (h : OwnL w t v l wr) (z : Below w0.heap.size w0 w) : OwnL w0 t v l wr := ⟨own_base h.1 z.size, ext_trans z h.2⟩
theorem rd_new1 {W : World} {g : Nat} {t : TypeId} {v : Value} (hg : W.heap.size = g) : Rd (W.alloc (.cells #[v] t)) 1 (some ⟨g, 0, none⟩) 1 [v] := by subst hg; exact Rd.of_blk (Blk.new W t [v]) rfl
theorem svS {w : World} {g : Nat} {t : TypeId} {a b : Value} (h : Blk w g t [a, b]) : w.cell? ⟨g, 0, none⟩ = some a ∧ w.cell? ⟨g, 1, none⟩ = some b := ⟨h.cell 0, h.cell 1⟩
theorem infoIntS : (Try.prog.info? 3).map (fun i => (i.zero, i.size, i.bytes)) = some (some (.int .i64 0), 1, 8) := by kernel_rfl

set_option maxRecDepth 100000 in
set_option maxHeartbeats 4000000 in
theorem specSlowestSends_any (sr sd : Int) (A : Option Addr) (n : Nat) (xs : List Arrived) (w : World) (hn : n ≤ 1048576) (hr : Rd w 2 A n (xs.flatMap encArrived)) :
    Calls Try.prog 53 #[.agg #[.int .i64 sr, .int .i64 sd], .slice A n n] w (RetInts 3 w (slowR sr sd xs) (slowB sr sd xs)) := by
  obtain ⟨i0, hi, hz0, hz1, hz2⟩ := info_parts infoIntS
  have hl : xs.length = n := by have h1 := hr.1; rw [flat_len encArrived 2 encArrived_len] at h1; omega
  have HL := Lib.hid hl
  clear hl
  have B0 := Blk.new w 31 [.int .i64 sr, .int .i64 sd]
  have z0 := ext_alloc (ext_refl w) (.cells (List.toArray [.int .i64 sr, .int .i64 sd]) 31)
  have hr0 := hr.below z0
  cases h1 : isServiceB sr sd with
  | false =>
    have e0 : slowB sr sd xs = false := by simp [slowB, h1]
    have e1 : slowR sr sd xs = [] := by simp [slowR, e0]
    rw [e0, e1]
    clear e0 e1
    go_enter Try.func53, Try.ntmps53
    go_wp2_with fail
    refine (bnService_any _ _ _).mono ?_; rintro e w1 ⟨rfl, hb1⟩
    rw [h1]
    have C0 := B0.below hb1
    have z1 := ext_trans z0 hb1
    have hr1 := hr0.below hb1
    clear hb1 B0 z0 hr0
    go_wp2_with fail
    go_ret2
    exact retInts_nil z1
  | true =>
    have hsv := isServiceB_iff.1 h1
    cases htr : traceB xs with
    | false =>
      have e0 : slowB sr sd xs = false := by simp [slowB, htr]
      have e1 : slowR sr sd xs = [] := by simp [slowR, e0]
      rw [e0, e1]
      clear e0 e1
      go_enter Try.func53, Try.ntmps53
      go_wp2_with fail
      refine (bnService_any _ _ _).mono ?_; rintro e w1 ⟨rfl, hb1⟩
      rw [h1]
      have C0 := B0.below hb1
      have z1 := ext_trans z0 hb1
      have hr1 := hr0.below hb1
      clear hb1 B0 z0 hr0
      go_wp2_with fail
      refine (bnTrace_any _ n _ xs _ hn hr1).mono ?_; rintro e w2 ⟨rfl, hb2⟩
      rw [htr]
      have D0 := C0.below hb2
      have z2 := ext_trans z1 hb2
      have hr2 := hr1.below hb2
      clear hb2 C0 z1 hr1 hr
      go_wp2_with fail
      go_ret2
      exact retInts_nil z2
    | true =>
      have e0 : slowB sr sd xs = true := by simp [slowB, h1, htr]
      have e1 : slowR sr sd xs = slowTo sr sd xs n := by simp [slowR, e0, HL.out]
      rw [e0, e1]
      clear e0 e1
      have hn40 : n ≤ 40 := by have := trace_len htr; have := HL.out; omega
      have HTR := Lib.hid htr
      go_enter Try.func53, Try.ntmps53
      go_wp2_with fail
      refine (bnService_any _ _ _).mono ?_; rintro e w1 ⟨rfl, hb1⟩
      rw [h1]
      have C0 := B0.below hb1
      have z1 := ext_trans z0 hb1
      have hr1 := hr0.below hb1
      clear hb1 B0 z0 hr0
      go_wp2_with fail
      refine (bnTrace_any _ n _ xs _ hn hr1).mono ?_; rintro e w2 ⟨rfl, hb2⟩
      rw [htr]
      have D0 := C0.below hb2
      have z2 := ext_trans z1 hb2
      have hr2 := hr1.below hb2
      clear hb2 C0 z1 hr1 hr
      clear htr h1
      go_wp2_with fail
      go_loopw [6, 7, 8, 9, 22] (SlowInE w2 3 n sr sd xs) (fun _ _ _ _ i _ => n - (intOf i).toNat)
      case atStart => exact ⟨0, Nat.zero_le _, rfl, rfl, rfl, rfl, ownL_nil (ext_refl w2)⟩
      case round =>
        obtain ⟨k, hk, rfl, rfl, rfl, rfl, hO⟩ := hrel
        have hok := slow_ok hsv.1 hsv.2 HTR.out k (by rw [HL.out]; exact hk)
        have hb : Below w2.heap.size w2 wr := hO.2
        have hbs : w2.heap.size ≤ wr.heap.size := hb.size
        by_cases hlt : k < n
        · have E0 := D0.below hb
          obtain ⟨b, o, rfl, hblb, hcellb⟩ := hr2.2 (by omega)
          have hblrbx : b < wr.heap.size := Nat.lt_of_lt_of_le hblb hb.size
          have hlxx : k < xs.length := by rw [HL.out]; omega
          have hxx : xs[k]? = some xs[k] := List.getElem?_eq_getElem hlxx
          generalize xs[k] = x at hxx
          have c0 : wr.cell? ⟨b, o + (k * 2 + 0), none⟩ = some (.int .i64 x.time) := (hb.cell (p := ⟨b, o + (k * 2 + 0), none⟩) hblb).trans (hcellb _ _ ((flat_get encArrived 2 encArrived_len xs k 0 x hxx (by omega)).trans rfl))
          have c1 : wr.cell? ⟨b, o + (k * 2 + 1), none⟩ = some (.int .i64 x.size) := (hb.cell (p := ⟨b, o + (k * 2 + 1), none⟩) hblb).trans (hcellb _ _ ((flat_get encArrived 2 encArrived_len xs k 1 x hxx (by omega)).trans rfl))
          simp only [Nat.add_zero, ← Nat.add_assoc] at c0 c1
          have HX := Lib.hid hxx
          clear hxx hlxx hcellb
          have hxb := trace_at HTR.out HX.out
          have hst := slowSt_succ (r := sr) (d := sd) HX.out
          have hll : slowTo sr sd xs k = slowTo sr sd xs k := rfl
          have hlo := slowTo_len sr sd xs k
          skip
          unfold SlowOk at hok
          generalize hss : slowSt sr sd (xs.take k) = st at *
          obtain ⟨fi, su, en⟩ := st
          simp only [slowF] at *
          generalize hl2 : slowTo sr sd xs k = l at *
          have HSS := Lib.hid hss
          have HST := Lib.hid hst
          have HLL := Lib.hid hl2
          have HLO := Lib.hid hlo
          clear hst hll hlo hl2 hss
          obtain ⟨y0, x0, d0, f0⟩ := E0.two
          by_cases hgt : en < x.time
          · have HST2 := Lib.hid (HST.out.trans (if_pos hgt))
            clear HST
            have HST := HST2
            clear HST2
            have u := upI_le (a := x.size) (b := sr) (by omega) (by omega)
            have u0 := u.1
            have u1 := u.2
            clear u
            have hw1 := wrap_in (x.time + sd) (by omega) (by omega)
            have hw2 := wrap_in (x.time + sd + upI (x.size) sr) (by omega) (by omega)
            go_wp2_with fail
            go_quiet ((go_at_call 68; exact quiet_left (bnUp_any _ _ _ (by omega) (by omega) (by omega) (by omega))))
            clear hw1 hw2
            go_wp2_with (at_builtin; refine wpList_append_rd (size := 1) (bytes := 8) (base := w2.heap.size) rfl (.tmp 45) (.tmp 47) rfl Try.underlying73 hi hz0 hz1 hz2 rfl (by decide) rfl ((ownL_drewN (ownL_alloc hO _) _).1.alloc _) (some ⟨wr.heap.size + 1, 0, none⟩) 1 1 [.int .i64 (x.time + sd + upI (x.size) sr)] rfl (rd_new1 (by simp)) (by intro u hu; simp at hu; subst hu; rfl) ?p1 ?p2 ?p3 ?_)
            case p1 => have := HLO.out; unfold maxLen; omega
            case p2 => have := HLO.out; omega
            case p3 => simp; omega
            intro v' w3 hown1 hg1
            have hO3 := ownL_push (ownL_drewN (ownL_alloc hO _) _) hown1 hg1
            have HO3 := Lib.hid hO3
            clear hO3 hown1 hg1
            go_wp2_with fail
            go_roundw
            case rel => first | exact ⟨k + 1, by omega, by go_num, by rw [HST.out], by rw [HST.out], by rw [HST.out], by rw [slowTo_succ, HST.out, HLL.out]; exact HO3.out⟩ | ((repeat apply Exists.intro); exact ⟨⟨k + 1, by omega, by go_num, by rw [HST.out], by rw [HST.out], by rw [HST.out], by rw [slowTo_succ, HST.out, HLL.out]; exact HO3.out⟩, rfl⟩)
            case measure => simp [intOf]; omega

          · have HST2 := Lib.hid (HST.out.trans (if_neg hgt))
            clear HST
            have HST := HST2
            clear HST2
            have u := upI_le (a := su + x.size) (b := sr) (by omega) (by omega)
            have u0 := u.1
            have u1 := u.2
            clear u
            have hw1 := wrap_in (fi + sd) (by omega) (by omega)
            have hw2 := wrap_in (fi + sd + upI (su + x.size) sr) (by omega) (by omega)
            go_wp2_with fail
            go_quiet ((go_at_call 68; exact quiet_left (bnUp_any _ _ _ (by omega) (by omega) (by omega) (by omega))))
            clear hw1 hw2
            go_wp2_with (at_builtin; refine wpList_append_rd (size := 1) (bytes := 8) (base := w2.heap.size) rfl (.tmp 45) (.tmp 47) rfl Try.underlying73 hi hz0 hz1 hz2 rfl (by decide) rfl ((ownL_drewN (ownL_alloc hO _) _).1.alloc _) (some ⟨wr.heap.size + 1, 0, none⟩) 1 1 [.int .i64 (fi + sd + upI (su + x.size) sr)] rfl (rd_new1 (by simp)) (by intro u hu; simp at hu; subst hu; rfl) ?q1 ?q2 ?q3 ?_)
            case q1 => have := HLO.out; unfold maxLen; omega
            case q2 => have := HLO.out; omega
            case q3 => simp; omega
            intro v' w3 hown1 hg1
            have hO3 := ownL_push (ownL_drewN (ownL_alloc hO _) _) hown1 hg1
            have HO3 := Lib.hid hO3
            clear hO3 hown1 hg1
            go_wp2_with fail
            go_roundw
            case rel => first | exact ⟨k + 1, by omega, by go_num, by rw [HST.out], by rw [HST.out], by rw [HST.out], by rw [slowTo_succ, HST.out, HLL.out]; exact HO3.out⟩ | ((repeat apply Exists.intro); exact ⟨⟨k + 1, by omega, by go_num, by rw [HST.out], by rw [HST.out], by rw [HST.out], by rw [slowTo_succ, HST.out, HLL.out]; exact HO3.out⟩, rfl⟩)
            case measure => simp [intOf]; omega

        · go_wp2_with fail
          go_ret2
          obtain rfl : k = n := by omega
          exact ownL_ret (ownL_up hO z2)

set_option maxRecDepth 100000 in
set_option maxHeartbeats 4000000 in
theorem implSlowestSends_any (sr sd : Int) (A : Option Addr) (n : Nat) (xs : List Arrived) (w : World) (hn : n ≤ 1048576) (hr : Rd w 2 A n (xs.flatMap encArrived)) :
    Calls Try.prog 54 #[.agg #[.int .i64 sr, .int .i64 sd], .slice A n n] w (RetInts 3 w (slowR sr sd xs) (slowB sr sd xs)) := by
  obtain ⟨i0, hi, hz0, hz1, hz2⟩ := info_parts infoIntS
  have hl : xs.length = n := by have h1 := hr.1; rw [flat_len encArrived 2 encArrived_len] at h1; omega
  have HL := Lib.hid hl
  clear hl
  have B0 := Blk.new w 31 [.int .i64 sr, .int .i64 sd]
  have z0 := ext_alloc (ext_refl w) (.cells (List.toArray [.int .i64 sr, .int .i64 sd]) 31)
  have hr0 := hr.below z0
  cases h1 : isServiceB sr sd with
  | false =>
    have e0 : slowB sr sd xs = false := by simp [slowB, h1]
    have e1 : slowR sr sd xs = [] := by simp [slowR, e0]
    rw [e0, e1]
    clear e0 e1
    go_enter Try.func54, Try.ntmps54
    go_wp2_with fail
    refine (implIsService_any _ _ _).mono ?_; rintro e w1 ⟨rfl, hb1⟩
    rw [h1]
    have C0 := B0.below hb1
    have z1 := ext_trans z0 hb1
    have hr1 := hr0.below hb1
    clear hb1 B0 z0 hr0
    go_wp2_with fail
    go_ret2
    exact retInts_nil z1
  | true =>
    have hsv := isServiceB_iff.1 h1
    cases htr : traceB xs with
    | false =>
      have e0 : slowB sr sd xs = false := by simp [slowB, htr]
      have e1 : slowR sr sd xs = [] := by simp [slowR, e0]
      rw [e0, e1]
      clear e0 e1
      go_enter Try.func54, Try.ntmps54
      go_wp2_with fail
      refine (implIsService_any _ _ _).mono ?_; rintro e w1 ⟨rfl, hb1⟩
      rw [h1]
      have C0 := B0.below hb1
      have z1 := ext_trans z0 hb1
      have hr1 := hr0.below hb1
      clear hb1 B0 z0 hr0
      go_wp2_with fail
      refine (isTrace_any _ n _ xs _ hn hr1).mono ?_; rintro e w2 ⟨rfl, hb2⟩
      rw [htr]
      have D0 := C0.below hb2
      have z2 := ext_trans z1 hb2
      have hr2 := hr1.below hb2
      clear hb2 C0 z1 hr1 hr
      go_wp2_with fail
      go_ret2
      exact retInts_nil z2
    | true =>
      have e0 : slowB sr sd xs = true := by simp [slowB, h1, htr]
      have e1 : slowR sr sd xs = slowTo sr sd xs n := by simp [slowR, e0, HL.out]
      rw [e0, e1]
      clear e0 e1
      have hn40 : n ≤ 40 := by have := trace_len htr; have := HL.out; omega
      have HTR := Lib.hid htr
      go_enter Try.func54, Try.ntmps54
      go_wp2_with fail
      refine (implIsService_any _ _ _).mono ?_; rintro e w1 ⟨rfl, hb1⟩
      rw [h1]
      have C0 := B0.below hb1
      have z1 := ext_trans z0 hb1
      have hr1 := hr0.below hb1
      clear hb1 B0 z0 hr0
      go_wp2_with fail
      refine (isTrace_any _ n _ xs _ hn hr1).mono ?_; rintro e w2 ⟨rfl, hb2⟩
      rw [htr]
      have D0 := C0.below hb2
      have z2 := ext_trans z1 hb2
      have hr2 := hr1.below hb2
      clear hb2 C0 z1 hr1 hr
      clear htr h1
      go_wp2_with fail
      go_loopw [6, 7, 8, 22] (SlowIn w2 3 n sr sd xs) (fun _ _ _ i _ => n - (intOf i).toNat)
      case atStart => exact ⟨0, Nat.zero_le _, rfl, rfl, rfl, ownL_empty (ext_refl w2)⟩
      case round =>
        obtain ⟨k, hk, rfl, rfl, rfl, hO⟩ := hrel
        have hok := slow_ok hsv.1 hsv.2 HTR.out k (by rw [HL.out]; exact hk)
        have hb : Below w2.heap.size w2 wr := hO.2
        have hbs : w2.heap.size ≤ wr.heap.size := hb.size
        by_cases hlt : k < n
        · have E0 := D0.below hb
          obtain ⟨b, o, rfl, hblb, hcellb⟩ := hr2.2 (by omega)
          have hblrbx : b < wr.heap.size := Nat.lt_of_lt_of_le hblb hb.size
          have hlxx : k < xs.length := by rw [HL.out]; omega
          have hxx : xs[k]? = some xs[k] := List.getElem?_eq_getElem hlxx
          generalize xs[k] = x at hxx
          have c0 : wr.cell? ⟨b, o + (k * 2 + 0), none⟩ = some (.int .i64 x.time) := (hb.cell (p := ⟨b, o + (k * 2 + 0), none⟩) hblb).trans (hcellb _ _ ((flat_get encArrived 2 encArrived_len xs k 0 x hxx (by omega)).trans rfl))
          have c1 : wr.cell? ⟨b, o + (k * 2 + 1), none⟩ = some (.int .i64 x.size) := (hb.cell (p := ⟨b, o + (k * 2 + 1), none⟩) hblb).trans (hcellb _ _ ((flat_get encArrived 2 encArrived_len xs k 1 x hxx (by omega)).trans rfl))
          simp only [Nat.add_zero, ← Nat.add_assoc] at c0 c1
          have HX := Lib.hid hxx
          clear hxx hlxx hcellb
          have hxb := trace_at HTR.out HX.out
          have hst := slowSt_succ (r := sr) (d := sd) HX.out
          have hll : slowTo sr sd xs k = slowTo sr sd xs k := rfl
          have hlo := slowTo_len sr sd xs k
          have hlast := fun (j : Nat) => slowTo_last sr sd xs j
          unfold SlowOk at hok
          generalize hss : slowSt sr sd (xs.take k) = st at *
          obtain ⟨fi, su, en⟩ := st
          simp only [slowF] at *
          generalize hl2 : slowTo sr sd xs k = l at *
          have HSS := Lib.hid hss
          have HST := Lib.hid hst
          have HLL := Lib.hid hl2
          have HLO := Lib.hid hlo
          clear hst hll hlo hl2 hss
          obtain ⟨y0, x0, d0, f0⟩ := E0.two
          have hO1 := hO.1
          rw [HLO.out] at hO1
          obtain ⟨A', c', rfl⟩ := own_shape hO1
          have hr3 := Rd.of_own hO1
          have hne : some w.heap.size ≠ (Value.slice A' k c').ownBlock := fun h => by have h1 := (hO.1.lt _ h.symm).1; have h2 := D0.lt; omega
          clear hO1
          by_cases hgt : en < x.time
          · have HST2 := Lib.hid (HST.out.trans (if_pos hgt))
            clear HST
            have HST := HST2
            clear HST2
            have u := upI_le (a := x.size) (b := sr) (by omega) (by omega)
            have u0 := u.1
            have u1 := u.2
            clear u
            have hw1 := wrap_in (x.time + sd) (by omega) (by omega)
            have hw2 := wrap_in (x.time + sd + upI (x.size) sr) (by omega) (by omega)
            by_cases hk0 : k = 0
            · have g0 : ((k : Int) == 0) = true := by simp; omega
              have HK0 := Lib.hid hk0
              clear hk0 hlast
              go_wp2_with fail
              go_quiet (fail)
              have a0 : ((wr.alloc (.cells (List.toArray [.int .i64 x.time, .int .i64 x.size]) 90)).drewN nq).cell? ⟨w.heap.size, 0, none⟩ = some (.int .i64 sr) := ((E0.alloc (.cells (List.toArray [.int .i64 x.time, .int .i64 x.size]) 90)).drewN nq).cell 0
              have a1 : ((wr.alloc (.cells (List.toArray [.int .i64 x.time, .int .i64 x.size]) 90)).drewN nq).cell? ⟨w.heap.size, 1, none⟩ = some (.int .i64 sd) := ((E0.alloc (.cells (List.toArray [.int .i64 x.time, .int .i64 x.size]) 90)).drewN nq).cell 1
              have a2 : ((wr.alloc (.cells (List.toArray [.int .i64 x.time, .int .i64 x.size]) 90)).drewN nq).cell? ⟨wr.heap.size, 0, none⟩ = some (.int .i64 x.time) := ((Blk.new wr 90 [.int .i64 x.time, .int .i64 x.size]).drewN nq).cell 0
              have a3 : ((wr.alloc (.cells (List.toArray [.int .i64 x.time, .int .i64 x.size]) 90)).drewN nq).cell? ⟨wr.heap.size, 1, none⟩ = some (.int .i64 x.size) := ((Blk.new wr 90 [.int .i64 x.time, .int .i64 x.size]).drewN nq).cell 1
              have hOW := ownL_drewN (ownL_alloc hO (.cells (List.toArray [.int .i64 x.time, .int .i64 x.size]) 90)) nq
              have hWs := hOW.2.size
              have BW := ((E0.alloc (.cells (List.toArray [.int .i64 x.time, .int .i64 x.size]) 90)).drewN nq)
              generalize ((wr.alloc (.cells (List.toArray [.int .i64 x.time, .int .i64 x.size]) 90)).drewN nq) = W at *
              clear d0 f0 x0 y0 c0 c1
              have hl60 : l.length ≤ 60 := by have := HLO.out; omega
              go_wp2_with fail
              go_region_held3 (fun w' => w'.cell? ⟨w.heap.size, 0, none⟩ = some (.int .i64 sr) ∧ w'.cell? ⟨w.heap.size, 1, none⟩ = some (.int .i64 sd))
                (first | exact svS BW.drew | exact svS (BW.drew.alloc _) | exact svS ((BW.drew.alloc _).grown hg1 hne))
                (first | (go_at_call 65; refine (divideUp_any _ _ _ (by omega) (by omega) (by omega) (by omega)).mono ?_; rintro e w' ⟨rfl, rfl⟩) | (refine step_append_rd (size := 1) (bytes := 8) (base := w2.heap.size) (by rfl) _ _ (by rfl) Try.underlying73 hi hz0 hz1 hz2 rfl (by decide) (by rfl) ((ownL_drew hOW).1.alloc _) (some ⟨W.heap.size, 0, none⟩) 1 1 [.int .i64 (x.time + sd + upI (x.size) sr)] (by rfl) (rd_new1 (by simp)) (by intro u hu; simp at hu; subst hu; rfl) (by unfold maxLen; omega) (by omega) (by simp; omega) ?_; intro v' w3 hown1 hg1))
              clear hw1
              have hO3 := ownL_push (ownL_drew hOW) hown1 hg1
              have HO3 := Lib.hid hO3
              clear hO3 hown1 hg1 hw2
              go_wp2_with fail
              go_roundw
              case rel => first | exact ⟨k + 1, by omega, by go_num, by rw [HST.out], by rw [HST.out], by rw [slowTo_succ, HST.out, HLL.out]; exact HO3.out⟩ | ((repeat apply Exists.intro); exact ⟨⟨k + 1, by omega, by go_num, by rw [HST.out], by rw [HST.out], by rw [slowTo_succ, HST.out, HLL.out]; exact HO3.out⟩, rfl⟩)
              case measure => simp [intOf]; omega

            · have g0 : ((k : Int) == 0) = false := by simp; omega
              have hkj : k = (k - 1) + 1 := by omega
              obtain ⟨b3, o3, y, rfl, hbl3, hy, hcy⟩ := hr3.int (k - 1) (by omega)
              have hye : y = en := by
                have h5 := hlast (k - 1)
                rw [← hkj, HLL.out, HSS.out, hy] at h5
                exact Option.some.inj h5
              subst hye
              have g1 : decide (y < x.time) = true := by simpa using hgt
              have HKJ := Lib.hid hkj
              have HY := Lib.hid hy
              clear hlast hkj hy
              have i0 : (0 : Int) ≤ (k : Int) - 1 := by omega
              have i1 : (1 : Int) ≤ (k : Int) := by omega
              have i2 : ((k : Int) - 1).toNat = k - 1 := by omega
              have i3 : (k : Int) - 1 < (k : Int) := by omega
              have hwk := wrap_in ((k : Int) - 1) (by omega) (by omega)
              clear hk0
              go_wp2_with fail
              go_quiet (fail)
              clear hwk i0 i1 i2 i3
              have a0 : ((wr.alloc (.cells (List.toArray [.int .i64 x.time, .int .i64 x.size]) 90)).drewN nq).cell? ⟨w.heap.size, 0, none⟩ = some (.int .i64 sr) := ((E0.alloc (.cells (List.toArray [.int .i64 x.time, .int .i64 x.size]) 90)).drewN nq).cell 0
              have a1 : ((wr.alloc (.cells (List.toArray [.int .i64 x.time, .int .i64 x.size]) 90)).drewN nq).cell? ⟨w.heap.size, 1, none⟩ = some (.int .i64 sd) := ((E0.alloc (.cells (List.toArray [.int .i64 x.time, .int .i64 x.size]) 90)).drewN nq).cell 1
              have a2 : ((wr.alloc (.cells (List.toArray [.int .i64 x.time, .int .i64 x.size]) 90)).drewN nq).cell? ⟨wr.heap.size, 0, none⟩ = some (.int .i64 x.time) := ((Blk.new wr 90 [.int .i64 x.time, .int .i64 x.size]).drewN nq).cell 0
              have a3 : ((wr.alloc (.cells (List.toArray [.int .i64 x.time, .int .i64 x.size]) 90)).drewN nq).cell? ⟨wr.heap.size, 1, none⟩ = some (.int .i64 x.size) := ((Blk.new wr 90 [.int .i64 x.time, .int .i64 x.size]).drewN nq).cell 1
              have hOW := ownL_drewN (ownL_alloc hO (.cells (List.toArray [.int .i64 x.time, .int .i64 x.size]) 90)) nq
              have hWs := hOW.2.size
              have BW := ((E0.alloc (.cells (List.toArray [.int .i64 x.time, .int .i64 x.size]) 90)).drewN nq)
              generalize ((wr.alloc (.cells (List.toArray [.int .i64 x.time, .int .i64 x.size]) 90)).drewN nq) = W at *
              clear d0 f0 x0 y0 c0 c1
              have hl60 : l.length ≤ 60 := by have := HLO.out; omega
              go_wp2_with fail
              go_region_held3 (fun w' => w'.cell? ⟨w.heap.size, 0, none⟩ = some (.int .i64 sr) ∧ w'.cell? ⟨w.heap.size, 1, none⟩ = some (.int .i64 sd))
                (first | exact svS BW.drew | exact svS (BW.drew.alloc _) | exact svS ((BW.drew.alloc _).grown hg1 hne))
                (first | (go_at_call 65; refine (divideUp_any _ _ _ (by omega) (by omega) (by omega) (by omega)).mono ?_; rintro e w' ⟨rfl, rfl⟩) | (refine step_append_rd (size := 1) (bytes := 8) (base := w2.heap.size) (by rfl) _ _ (by rfl) Try.underlying73 hi hz0 hz1 hz2 rfl (by decide) (by rfl) ((ownL_drew hOW).1.alloc _) (some ⟨W.heap.size, 0, none⟩) 1 1 [.int .i64 (x.time + sd + upI (x.size) sr)] (by rfl) (rd_new1 (by simp)) (by intro u hu; simp at hu; subst hu; rfl) (by unfold maxLen; omega) (by omega) (by simp; omega) ?_; intro v' w3 hown1 hg1))
              clear hw1
              have hO3 := ownL_push (ownL_drew hOW) hown1 hg1
              have HO3 := Lib.hid hO3
              clear hO3 hown1 hg1 hw2
              go_wp2_with fail
              go_roundw
              case rel => first | exact ⟨k + 1, by omega, by go_num, by rw [HST.out], by rw [HST.out], by rw [slowTo_succ, HST.out, HLL.out]; exact HO3.out⟩ | ((repeat apply Exists.intro); exact ⟨⟨k + 1, by omega, by go_num, by rw [HST.out], by rw [HST.out], by rw [slowTo_succ, HST.out, HLL.out]; exact HO3.out⟩, rfl⟩)
              case measure => simp [intOf]; omega

          · have HST2 := Lib.hid (HST.out.trans (if_neg hgt))
            clear HST
            have HST := HST2
            clear HST2
            have u := upI_le (a := su + x.size) (b := sr) (by omega) (by omega)
            have u0 := u.1
            have u1 := u.2
            clear u
            have hw1 := wrap_in (fi + sd) (by omega) (by omega)
            have hw2 := wrap_in (fi + sd + upI (su + x.size) sr) (by omega) (by omega)
            by_cases hk0 : k = 0
            · exact absurd (show en < x.time by have := HSS.out; rw [hk0] at this; simp [slowSt] at this; omega) hgt
            · have g0 : ((k : Int) == 0) = false := by simp; omega
              have hkj : k = (k - 1) + 1 := by omega
              obtain ⟨b3, o3, y, rfl, hbl3, hy, hcy⟩ := hr3.int (k - 1) (by omega)
              have hye : y = en := by
                have h5 := hlast (k - 1)
                rw [← hkj, HLL.out, HSS.out, hy] at h5
                exact Option.some.inj h5
              subst hye
              have g1 : decide (y < x.time) = false := by simpa using hgt
              have HKJ := Lib.hid hkj
              have HY := Lib.hid hy
              clear hlast hkj hy
              have i0 : (0 : Int) ≤ (k : Int) - 1 := by omega
              have i1 : (1 : Int) ≤ (k : Int) := by omega
              have i2 : ((k : Int) - 1).toNat = k - 1 := by omega
              have i3 : (k : Int) - 1 < (k : Int) := by omega
              have hwk := wrap_in ((k : Int) - 1) (by omega) (by omega)
              clear hk0
              go_wp2_with fail
              go_quiet (fail)
              clear hwk i0 i1 i2 i3
              have a0 : ((wr.alloc (.cells (List.toArray [.int .i64 x.time, .int .i64 x.size]) 90)).drewN nq).cell? ⟨w.heap.size, 0, none⟩ = some (.int .i64 sr) := ((E0.alloc (.cells (List.toArray [.int .i64 x.time, .int .i64 x.size]) 90)).drewN nq).cell 0
              have a1 : ((wr.alloc (.cells (List.toArray [.int .i64 x.time, .int .i64 x.size]) 90)).drewN nq).cell? ⟨w.heap.size, 1, none⟩ = some (.int .i64 sd) := ((E0.alloc (.cells (List.toArray [.int .i64 x.time, .int .i64 x.size]) 90)).drewN nq).cell 1
              have a2 : ((wr.alloc (.cells (List.toArray [.int .i64 x.time, .int .i64 x.size]) 90)).drewN nq).cell? ⟨wr.heap.size, 0, none⟩ = some (.int .i64 x.time) := ((Blk.new wr 90 [.int .i64 x.time, .int .i64 x.size]).drewN nq).cell 0
              have a3 : ((wr.alloc (.cells (List.toArray [.int .i64 x.time, .int .i64 x.size]) 90)).drewN nq).cell? ⟨wr.heap.size, 1, none⟩ = some (.int .i64 x.size) := ((Blk.new wr 90 [.int .i64 x.time, .int .i64 x.size]).drewN nq).cell 1
              have hOW := ownL_drewN (ownL_alloc hO (.cells (List.toArray [.int .i64 x.time, .int .i64 x.size]) 90)) nq
              have hWs := hOW.2.size
              have BW := ((E0.alloc (.cells (List.toArray [.int .i64 x.time, .int .i64 x.size]) 90)).drewN nq)
              generalize ((wr.alloc (.cells (List.toArray [.int .i64 x.time, .int .i64 x.size]) 90)).drewN nq) = W at *
              clear d0 f0 x0 y0 c0 c1
              have hl60 : l.length ≤ 60 := by have := HLO.out; omega
              go_wp2_with fail
              go_region_held3 (fun w' => w'.cell? ⟨w.heap.size, 0, none⟩ = some (.int .i64 sr) ∧ w'.cell? ⟨w.heap.size, 1, none⟩ = some (.int .i64 sd))
                (first | exact svS BW.drew | exact svS (BW.drew.alloc _) | exact svS ((BW.drew.alloc _).grown hg1 hne))
                (first | (go_at_call 65; refine (divideUp_any _ _ _ (by omega) (by omega) (by omega) (by omega)).mono ?_; rintro e w' ⟨rfl, rfl⟩) | (refine step_append_rd (size := 1) (bytes := 8) (base := w2.heap.size) (by rfl) _ _ (by rfl) Try.underlying73 hi hz0 hz1 hz2 rfl (by decide) (by rfl) ((ownL_drew hOW).1.alloc _) (some ⟨W.heap.size, 0, none⟩) 1 1 [.int .i64 (fi + sd + upI (su + x.size) sr)] (by rfl) (rd_new1 (by simp)) (by intro u hu; simp at hu; subst hu; rfl) (by unfold maxLen; omega) (by omega) (by simp; omega) ?_; intro v' w3 hown1 hg1))
              clear hw1
              have hO3 := ownL_push (ownL_drew hOW) hown1 hg1
              have HO3 := Lib.hid hO3
              clear hO3 hown1 hg1 hw2
              go_wp2_with fail
              go_roundw
              case rel => first | exact ⟨k + 1, by omega, by go_num, by rw [HST.out], by rw [HST.out], by rw [slowTo_succ, HST.out, HLL.out]; exact HO3.out⟩ | ((repeat apply Exists.intro); exact ⟨⟨k + 1, by omega, by go_num, by rw [HST.out], by rw [HST.out], by rw [slowTo_succ, HST.out, HLL.out]; exact HO3.out⟩, rfl⟩)
              case measure => simp [intOf]; omega

        · go_wp2_with fail
          go_ret2
          obtain rfl : k = n := by omega
          exact ownL_ret (ownL_up hO z2)

end Go.Proofs.Ytmmelpgnfjjokaa