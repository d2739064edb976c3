/- LastBusy: slices.Max, contracts of the program's and the reference's; the law's walk. -/
import Derived.Test.YtgdccclpibbbeaaBaV
namespace Go.Proofs.Ytgdccclpibbbeaa
open Go.RowKit

def maxFrom (a : Int) (ss : List Int) : Int := ss.foldl max a
theorem maxFrom_snoc (a : Int) {ss : List Int} {k : Nat} {t : Int} (ht : ss[k]? = some t) : maxFrom a (ss.take (k + 1)) = max (maxFrom a (ss.take k)) t := by
  unfold maxFrom
  rw [take_snoc ht, List.foldl_append]
  rfl
theorem maxFrom_ge : ∀ (ss : List Int) (a : Int), a ≤ maxFrom a ss ∧ ∀ t ∈ ss, t ≤ maxFrom a ss
  | [], a => by simp [maxFrom]
  | x :: r, a => by
    obtain ⟨h1, h2⟩ := maxFrom_ge r (max a x)
    have e : maxFrom a (x :: r) = maxFrom (max a x) r := rfl
    rw [e]
    refine ⟨by omega, fun t ht => ?_⟩
    rcases List.mem_cons.1 ht with rfl | ht
    · omega
    · exact h2 t ht
theorem maxFrom_mem : ∀ (ss : List Int) (a : Int), maxFrom a ss = a ∨ maxFrom a ss ∈ ss
  | [], a => .inl rfl
  | x :: r, a => by
    have e : maxFrom a (x :: r) = maxFrom (max a x) r := rfl
    rw [e]
    rcases maxFrom_mem r (max a x) with h | h
    · rw [h]
      rcases Int.le_total a x with hx | hx
      · right; rw [Int.max_eq_right hx]; simp
      · left; exact Int.max_eq_left hx
    · exact .inr (List.mem_cons_of_mem _ h)
theorem maxFrom_some {ss : List Int} {x : Int} (hx : x ∈ ss) (h : someSent ss) : maxFrom x ss = maxFrom 0 ss := by
  obtain ⟨j, v, hj, hv, hv0⟩ := h
  have hm := List.mem_of_getElem? hv
  have a1 := maxFrom_ge ss x
  have a2 := maxFrom_ge ss 0
  have b1 : maxFrom x ss ∈ ss := by rcases maxFrom_mem ss x with h | h; rw [h]; exact hx; exact h
  have c1 := a2.2 _ b1
  have c2 := a1.2 _ hm
  have c3 := a2.2 _ hm
  rcases maxFrom_mem ss 0 with h | h
  · omega
  · have := a1.2 _ h; omega
def MxRel (n : Nat) (a : Int) (ss : List Int) (w : World) (v i : Value) (wr : World) : Prop := ∃ k : Nat, k ≤ n ∧ v = .int .i64 (maxFrom a (ss.take k)) ∧ i = .int .i64 (k : Int) ∧ wr = w
def mxHead (ss : List Int) : Int := maxFrom (ss.headD 0) ss
theorem mxHead_some {ss : List Int} {m : Nat} (hl : ss.length = m) (h0 : 0 < m) (h : someSent ss) : mxHead ss = maxFrom 0 ss := by
  refine maxFrom_some ?_ h
  cases ss with
  | nil => simp at hl; omega
  | cons y ys => simp
set_option maxHeartbeats 1000000 in
theorem slicesMax_any (A : Option Addr) (n c : Nat) (ss : List Int) (w : World) (hn : n ≤ 1048576) (h0 : 0 < n) (hr : Rd w 1 A n (ss.map (Value.int .i64))) :
    Calls Try.prog 54 #[.slice A n c] w fun e w' => e = .returned (.int .i64 (mxHead ss)) ∧ w = w' := by
  have hmx : mxHead ss = maxFrom (ss.headD 0) ss := rfl
  rw [hmx]
  clear hmx
  have hl := hr.len1
  obtain ⟨b0, o0, x, rfl, hbl0, hx, hc0⟩ := hr.int 0 h0
  have hhd : ss.headD 0 = x := by
    cases ss with
    | nil => simp at hx
    | cons y ys => simpa using hx
  have h1 : maxFrom x (ss.take 1) = x := by
    cases ss with
    | nil => simp at hx
    | cons y ys =>
      obtain rfl : y = x := by simpa using hx
      simp [maxFrom]
  rw [hhd]
  have HL := Lib.hid hl
  have H1 := Lib.hid h1
  have e1 : ¬ ((n : Int) < 1) := by omega
  simp only [Nat.add_zero] at hc0
  clear hl h1 hhd hx
  go_enter Try.func54, Try.ntmps54
  go_wp2_with fail
  go_loopw [3, 4] (MxRel n x ss w) (fun _ i _ => n - (intOf i).toNat)
  case atStart => exact ⟨1, by omega, by rw [H1.out], rfl, rfl⟩
  case round =>
    obtain ⟨k, hk, rfl, rfl, rfl⟩ := hrel
    by_cases hlt : k < n
    · obtain ⟨b, o, t, he, hbl, ht, hc⟩ := hr.int k hlt
      obtain ⟨rfl, rfl⟩ : b0 = b ∧ o0 = o := by injection he with he; injection he with he1 he2; exact ⟨he1, he2⟩
      have HS := Lib.hid (maxFrom_snoc x ht)
      clear ht he
      generalize maxFrom x (ss.take k) = q at HS ⊢
      go_wp2_with fail
      all_goals go_roundw
      all_goals first
        | (case rel => first | exact ⟨k + 1, by omega, by rw [HS.out]; congr 1; omega, by simp, rfl⟩ | ((repeat apply Exists.intro); exact ⟨⟨k + 1, by omega, by rw [HS.out]; congr 1; omega, by simp, rfl⟩, rfl⟩))
        | (case measure => simp [intOf]; omega)
    · obtain rfl : k = n := by omega
      go_wp2_with fail
      go_ret
      rw [List.take_of_length_le (by rw [HL.out]; omega)]
      exact ⟨rfl, rfl⟩
def lastB (xs : List Int) (ar : List Marked) (lim : Int) : Bool := runB xs ar lim && decide (0 < ar.length)
def lastV (xs : List Int) (ar : List Marked) (lim : Int) : Int := if lastB xs ar lim then maxFrom 0 (bandsRun xs ar lim) else 0

set_option maxHeartbeats 2000000 in
theorem specLastBusy_any (A : Option Addr) (n c : Nat) (xs : List Int) (B : Option Addr) (m d : Nat) (ar : List Marked) (lim : Int) (w : World) (hn : n ≤ 1048576) (hr' : Rd w 1 A n (xs.map (Value.int .i64))) (hm : m ≤ 1048576) (hr : Rd w 2 B m (ar.flatMap encMarked)) :
    Calls Try.prog 36 #[.slice A n c, .slice B m d, .int .i64 lim] w fun e w' => e = .returned (.tuple #[.int .i64 (lastV xs ar lim), .bool (lastB xs ar lim)]) ∧ Below w.heap.size w w' := by
  have hlm : ar.length = m := by have h1 := hr.1; rw [flat_len encMarked 2 encMarked_len] at h1; omega
  cases h : runB xs ar lim with
  | false =>
    have e1 : lastB xs ar lim = false := by simp [lastB, h]
    have e2 : lastV xs ar lim = 0 := by simp [lastV, e1]
    rw [e1, e2]
    go_enter Try.func36, Try.ntmps36
    go_wp2_with (first | (go_at_call 48; refine (bdAsked_any _ _ _ xs _ _ _ ar lim _ hn hr' hm hr).mono ?_; rintro e w1 ⟨rfl, hb1⟩))
    go_ret2
    exact ⟨rfl, hb1⟩
  | true =>
    rcases Nat.eq_zero_or_pos m with rfl | h0
    · have e1 : lastB xs ar lim = false := by simp [lastB, hlm]
      have e2 : lastV xs ar lim = 0 := by simp [lastV, e1]
      rw [e1, e2]
      go_enter Try.func36, Try.ntmps36
      go_wp2_with (first | (go_at_call 48; refine (bdAsked_any _ _ _ xs _ _ _ ar lim _ hn hr' hm hr).mono ?_; rintro e w1 ⟨rfl, hb1⟩))
      go_ret2
      exact ⟨rfl, hb1⟩
    · have e1 : lastB xs ar lim = true := by simp [lastB, h]; omega
      have e2 : lastV xs ar lim = maxFrom 0 (bandsRun xs ar lim) := by simp [lastV, e1]
      rw [e1, e2]
      have hl := bandsRun_len h
      obtain ⟨⟨h1, h2⟩, h00⟩ := runB_iff.1 h
      have h5 := inB_iff.1 h00
      have h3 : 0 < lim := by omega
      have h4 : lim ≤ 1048576 := by omega
      have hn16 : n = 16 := by rw [← hr'.len1]; exact (bandMapB_iff.1 h1).2
      subst hn16
      have hsm := bandsRun_some h2 (fun x => bandN_lt h1 x) h3 (by omega : 0 < ar.length)
      have hne : ¬ ((m : Int) = 0) := by omega
      clear h00 h5 e1 e2
      have HSM := Lib.hid hsm
      have HL := Lib.hid (hl.trans hlm)
      have HMX := Lib.hid (mxHead_some HL.out h0 hsm)
      clear hl hlm hsm

      go_enter Try.func36, Try.ntmps36
      go_wp2_with (first | (go_at_call 48; refine (bdAsked_any _ _ _ xs _ _ _ ar lim _ hn hr' hm hr).mono ?_; rintro e w1 ⟨rfl, hb1⟩) | (go_at_call 49; refine (bdRun_any _ _ xs _ _ _ ar lim _ h1 h2 h3 h4 (hr'.below hb1) (hr.below hb1)).mono ?_; rintro e w2 ⟨rfl, hB2, hb2⟩))
      generalize hss : bandsRun xs ar lim = ss at *
      have HSS := Lib.hid hss
      clear hss
      have HB := Lib.hid hB2
      have HZ := Lib.hid (ext_trans hb1 hb2)
      have hsz := hb1.size
      have hlt1 := hB2.lt
      clear hB2 hb2
      go_loopw [8, 26] (MxRel m 0 ss w2) (fun _ i _ => m - (intOf i).toNat)
      case atStart => exact ⟨0, by omega, rfl, rfl, rfl⟩
      case round =>
        obtain ⟨k, hk, rfl, rfl, rfl⟩ := hrel
        by_cases hlt : k < m
        · have ht : ss[k]? = some (ss[k]'(by rw [HL.out]; exact hlt)) := List.getElem?_eq_getElem _
          generalize ss[k]'(by rw [HL.out]; exact hlt) = t at ht
          have hc : wr.cell? ⟨w1.heap.size, k, none⟩ = some (.int .i64 t) := by rw [HB.out.cell, List.getElem?_map, ht]; rfl
          have HS := Lib.hid (maxFrom_snoc 0 ht)
          clear ht
          generalize maxFrom 0 (ss.take k) = q at HS ⊢
          go_wp2_with (go_at_call 53; refine (most_any _ _ _).mono ?_; rintro e w9 ⟨rfl, rfl⟩)
          go_roundw
          case rel => first | exact ⟨k + 1, by omega, by rw [HS.out], by simp, rfl⟩ | ((repeat apply Exists.intro); exact ⟨⟨k + 1, by omega, by rw [HS.out], by simp, rfl⟩, rfl⟩)
          case measure => simp [intOf]; omega
        · obtain rfl : k = m := by omega
          go_wp2_with fail
          go_ret2
          rw [List.take_of_length_le (by rw [HL.out]; omega)]
          exact ⟨by rw [HSS.out]; rfl, HZ.out⟩

set_option maxHeartbeats 2000000 in
theorem implLastBusy_any (A : Option Addr) (n c : Nat) (xs : List Int) (B : Option Addr) (m d : Nat) (ar : List Marked) (lim : Int) (w : World) (hn : n ≤ 1048576) (hr' : Rd w 1 A n (xs.map (Value.int .i64))) (hm : m ≤ 1048576) (hr : Rd w 2 B m (ar.flatMap encMarked)) :
    Calls Try.prog 37 #[.slice A n c, .slice B m d, .int .i64 lim] w fun e w' => e = .returned (.tuple #[.int .i64 (lastV xs ar lim), .bool (lastB xs ar lim)]) ∧ Below w.heap.size w w' := by
  have hlm : ar.length = m := by have h1 := hr.1; rw [flat_len encMarked 2 encMarked_len] at h1; omega
  cases h : runB xs ar lim with
  | false =>
    have e1 : lastB xs ar lim = false := by simp [lastB, h]
    have e2 : lastV xs ar lim = 0 := by simp [lastV, e1]
    rw [e1, e2]
    go_enter Try.func37, Try.ntmps37
    go_wp2_with (first | (go_at_call 50; refine (canRun_any _ _ _ xs _ _ _ ar lim _ hn hr' hm hr).mono ?_; rintro e w1 ⟨rfl, hb1⟩))
    go_ret2
    exact ⟨rfl, hb1⟩
  | true =>
    rcases Nat.eq_zero_or_pos m with rfl | h0
    · have e1 : lastB xs ar lim = false := by simp [lastB, hlm]
      have e2 : lastV xs ar lim = 0 := by simp [lastV, e1]
      rw [e1, e2]
      go_enter Try.func37, Try.ntmps37
      go_wp2_with (first | (go_at_call 50; refine (canRun_any _ _ _ xs _ _ _ ar lim _ hn hr' hm hr).mono ?_; rintro e w1 ⟨rfl, hb1⟩))
      go_ret2
      exact ⟨rfl, hb1⟩
    · have e1 : lastB xs ar lim = true := by simp [lastB, h]; omega
      have e2 : lastV xs ar lim = maxFrom 0 (bandsRun xs ar lim) := by simp [lastV, e1]
      rw [e1, e2]
      have hl := bandsRun_len h
      obtain ⟨⟨h1, h2⟩, h00⟩ := runB_iff.1 h
      have h5 := inB_iff.1 h00
      have h3 : 0 < lim := by omega
      have h4 : lim ≤ 1048576 := by omega
      have hn16 : n = 16 := by rw [← hr'.len1]; exact (bandMapB_iff.1 h1).2
      subst hn16
      have hsm := bandsRun_some h2 (fun x => bandN_lt h1 x) h3 (by omega : 0 < ar.length)
      have hne : ¬ ((m : Int) = 0) := by omega
      clear h00 h5 e1 e2
      have HSM := Lib.hid hsm
      have HL := Lib.hid (hl.trans hlm)
      have HMX := Lib.hid (mxHead_some HL.out h0 hsm)
      clear hl hlm hsm

      go_enter Try.func37, Try.ntmps37
      go_wp2_with (first | (go_at_call 50; refine (canRun_any _ _ _ xs _ _ _ ar lim _ hn hr' hm hr).mono ?_; rintro e w1 ⟨rfl, hb1⟩) | (go_at_call 51; refine (runBands_any _ _ xs _ _ _ ar lim _ h1 h2 h3 h4 (hr'.below hb1) (hr.below hb1)).mono ?_; rintro e w2 ⟨rfl, hB2, hb2⟩) | (go_at_call 54; refine (slicesMax_any _ _ _ (bandsRun xs ar lim) _ hm h0 (Rd.of_blk hB2 (by rw [List.length_map, HL.out, Nat.mul_one]))).mono ?_; rintro e w3 ⟨rfl, rfl⟩))
      go_ret2
      exact ⟨by rw [HMX.out]; rfl, ext_trans hb1 hb2⟩

set_option maxHeartbeats 4000000 in
theorem walkLastBusy (Axs : Option Addr) (nxs cxs : Nat) (xs : List Int) (hnxs : nxs ≤ 9223372036854775807) (Aar : Option Addr) (nar car : Nat) (ar : List Marked) (hnar : nar ≤ 9223372036854775807) (lim : Int) (w : World) (hrxs : Rd w 1 Axs nxs (xs.flatMap encInt)) (hrar : Rd w 2 Aar nar (ar.flatMap encMarked)) :
    Calls Try.prog 11 #[.slice Axs nxs cxs, .slice Aar nar car, .int .i64 lim] w fun e w' => e = .returned (.bool true) ∧ Below w.heap.size w w' := by
  rw [map_flat] at hrxs
  by_cases hbigxs : 1048576 < nxs
  · go_enter Try.func11, Try.ntmps11
    go_wp2_with (first | (go_at_call 24; refine (szMarkedS_any Aar nar car _ _ hnar (by omega) (by omega)).mono ?_; rintro e w1 ⟨rfl, rfl⟩; have hsar : (if (1048576 : Int) < (nar : Int) then (-1 : Int) else 1048576 - nar) = 1048576 - nar := by {{ split <;> omega }}; rw [hsar]; clear hsar) | fail)
    go_ret
    exact ⟨rfl, ext_refl w⟩
  have hmxs : nxs ≤ 1048576 := by omega
  by_cases hbigar : 1048576 < nar
  · go_enter Try.func11, Try.ntmps11
    go_wp2_with (first | (go_at_call 24; refine (szMarkedS_any Aar nar car _ _ hnar (by omega) (by omega)).mono ?_; rintro e w1 ⟨rfl, rfl⟩; have hsar : (if (1048576 : Int) < (nar : Int) then (-1 : Int) else 1048576 - nar) = -1 := by {{ split <;> omega }}; rw [hsar]; clear hsar) | fail)
    go_ret
    exact ⟨rfl, ext_refl w⟩
  have hmar : nar ≤ 1048576 := by omega
  have z0 : Below w.heap.size w w := ext_refl w
  go_enter Try.func11, Try.ntmps11
  go_wp2_with fail
  refine (szMarkedS_any Aar nar car _ _ hnar (by omega) (by omega)).mono ?_; rintro e w' ⟨rfl, rfl⟩
  have hsar : (if (1048576 : Int) < (nar : Int) then (-1 : Int) else 1048576 - nar) = 1048576 - nar := by { split <;> omega }
  rw [hsar]
  clear hsar
  go_wp2_with fail
  refine (toIntS_any Axs nxs cxs xs _ hmxs (hrxs.below z0)).mono ?_; rintro e w1 ⟨gt1, rfl, owt1, hb1⟩
  have ot11 := own_base owt1 z0.size
  have z1 := ext_trans z0 hb1
  go_wp2_with fail
  refine (toMarkedS_any Aar nar car ar _ hmar (hrar.below z1)).mono ?_; rintro e w2 ⟨gt2, rfl, owt2, hb2⟩
  have apt2t1 := apart_before ot11.lt owt2.lt
  have ot12 := own_ext ot11 hb2
  have ot22 := own_base owt2 z1.size
  have z2 := ext_trans z1 hb2
  go_wp2_with fail
  refine (specLastBusy_any _ nxs _ xs _ nar _ ar lim _ hmxs (Rd.of_own ot12) hmar (Rd.of_own ot22)).mono ?_; rintro e w3 ⟨rfl, hb3⟩
  have ot13 := own_ext ot12 hb3
  have ot23 := own_ext ot22 hb3
  have z3 := ext_trans z2 hb3
  go_wp2_with fail
  refine (toIntS_any Axs nxs cxs xs _ hmxs (hrxs.below z3)).mono ?_; rintro e w4 ⟨gxxs, rfl, owxxs, hb4⟩
  have apxxst1 := apart_before ot13.lt owxxs.lt
  have ot14 := own_ext ot13 hb4
  have apxxst2 := apart_before ot23.lt owxxs.lt
  have ot24 := own_ext ot23 hb4
  have oxxs4 := own_base owxxs z3.size
  have z4 := ext_trans z3 hb4
  go_wp2_with fail
  refine (toMarkedS_any Aar nar car ar _ hmar (hrar.below z4)).mono ?_; rintro e w5 ⟨gxar, rfl, owxar, hb5⟩
  have apxart1 := apart_before ot14.lt owxar.lt
  have ot15 := own_ext ot14 hb5
  have apxart2 := apart_before ot24.lt owxar.lt
  have ot25 := own_ext ot24 hb5
  have apxarxxs := apart_before oxxs4.lt owxar.lt
  have oxxs5 := own_ext oxxs4 hb5
  have oxar5 := own_base owxar z4.size
  have z5 := ext_trans z4 hb5
  go_wp2_with fail
  refine (implLastBusy_any _ nxs _ xs _ nar _ ar lim _ hmxs (Rd.of_own oxxs5) hmar (Rd.of_own oxar5)).mono ?_; rintro e w6 ⟨rfl, hb6⟩
  have ot16 := own_ext ot15 hb6
  have ot26 := own_ext ot25 hb6
  have oxxs6 := own_ext oxxs5 hb6
  have oxar6 := own_ext oxar5 hb6
  have z6 := ext_trans z5 hb6
  go_wp2_with fail
  refine (toIntS_any Axs nxs cxs xs _ hmxs (hrxs.below z6)).mono ?_; rintro e w7 ⟨gt5, rfl, owt5, hb7⟩
  have apt5t1 := apart_before ot16.lt owt5.lt
  have ot17 := own_ext ot16 hb7
  have apt5t2 := apart_before ot26.lt owt5.lt
  have ot27 := own_ext ot26 hb7
  have apt5xxs := apart_before oxxs6.lt owt5.lt
  have oxxs7 := own_ext oxxs6 hb7
  have apt5xar := apart_before oxar6.lt owt5.lt
  have oxar7 := own_ext oxar6 hb7
  have ot57 := own_base owt5 z6.size
  have z7 := ext_trans z6 hb7
  go_wp2_with fail
  refine (eqIntS_same _ _ nxs _ _ xs _ hmxs (Rd.of_own oxxs7) (Rd.of_own ot57)).mono ?_; rintro e w8 ⟨rfl, hb8⟩
  have ot18 := own_ext ot17 hb8
  have ot28 := own_ext ot27 hb8
  have oxxs8 := own_ext oxxs7 hb8
  have oxar8 := own_ext oxar7 hb8
  have ot58 := own_ext ot57 hb8
  have z8 := ext_trans z7 hb8
  go_wp2_with fail
  refine (toMarkedS_any Aar nar car ar _ hmar (hrar.below z8)).mono ?_; rintro e w9 ⟨gt6, rfl, owt6, hb9⟩
  have apt6t1 := apart_before ot18.lt owt6.lt
  have ot19 := own_ext ot18 hb9
  have apt6t2 := apart_before ot28.lt owt6.lt
  have ot29 := own_ext ot28 hb9
  have apt6xxs := apart_before oxxs8.lt owt6.lt
  have oxxs9 := own_ext oxxs8 hb9
  have apt6xar := apart_before oxar8.lt owt6.lt
  have oxar9 := own_ext oxar8 hb9
  have ot69 := own_base owt6 z8.size
  have z9 := ext_trans z8 hb9
  go_wp2_with fail
  refine (eqMarkedS_same _ _ nar _ _ ar _ hmar (Rd.of_own oxar9) (Rd.of_own ot69)).mono ?_; rintro e w10 ⟨rfl, hb10⟩
  have ot110 := own_ext ot19 hb10
  have ot210 := own_ext ot29 hb10
  have oxxs10 := own_ext oxxs9 hb10
  have oxar10 := own_ext oxar9 hb10
  have ot610 := own_ext ot69 hb10
  have z10 := ext_trans z9 hb10
  go_wp2_with fail
  go_ret
  exact ⟨rfl, z10⟩

end Go.Proofs.Ytgdccclpibbbeaa