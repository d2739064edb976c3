/- IsStrict: contracts of the program's and the reference's; the law's walk. -/
import Derived.Test.YtgdccclpibbbeaaBaE
import Derived.Test.YtgdccclpibbbeaaApp
namespace Go.Proofs.Ytgdccclpibbbeaa
open Go.RowKit

def violB (xs : List Int) (ar : List Marked) (ss : List Int) (p q : Nat) : Bool := match ss[p]?, ss[q]?, ar[p]?, ar[q]? with
  | some a, some b, some x, some y => decide (0 ≤ a) && decide (a < b) && decide (y.tick ≤ a) && decide (bandAt xs y.mark < bandAt xs x.mark)
  | _, _, _, _ => false
theorem viol_at {xs : List Int} {ar : List Marked} {ss : List Int} {p q : Nat} {a b : Int} {x y : Marked} (ha : ss[p]? = some a) (hb : ss[q]? = some b) (hx : ar[p]? = some x) (hy : ar[q]? = some y) :
    violB xs ar ss p q = (decide (0 ≤ a) && decide (a < b) && decide (y.tick ≤ a) && decide (bandAt xs y.mark < bandAt xs x.mark)) := by simp [violB, ha, hb, hx, hy]
def strictV (xs : List Int) (ar : List Marked) (ss : List Int) : Bool := (List.range ar.length).all fun p => (List.range ar.length).all fun q => !violB xs ar ss p q
theorem strict_false {xs : List Int} {ar : List Marked} {ss : List Int} {p q : Nat} (hp : p < ar.length) (hq : q < ar.length) (h : violB xs ar ss p q = true) : strictV xs ar ss = false := by
  unfold strictV
  rw [List.all_eq_false]
  refine ⟨p, List.mem_range.2 hp, ?_⟩
  simp only [Bool.not_eq_true]
  rw [List.all_eq_false]
  exact ⟨q, List.mem_range.2 hq, by simp [h]⟩
theorem strict_true {xs : List Int} {ar : List Marked} {ss : List Int} (h : ∀ p, p < ar.length → ∀ q, q < ar.length → violB xs ar ss p q = false) : strictV xs ar ss = true := by
  unfold strictV
  rw [List.all_eq_true]
  intro p hp
  rw [List.all_eq_true]
  intro q hq
  simp [h p (List.mem_range.1 hp) q (List.mem_range.1 hq)]
def strictB (xs : List Int) (ar : List Marked) (ss : List Int) : Bool := bandMapB xs && waitsB ar ss
def StOut (w : World) (n : Nat) (xs : List Int) (ar : List Marked) (ss : List Int) (i : Value) (wr : World) : Prop := ∃ k : Nat, k ≤ n ∧ i = .int .i64 k ∧ (∀ p, p < k → ∀ q, q < n → violB xs ar ss p q = false) ∧ Below w.heap.size w wr
def StIn (w : World) (n g : Nat) (t : TypeId) (t0 m0 : Int) (xs : List Int) (ar : List Marked) (ss : List Int) (k : Nat) (i : Value) (wr : World) : Prop :=
  ∃ j : Nat, j ≤ n ∧ i = .int .i64 j ∧ (∀ q, q < j → violB xs ar ss k q = false) ∧ Blk wr g t [.int .i64 t0, .int .i64 m0] ∧ Below w.heap.size w wr
theorem stIn_step {w wr : World} {n g j : Nat} {t : TypeId} {t0 m0 : Int} {xs : List Int} {ar : List Marked} {ss : List Int} {k : Nat} (hj : j < n) (hall : ∀ q, q < j → violB xs ar ss k q = false) (h : violB xs ar ss k j = false) (hB : Blk wr g t [.int .i64 t0, .int .i64 m0]) (hb : Below w.heap.size w wr) :
    StIn w n g t t0 m0 xs ar ss k (.int .i64 ((j : Int) + 1)) wr :=
  ⟨j + 1, by omega, by simp, fun q hq => by
    by_cases hqj : q = j
    · subst hqj; exact h
    · exact hall q (by omega), hB, hb⟩
theorem tmod16 (p : Nat) : ((p : Nat) : Int).tmod 16 = ((p % 16 : Nat) : Int) := by rw [Int.tmod_eq_emod_of_nonneg (by omega)]; omega

set_option maxRecDepth 100000 in
set_option maxHeartbeats 4000000 in
theorem specIsStrict_any (A : Option Addr) (n c : Nat) (xs : List Int) (B : Option Addr) (m d : Nat) (ar : List Marked) (C : Option Addr) (l f : Nat) (ss : List Int) (w : World) (hn : n ≤ 1048576) (hr' : Rd w 1 A n (xs.map (Value.int .i64))) (hm : m ≤ 1048576) (hr : Rd w 2 B m (ar.flatMap encMarked)) (hl' : l ≤ 1048576) (hs : Rd w 1 C l (ss.map (Value.int .i64))) :
    Calls Try.prog 30 #[.slice A n c, .slice B m d, .slice C l f] w fun e w' => e = .returned (.tuple #[.bool (strictB xs ar ss && strictV xs ar ss), .bool (strictB xs ar ss)]) ∧ Below w.heap.size w w' := by
  cases h1 : bandMapB xs with
  | false =>
    have e0 : strictB xs ar ss = false := by simp [strictB, h1]
    rw [e0]
    clear e0
    go_enter Try.func30, Try.ntmps30
    go_wp2_with (first | (go_at_call 38; refine (bdMap_any _ _ _ xs _ hn hr').mono ?_; rintro e w' ⟨rfl, rfl⟩) | (go_at_call 43; refine (bdSent_any _ _ _ ar _ _ _ ss _ hm hr hl' hs).mono ?_; rintro e w1 ⟨rfl, hb1⟩))
    go_ret2
    exact ⟨rfl, ext_refl w⟩
  | true =>
    cases h2 : waitsB ar ss with
    | false =>
      have e0 : strictB xs ar ss = false := by simp [strictB, h2]
      rw [e0]
      clear e0
      go_enter Try.func30, Try.ntmps30
      go_wp2_with (first | (go_at_call 38; refine (bdMap_any _ _ _ xs _ hn hr').mono ?_; rintro e w' ⟨rfl, rfl⟩) | (go_at_call 43; refine (bdSent_any _ _ _ ar _ _ _ ss _ hm hr hl' hs).mono ?_; rintro e w1 ⟨rfl, hb1⟩))
      go_ret2
      exact ⟨rfl, hb1⟩
    | true =>
      have hab : arrB ar = true ∧ sentB ar ss = true := by simpa only [waitsB, Bool.and_eq_true] using h2
      have e0 : strictB xs ar ss = true := by simp [strictB, h1, h2]
      rw [e0, Bool.true_and]
      clear e0
      have hl : ar.length = m := by have h1 := hr.1; rw [flat_len encMarked 2 encMarked_len] at h1; omega
      have hls := hs.len1
      have hsl := sent_len hab.2
      have hn16 : n = 16 := by rw [← hr'.len1]; exact (bandMapB_iff.1 h1).2
      subst hn16
      have h40 : m ≤ 40 := by have := arr_len hab.1; omega
      have hlm : m = l := by omega
      subst hlm
      have HL := Lib.hid hl
      have HLS := Lib.hid hls
      have HAB := Lib.hid hab
      have HBM := Lib.hid h1
      clear hl hls hsl hab
      go_enter Try.func30, Try.ntmps30
      go_wp2_with (first | (go_at_call 38; refine (bdMap_any _ _ _ xs _ hn hr').mono ?_; rintro e w' ⟨rfl, rfl⟩) | (go_at_call 43; refine (bdSent_any _ _ _ ar _ _ _ ss _ hm hr hl' hs).mono ?_; rintro e w1 ⟨rfl, hb1⟩))
      clear h1 h2
      go_loopw [23] (StOut w m xs ar ss) (fun i _ => m - (intOf i).toNat)
      case atStart => exact ⟨0, Nat.zero_le _, rfl, fun p hp => by omega, hb1⟩
      case round =>
        obtain ⟨k, hk, rfl, hall, hb⟩ := hrel
        have HA := Lib.hid hall
        clear hall
        by_cases hlt : k < m
        · obtain ⟨wo, rfl⟩ : ∃ wo : World, wo = wr := ⟨_, rfl⟩
          obtain ⟨b, o, rfl, hblb, hcellb⟩ := hr.2 (by omega)
          have hblrbx : b < wo.heap.size := Nat.lt_of_lt_of_le hblb hb.size
          have hlxx : k < ar.length := by rw [HL.out]; omega
          have hxx : ar[k]? = some ar[k] := List.getElem?_eq_getElem hlxx
          generalize ar[k] = x at hxx
          have c0 : wo.cell? ⟨b, o + (k * 2 + 0), none⟩ = some (.int .i64 x.tick) := (hb.cell (p := ⟨b, o + (k * 2 + 0), none⟩) hblb).trans (hcellb _ _ ((flat_get encMarked 2 encMarked_len ar k 0 x hxx (by omega)).trans rfl))
          have c1 : wo.cell? ⟨b, o + (k * 2 + 1), none⟩ = some (.int .i64 x.mark) := (hb.cell (p := ⟨b, o + (k * 2 + 1), none⟩) hblb).trans (hcellb _ _ ((flat_get encMarked 2 encMarked_len ar k 1 x hxx (by omega)).trans rfl))
          simp only [Nat.add_zero, ← Nat.add_assoc] at c0 c1
          have HX := Lib.hid hxx
          clear hxx hlxx
          have HCELL := Lib.hid hcellb
          clear hcellb
          obtain ⟨b3, o3, si, rfl, hbl3, hsi, hcs3⟩ := hs.int k hlt
          have hxm := (arr_at HAB.out.1 HX.out).2
          obtain ⟨p, hp⟩ := Int.eq_ofNat_of_zero_le hxm.1
          obtain ⟨b2, o2, z1, rfl, hbl2, hz1, hba1, hcz1⟩ := band_at HBM.out hr' p
          have HSI := Lib.hid hsi
          have HP := Lib.hid hp
          have HBA1 := Lib.hid hba1
          have HR' := Lib.hid hr'
          rw [hp] at c1
          have k0 : (0 : Int) ≤ (k : Int) := by omega
          have k1 : (k : Int) < (m : Int) := by omega
          have B7 := Blk.new wo 51 [.int .i64 x.tick, .int .i64 (p : Int)]
          clear hsi hp hba1 hxm hr' hz1
          go_wp2_with fail
          go_loopw [30] (StIn w m wo.heap.size 51 x.tick (p : Int) xs ar ss k) (fun i _ => m - (intOf i).toNat)
          case atStart => exact ⟨0, Nat.zero_le _, rfl, fun q hq => by omega, B7, ext_alloc hb _⟩
          case round =>
            obtain ⟨j, hj, rfl, hin, B8, hb2⟩ := hrel
            have HIN := Lib.hid hin
            clear hin B7
            by_cases hlj : j < m
            · obtain ⟨y8, x8, d8, f8⟩ := B8.two
              have hly : j < ar.length := by rw [HL.out]; omega
              have hy : ar[j]? = some ar[j] := List.getElem?_eq_getElem hly
              generalize ar[j] = y at hy
              have hym := (arr_at HAB.out.1 hy).2
              obtain ⟨q, hq⟩ := Int.eq_ofNat_of_zero_le hym.1
              obtain ⟨b2', o2', z2, he2, hbl2', hz2, hba2, hcz2⟩ := band_at HBM.out HR'.out q
              obtain ⟨rfl, rfl⟩ : b2 = b2' ∧ o2 = o2' := by injection he2 with he2; injection he2 with he3 he4; exact ⟨he3, he4⟩
              obtain ⟨b3', o3', sj, he3, hbl3', hsj, hcs4⟩ := hs.int j hlj
              obtain ⟨rfl, rfl⟩ : b3 = b3' ∧ o3 = o3' := by injection he3 with he3; injection he3 with he4 he5; exact ⟨he4, he5⟩
              have e0 : wr.cell? ⟨b, o + (j * 2 + 0), none⟩ = some (.int .i64 y.tick) := (hb2.cell (p := ⟨b, o + (j * 2 + 0), none⟩) hblb).trans (HCELL.out _ _ ((flat_get encMarked 2 encMarked_len ar j 0 y hy (by omega)).trans rfl))
              have e1 : wr.cell? ⟨b, o + (j * 2 + 1), none⟩ = some (.int .i64 (q : Int)) := (hb2.cell (p := ⟨b, o + (j * 2 + 1), none⟩) hblb).trans (HCELL.out _ _ ((flat_get encMarked 2 encMarked_len ar j 1 y hy (by omega)).trans (by show some (Value.int .i64 y.mark) = _; rw [hq])))
              simp only [Nat.add_zero, ← Nat.add_assoc] at e0 e1
              have s0 : wr.cell? ⟨b3, o3 + k, none⟩ = some (.int .i64 si) := (hb2.cell (p := ⟨b3, o3 + k, none⟩) hbl3).trans hcs3
              have s1 : wr.cell? ⟨b3, o3 + j, none⟩ = some (.int .i64 sj) := (hb2.cell (p := ⟨b3, o3 + j, none⟩) hbl3).trans hcs4
              have r0 : wr.cell? ⟨b2, o2 + p % 16, none⟩ = some (.int .i64 z1) := (hb2.cell (p := ⟨b2, o2 + p % 16, none⟩) hbl2).trans hcz1
              have r1 : wr.cell? ⟨b2, o2 + q % 16, none⟩ = some (.int .i64 z2) := (hb2.cell (p := ⟨b2, o2 + q % 16, none⟩) hbl2).trans hcz2
              have j0 : (0 : Int) ≤ (j : Int) := by omega
              have j1 : (j : Int) < (m : Int) := by omega
              have p0 : (0 : Int) ≤ ((p % 16 : Nat) : Int) := by omega
              have p1 : ((p % 16 : Nat) : Int) < 16 := by omega
              have q0 : (0 : Int) ≤ ((q % 16 : Nat) : Int) := by omega
              have q1 : ((q % 16 : Nat) : Int) < 16 := by omega
              have tp := tmod16 p
              have tq := tmod16 q
              have HV := Lib.hid (show violB xs ar ss k j = (decide (0 ≤ si) && decide (si < sj) && decide (y.tick ≤ si) && decide (z2 < z1)) by rw [viol_at HSI.out hsj HX.out hy, HP.out, hq]; simp only [HBA1.out, hba2]; congr 1; exact decide_eq_decide.2 (by omega))
              have hblr2 : b < wr.heap.size := Nat.lt_of_lt_of_le hblb hb2.size
              have hbr3 : b3 < wr.heap.size := Nat.lt_of_lt_of_le hbl3 hb2.size
              have hbr4 : b2 < wr.heap.size := Nat.lt_of_lt_of_le hbl2 hb2.size
              clear hy hym hq he2 hba2 hz2 he3 hsj hcs4 hcz2 c0 c1
              cases g1 : decide (0 ≤ si) with
              | false =>
                have HW := Lib.hid (show violB xs ar ss k j = false by rw [HV.out, g1]; simp)
                go_wp2_with fail
                go_quiet (fail)
                go_wp2_with fail
                go_roundw
                case rel => exact stIn_step hlj HIN.out HW.out ((B8.alloc _).drewN _) (ext_drewN (ext_alloc hb2 _) _)
                case measure => simp [intOf]; omega
              | true =>
                cases g2 : decide (si < sj) with
                | false =>
                  have HW := Lib.hid (show violB xs ar ss k j = false by rw [HV.out, g1, g2]; simp)
                  go_wp2_with fail
                  go_quiet (fail)
                  go_wp2_with fail
                  go_roundw
                  case rel => exact stIn_step hlj HIN.out HW.out ((B8.alloc _).drewN _) (ext_drewN (ext_alloc hb2 _) _)
                  case measure => simp [intOf]; omega
                | true =>
                  cases g3 : decide (y.tick ≤ si) with
                  | false =>
                    cases g4 : decide (z2 < z1) with
                    | false =>
                      have HW := Lib.hid (show violB xs ar ss k j = false by rw [HV.out, g1, g2, g3, g4]; rfl)
                      go_wp2_with fail
                      go_quiet (fail)
                      go_wp2_with fail
                      go_roundw
                      case rel => exact stIn_step hlj HIN.out HW.out ((B8.alloc _).drewN _) (ext_drewN (ext_alloc hb2 _) _)
                      case measure => simp [intOf]; omega
                    | true =>
                      have HW := Lib.hid (show violB xs ar ss k j = false by rw [HV.out, g1, g2, g3, g4]; rfl)
                      go_wp2_with fail
                      go_quiet (fail)
                      go_wp2_with fail
                      go_roundw
                      case rel => exact stIn_step hlj HIN.out HW.out ((B8.alloc _).drewN _) (ext_drewN (ext_alloc hb2 _) _)
                      case measure => simp [intOf]; omega
                  | true =>
                    cases g4 : decide (z2 < z1) with
                    | false =>
                      have HW := Lib.hid (show violB xs ar ss k j = false by rw [HV.out, g1, g2, g3, g4]; rfl)
                      go_wp2_with fail
                      go_quiet (fail)
                      go_wp2_with fail
                      go_roundw
                      case rel => exact stIn_step hlj HIN.out HW.out ((B8.alloc _).drewN _) (ext_drewN (ext_alloc hb2 _) _)
                      case measure => simp [intOf]; omega
                    | true =>
                      have HW := Lib.hid (show violB xs ar ss k j = true by rw [HV.out, g1, g2, g3, g4]; rfl)
                      go_wp2_with fail
                      go_quiet (fail)
                      go_wp2_with fail
                      go_ret2
                      exact ⟨by rw [strict_false (by rw [HL.out]; exact hlt) (by rw [HL.out]; exact hlj) HW.out]; rfl, ext_drewN (ext_alloc hb2 _) _⟩
            · have hjm : j = m := by omega
              subst hjm
              go_wp2_with fail
              go_roundw
              case rel => exact ⟨k + 1, by omega, by go_num, fun p' hp' q' hq' => by
                by_cases hpk : p' = k
                · subst hpk; exact HIN.out q' hq'
                · exact HA.out p' (by omega) q' hq', hb2⟩
              case measure => simp [intOf]; omega
        · go_wp2_with fail
          go_ret2
          exact ⟨by rw [strict_true (fun p hp q hq => HA.out p (by rw [HL.out] at hp; omega) q (by rw [HL.out] at hq; omega))]; rfl, hb⟩

set_option maxRecDepth 100000 in
set_option maxHeartbeats 4000000 in
theorem implIsStrict_any (A : Option Addr) (n c : Nat) (xs : List Int) (B : Option Addr) (m d : Nat) (ar : List Marked) (C : Option Addr) (l f : Nat) (ss : List Int) (w : World) (hn : n ≤ 1048576) (hr' : Rd w 1 A n (xs.map (Value.int .i64))) (hm : m ≤ 1048576) (hr : Rd w 2 B m (ar.flatMap encMarked)) (hl' : l ≤ 1048576) (hs : Rd w 1 C l (ss.map (Value.int .i64))) :
    Calls Try.prog 31 #[.slice A n c, .slice B m d, .slice C l f] w fun e w' => e = .returned (.tuple #[.bool (strictB xs ar ss && strictV xs ar ss), .bool (strictB xs ar ss)]) ∧ Below w.heap.size w w' := by
  cases h1 : bandMapB xs with
  | false =>
    have e0 : strictB xs ar ss = false := by simp [strictB, h1]
    rw [e0]
    clear e0
    go_enter Try.func31, Try.ntmps31
    go_wp2_with (first | (go_at_call 14; refine (implIsBandMap_any _ _ _ xs _ hn hr').mono ?_; rintro e w' ⟨rfl, rfl⟩) | (go_at_call 45; refine (areMarked_any _ _ _ ar _ hm hr).mono ?_; rintro e w1 ⟨rfl, hb1⟩) | (go_at_call 46; refine (sentFits_any _ _ _ ar _ _ _ ss _ hm (hr.below hb1) hl' (hs.below hb1)).mono ?_; rintro e w' ⟨rfl, rfl⟩))
    go_ret2
    exact ⟨rfl, ext_refl w⟩
  | true =>
    cases h2 : arrB ar with
    | false =>
      have e0 : strictB xs ar ss = false := by simp [strictB, waitsB, h2]
      rw [e0]
      clear e0
      go_enter Try.func31, Try.ntmps31
      go_wp2_with (first | (go_at_call 14; refine (implIsBandMap_any _ _ _ xs _ hn hr').mono ?_; rintro e w' ⟨rfl, rfl⟩) | (go_at_call 45; refine (areMarked_any _ _ _ ar _ hm hr).mono ?_; rintro e w1 ⟨rfl, hb1⟩) | (go_at_call 46; refine (sentFits_any _ _ _ ar _ _ _ ss _ hm (hr.below hb1) hl' (hs.below hb1)).mono ?_; rintro e w' ⟨rfl, rfl⟩))
      go_ret2
      exact ⟨rfl, hb1⟩
    | true =>
      cases h3 : sentB ar ss with
      | false =>
        have e0 : strictB xs ar ss = false := by simp [strictB, waitsB, h3]
        rw [e0]
        clear e0
        go_enter Try.func31, Try.ntmps31
        go_wp2_with (first | (go_at_call 14; refine (implIsBandMap_any _ _ _ xs _ hn hr').mono ?_; rintro e w' ⟨rfl, rfl⟩) | (go_at_call 45; refine (areMarked_any _ _ _ ar _ hm hr).mono ?_; rintro e w1 ⟨rfl, hb1⟩) | (go_at_call 46; refine (sentFits_any _ _ _ ar _ _ _ ss _ hm (hr.below hb1) hl' (hs.below hb1)).mono ?_; rintro e w' ⟨rfl, rfl⟩))
        go_ret2
        exact ⟨rfl, hb1⟩
      | true =>
        have hab : arrB ar = true ∧ sentB ar ss = true := ⟨h2, h3⟩
        have e0 : strictB xs ar ss = true := by simp [strictB, waitsB, h1, h2, h3]
        rw [e0, Bool.true_and]
        clear e0
        have hl : ar.length = m := by have h1 := hr.1; rw [flat_len encMarked 2 encMarked_len] at h1; omega
        have hls := hs.len1
        have hsl := sent_len hab.2
        have hn16 : n = 16 := by rw [← hr'.len1]; exact (bandMapB_iff.1 h1).2
        subst hn16
        have h40 : m ≤ 40 := by have := arr_len hab.1; omega
        have hlm : m = l := by omega
        subst hlm
        have HL := Lib.hid hl
        have HLS := Lib.hid hls
        have HAB := Lib.hid hab
        have HBM := Lib.hid h1
        clear hl hls hsl hab
        go_enter Try.func31, Try.ntmps31
        go_wp2_with (first | (go_at_call 14; refine (implIsBandMap_any _ _ _ xs _ hn hr').mono ?_; rintro e w' ⟨rfl, rfl⟩) | (go_at_call 45; refine (areMarked_any _ _ _ ar _ hm hr).mono ?_; rintro e w1 ⟨rfl, hb1⟩) | (go_at_call 46; refine (sentFits_any _ _ _ ar _ _ _ ss _ hm (hr.below hb1) hl' (hs.below hb1)).mono ?_; rintro e w' ⟨rfl, rfl⟩))
        clear h1 h2 h3
        go_loopw [28] (StOut w m xs ar ss) (fun i _ => m - (intOf i).toNat)
        case atStart => exact ⟨0, Nat.zero_le _, rfl, fun p hp => by omega, hb1⟩
        case round =>
          obtain ⟨k, hk, rfl, hall, hb⟩ := hrel
          have HA := Lib.hid hall
          clear hall
          by_cases hlt : k < m
          · obtain ⟨wo, rfl⟩ : ∃ wo : World, wo = wr := ⟨_, rfl⟩
            obtain ⟨b, o, rfl, hblb, hcellb⟩ := hr.2 (by omega)
            have hblrbx : b < wo.heap.size := Nat.lt_of_lt_of_le hblb hb.size
            have hlxx : k < ar.length := by rw [HL.out]; omega
            have hxx : ar[k]? = some ar[k] := List.getElem?_eq_getElem hlxx
            generalize ar[k] = x at hxx
            have c0 : wo.cell? ⟨b, o + (k * 2 + 0), none⟩ = some (.int .i64 x.tick) := (hb.cell (p := ⟨b, o + (k * 2 + 0), none⟩) hblb).trans (hcellb _ _ ((flat_get encMarked 2 encMarked_len ar k 0 x hxx (by omega)).trans rfl))
            have c1 : wo.cell? ⟨b, o + (k * 2 + 1), none⟩ = some (.int .i64 x.mark) := (hb.cell (p := ⟨b, o + (k * 2 + 1), none⟩) hblb).trans (hcellb _ _ ((flat_get encMarked 2 encMarked_len ar k 1 x hxx (by omega)).trans rfl))
            simp only [Nat.add_zero, ← Nat.add_assoc] at c0 c1
            have HX := Lib.hid hxx
            clear hxx hlxx
            have HCELL := Lib.hid hcellb
            clear hcellb
            obtain ⟨b3, o3, si, rfl, hbl3, hsi, hcs3⟩ := hs.int k hlt
            have hxm := (arr_at HAB.out.1 HX.out).2
            obtain ⟨p, hp⟩ := Int.eq_ofNat_of_zero_le hxm.1
            obtain ⟨b2, o2, z1, rfl, hbl2, hz1, hba1, hcz1⟩ := band_at HBM.out hr' p
            have HSI := Lib.hid hsi
            have HP := Lib.hid hp
            have HBA1 := Lib.hid hba1
            have HR' := Lib.hid hr'
            rw [hp] at c1
            have k0 : (0 : Int) ≤ (k : Int) := by omega
            have k1 : (k : Int) < (m : Int) := by omega
            have B7 := Blk.new wo 51 [.int .i64 x.tick, .int .i64 (p : Int)]
            clear hsi hp hba1 hxm hr' hz1
            go_wp2_with fail
            go_loopw [35] (StIn w m wo.heap.size 51 x.tick (p : Int) xs ar ss k) (fun i _ => m - (intOf i).toNat)
            case atStart => exact ⟨0, Nat.zero_le _, rfl, fun q hq => by omega, B7, ext_alloc hb _⟩
            case round =>
              obtain ⟨j, hj, rfl, hin, B8, hb2⟩ := hrel
              have HIN := Lib.hid hin
              clear hin B7
              by_cases hlj : j < m
              · obtain ⟨y8, x8, d8, f8⟩ := B8.two
                have hly : j < ar.length := by rw [HL.out]; omega
                have hy : ar[j]? = some ar[j] := List.getElem?_eq_getElem hly
                generalize ar[j] = y at hy
                have hym := (arr_at HAB.out.1 hy).2
                obtain ⟨q, hq⟩ := Int.eq_ofNat_of_zero_le hym.1
                obtain ⟨b2', o2', z2, he2, hbl2', hz2, hba2, hcz2⟩ := band_at HBM.out HR'.out q
                obtain ⟨rfl, rfl⟩ : b2 = b2' ∧ o2 = o2' := by injection he2 with he2; injection he2 with he3 he4; exact ⟨he3, he4⟩
                obtain ⟨b3', o3', sj, he3, hbl3', hsj, hcs4⟩ := hs.int j hlj
                obtain ⟨rfl, rfl⟩ : b3 = b3' ∧ o3 = o3' := by injection he3 with he3; injection he3 with he4 he5; exact ⟨he4, he5⟩
                have e0 : wr.cell? ⟨b, o + (j * 2 + 0), none⟩ = some (.int .i64 y.tick) := (hb2.cell (p := ⟨b, o + (j * 2 + 0), none⟩) hblb).trans (HCELL.out _ _ ((flat_get encMarked 2 encMarked_len ar j 0 y hy (by omega)).trans rfl))
                have e1 : wr.cell? ⟨b, o + (j * 2 + 1), none⟩ = some (.int .i64 (q : Int)) := (hb2.cell (p := ⟨b, o + (j * 2 + 1), none⟩) hblb).trans (HCELL.out _ _ ((flat_get encMarked 2 encMarked_len ar j 1 y hy (by omega)).trans (by show some (Value.int .i64 y.mark) = _; rw [hq])))
                simp only [Nat.add_zero, ← Nat.add_assoc] at e0 e1
                have s0 : wr.cell? ⟨b3, o3 + k, none⟩ = some (.int .i64 si) := (hb2.cell (p := ⟨b3, o3 + k, none⟩) hbl3).trans hcs3
                have s1 : wr.cell? ⟨b3, o3 + j, none⟩ = some (.int .i64 sj) := (hb2.cell (p := ⟨b3, o3 + j, none⟩) hbl3).trans hcs4
                have r0 : wr.cell? ⟨b2, o2 + p % 16, none⟩ = some (.int .i64 z1) := (hb2.cell (p := ⟨b2, o2 + p % 16, none⟩) hbl2).trans hcz1
                have r1 : wr.cell? ⟨b2, o2 + q % 16, none⟩ = some (.int .i64 z2) := (hb2.cell (p := ⟨b2, o2 + q % 16, none⟩) hbl2).trans hcz2
                have j0 : (0 : Int) ≤ (j : Int) := by omega
                have j1 : (j : Int) < (m : Int) := by omega
                have p0 : (0 : Int) ≤ ((p % 16 : Nat) : Int) := by omega
                have p1 : ((p % 16 : Nat) : Int) < 16 := by omega
                have q0 : (0 : Int) ≤ ((q % 16 : Nat) : Int) := by omega
                have q1 : ((q % 16 : Nat) : Int) < 16 := by omega
                have tp := tmod16 p
                have tq := tmod16 q
                have HV := Lib.hid (show violB xs ar ss k j = (decide (0 ≤ si) && decide (si < sj) && decide (y.tick ≤ si) && decide (z2 < z1)) by rw [viol_at HSI.out hsj HX.out hy, HP.out, hq]; simp only [HBA1.out, hba2]; congr 1; exact decide_eq_decide.2 (by omega))
                have hblr2 : b < wr.heap.size := Nat.lt_of_lt_of_le hblb hb2.size
                have hbr3 : b3 < wr.heap.size := Nat.lt_of_lt_of_le hbl3 hb2.size
                have hbr4 : b2 < wr.heap.size := Nat.lt_of_lt_of_le hbl2 hb2.size
                clear hy hym hq he2 hba2 hz2 he3 hsj hcs4 hcz2 c0 c1
                cases g1 : decide (0 ≤ si) with
                | false =>
                  have HW := Lib.hid (show violB xs ar ss k j = false by rw [HV.out, g1]; simp)
                  go_wp2_with fail
                  go_quiet (fail)
                  go_wp2_with fail
                  go_roundw
                  case rel => exact stIn_step hlj HIN.out HW.out ((B8.alloc _).drewN _) (ext_drewN (ext_alloc hb2 _) _)
                  case measure => simp [intOf]; omega
                | true =>
                  cases g2 : decide (si < sj) with
                  | false =>
                    have HW := Lib.hid (show violB xs ar ss k j = false by rw [HV.out, g1, g2]; simp)
                    go_wp2_with fail
                    go_quiet (fail)
                    go_wp2_with fail
                    go_roundw
                    case rel => exact stIn_step hlj HIN.out HW.out ((B8.alloc _).drewN _) (ext_drewN (ext_alloc hb2 _) _)
                    case measure => simp [intOf]; omega
                  | true =>
                    cases g3 : decide (y.tick ≤ si) with
                    | false =>
                      cases g4 : decide (z2 < z1) with
                      | false =>
                        have HW := Lib.hid (show violB xs ar ss k j = false by rw [HV.out, g1, g2, g3, g4]; rfl)
                        go_wp2_with fail
                        go_quiet (fail)
                        go_wp2_with fail
                        go_roundw
                        case rel => exact stIn_step hlj HIN.out HW.out ((B8.alloc _).drewN _) (ext_drewN (ext_alloc hb2 _) _)
                        case measure => simp [intOf]; omega
                      | true =>
                        have HW := Lib.hid (show violB xs ar ss k j = false by rw [HV.out, g1, g2, g3, g4]; rfl)
                        go_wp2_with fail
                        go_quiet (fail)
                        go_wp2_with fail
                        go_roundw
                        case rel => exact stIn_step hlj HIN.out HW.out ((B8.alloc _).drewN _) (ext_drewN (ext_alloc hb2 _) _)
                        case measure => simp [intOf]; omega
                    | true =>
                      cases g4 : decide (z2 < z1) with
                      | false =>
                        have HW := Lib.hid (show violB xs ar ss k j = false by rw [HV.out, g1, g2, g3, g4]; rfl)
                        go_wp2_with fail
                        go_quiet (fail)
                        go_wp2_with fail
                        go_roundw
                        case rel => exact stIn_step hlj HIN.out HW.out ((B8.alloc _).drewN _) (ext_drewN (ext_alloc hb2 _) _)
                        case measure => simp [intOf]; omega
                      | true =>
                        have HW := Lib.hid (show violB xs ar ss k j = true by rw [HV.out, g1, g2, g3, g4]; rfl)
                        go_wp2_with fail
                        go_quiet (fail)
                        go_wp2_with fail
                        go_ret2
                        exact ⟨by rw [strict_false (by rw [HL.out]; exact hlt) (by rw [HL.out]; exact hlj) HW.out]; rfl, ext_drewN (ext_alloc hb2 _) _⟩
              · have hjm : j = m := by omega
                subst hjm
                go_wp2_with fail
                go_roundw
                case rel => exact ⟨k + 1, by omega, by go_num, fun p' hp' q' hq' => by
                  by_cases hpk : p' = k
                  · subst hpk; exact HIN.out q' hq'
                  · exact HA.out p' (by omega) q' hq', hb2⟩
                case measure => simp [intOf]; omega
          · go_wp2_with fail
            go_ret2
            exact ⟨by rw [strict_true (fun p hp q hq => HA.out p (by rw [HL.out] at hp; omega) q (by rw [HL.out] at hq; omega))]; rfl, hb⟩

set_option maxHeartbeats 4000000 in
theorem walkIsStrict (Axs : Option Addr) (nxs cxs : Nat) (xs : List Int) (hnxs : nxs ≤ 9223372036854775807) (Aar : Option Addr) (nar car : Nat) (ar : List Marked) (hnar : nar ≤ 9223372036854775807) (Ass : Option Addr) (nss css : Nat) (ss : List Int) (hnss : nss ≤ 9223372036854775807) (w : World) (hrxs : Rd w 1 Axs nxs (xs.flatMap encInt)) (hrar : Rd w 2 Aar nar (ar.flatMap encMarked)) (hrss : Rd w 1 Ass nss (ss.flatMap encInt)) :
    Calls Try.prog 8 #[.slice Axs nxs cxs, .slice Aar nar car, .slice Ass nss css] w fun e w' => e = .returned (.bool true) ∧ Below w.heap.size w w' := by
  rw [map_flat] at hrxs
  rw [map_flat] at hrss
  by_cases hbigxs : 1048576 < nxs
  · go_enter Try.func8, Try.ntmps8
    go_wp2_with (first | (go_at_call 24; refine (szMarkedS_any Aar nar car _ _ hnar (by omega) (by omega)).mono ?_; rintro e w1 ⟨rfl, rfl⟩; have hsar : (if (1048576 : Int) < (nar : Int) then (-1 : Int) else 1048576 - nar) = 1048576 - nar := by {{ split <;> omega }}; rw [hsar]; clear hsar) | fail)
    go_ret
    exact ⟨rfl, ext_refl w⟩
  have hmxs : nxs ≤ 1048576 := by omega
  by_cases hbigss : 1048576 < nss
  · go_enter Try.func8, Try.ntmps8
    go_wp2_with (first | (go_at_call 24; refine (szMarkedS_any Aar nar car _ _ hnar (by omega) (by omega)).mono ?_; rintro e w1 ⟨rfl, rfl⟩; have hsar : (if (1048576 : Int) < (nar : Int) then (-1 : Int) else 1048576 - nar) = 1048576 - nar := by {{ split <;> omega }}; rw [hsar]; clear hsar) | fail)
    go_ret
    exact ⟨rfl, ext_refl w⟩
  have hmss : nss ≤ 1048576 := by omega
  by_cases hbigar : 1048576 < nar
  · go_enter Try.func8, Try.ntmps8
    go_wp2_with (first | (go_at_call 24; refine (szMarkedS_any Aar nar car _ _ hnar (by omega) (by omega)).mono ?_; rintro e w1 ⟨rfl, rfl⟩; have hsar : (if (1048576 : Int) < (nar : Int) then (-1 : Int) else 1048576 - nar) = -1 := by {{ split <;> omega }}; rw [hsar]; clear hsar) | fail)
    go_ret
    exact ⟨rfl, ext_refl w⟩
  have hmar : nar ≤ 1048576 := by omega
  have z0 : Below w.heap.size w w := ext_refl w
  go_enter Try.func8, Try.ntmps8
  go_wp2_with fail
  refine (szMarkedS_any Aar nar car _ _ hnar (by omega) (by omega)).mono ?_; rintro e w' ⟨rfl, rfl⟩
  have hsar : (if (1048576 : Int) < (nar : Int) then (-1 : Int) else 1048576 - nar) = 1048576 - nar := by { split <;> omega }
  rw [hsar]
  clear hsar
  go_wp2_with fail
  refine (toIntS_any Axs nxs cxs xs _ hmxs (hrxs.below z0)).mono ?_; rintro e w1 ⟨gt1, rfl, owt1, hb1⟩
  have ot11 := own_base owt1 z0.size
  have z1 := ext_trans z0 hb1
  go_wp2_with fail
  refine (toMarkedS_any Aar nar car ar _ hmar (hrar.below z1)).mono ?_; rintro e w2 ⟨gt2, rfl, owt2, hb2⟩
  have apt2t1 := apart_before ot11.lt owt2.lt
  have ot12 := own_ext ot11 hb2
  have ot22 := own_base owt2 z1.size
  have z2 := ext_trans z1 hb2
  go_wp2_with fail
  refine (toIntS_any Ass nss css ss _ hmss (hrss.below z2)).mono ?_; rintro e w3 ⟨gt3, rfl, owt3, hb3⟩
  have apt3t1 := apart_before ot12.lt owt3.lt
  have ot13 := own_ext ot12 hb3
  have apt3t2 := apart_before ot22.lt owt3.lt
  have ot23 := own_ext ot22 hb3
  have ot33 := own_base owt3 z2.size
  have z3 := ext_trans z2 hb3
  go_wp2_with fail
  refine (specIsStrict_any _ nxs _ xs _ nar _ ar _ nss _ ss _ hmxs (Rd.of_own ot13) hmar (Rd.of_own ot23) hmss (Rd.of_own ot33)).mono ?_; rintro e w4 ⟨rfl, hb4⟩
  have ot14 := own_ext ot13 hb4
  have ot24 := own_ext ot23 hb4
  have ot34 := own_ext ot33 hb4
  have z4 := ext_trans z3 hb4
  go_wp2_with fail
  refine (toIntS_any Axs nxs cxs xs _ hmxs (hrxs.below z4)).mono ?_; rintro e w5 ⟨gxxs, rfl, owxxs, hb5⟩
  have apxxst1 := apart_before ot14.lt owxxs.lt
  have ot15 := own_ext ot14 hb5
  have apxxst2 := apart_before ot24.lt owxxs.lt
  have ot25 := own_ext ot24 hb5
  have apxxst3 := apart_before ot34.lt owxxs.lt
  have ot35 := own_ext ot34 hb5
  have oxxs5 := own_base owxxs z4.size
  have z5 := ext_trans z4 hb5
  go_wp2_with fail
  refine (toMarkedS_any Aar nar car ar _ hmar (hrar.below z5)).mono ?_; rintro e w6 ⟨gxar, rfl, owxar, hb6⟩
  have apxart1 := apart_before ot15.lt owxar.lt
  have ot16 := own_ext ot15 hb6
  have apxart2 := apart_before ot25.lt owxar.lt
  have ot26 := own_ext ot25 hb6
  have apxart3 := apart_before ot35.lt owxar.lt
  have ot36 := own_ext ot35 hb6
  have apxarxxs := apart_before oxxs5.lt owxar.lt
  have oxxs6 := own_ext oxxs5 hb6
  have oxar6 := own_base owxar z5.size
  have z6 := ext_trans z5 hb6
  go_wp2_with fail
  refine (toIntS_any Ass nss css ss _ hmss (hrss.below z6)).mono ?_; rintro e w7 ⟨gxss, rfl, owxss, hb7⟩
  have apxsst1 := apart_before ot16.lt owxss.lt
  have ot17 := own_ext ot16 hb7
  have apxsst2 := apart_before ot26.lt owxss.lt
  have ot27 := own_ext ot26 hb7
  have apxsst3 := apart_before ot36.lt owxss.lt
  have ot37 := own_ext ot36 hb7
  have apxssxxs := apart_before oxxs6.lt owxss.lt
  have oxxs7 := own_ext oxxs6 hb7
  have apxssxar := apart_before oxar6.lt owxss.lt
  have oxar7 := own_ext oxar6 hb7
  have oxss7 := own_base owxss z6.size
  have z7 := ext_trans z6 hb7
  go_wp2_with fail
  refine (implIsStrict_any _ nxs _ xs _ nar _ ar _ nss _ ss _ hmxs (Rd.of_own oxxs7) hmar (Rd.of_own oxar7) hmss (Rd.of_own oxss7)).mono ?_; rintro e w8 ⟨rfl, hb8⟩
  have ot18 := own_ext ot17 hb8
  have ot28 := own_ext ot27 hb8
  have ot38 := own_ext ot37 hb8
  have oxxs8 := own_ext oxxs7 hb8
  have oxar8 := own_ext oxar7 hb8
  have oxss8 := own_ext oxss7 hb8
  have z8 := ext_trans z7 hb8
  go_wp2_with fail
  refine (toIntS_any Axs nxs cxs xs _ hmxs (hrxs.below z8)).mono ?_; rintro e w9 ⟨gt7, rfl, owt7, hb9⟩
  have apt7t1 := apart_before ot18.lt owt7.lt
  have ot19 := own_ext ot18 hb9
  have apt7t2 := apart_before ot28.lt owt7.lt
  have ot29 := own_ext ot28 hb9
  have apt7t3 := apart_before ot38.lt owt7.lt
  have ot39 := own_ext ot38 hb9
  have apt7xxs := apart_before oxxs8.lt owt7.lt
  have oxxs9 := own_ext oxxs8 hb9
  have apt7xar := apart_before oxar8.lt owt7.lt
  have oxar9 := own_ext oxar8 hb9
  have apt7xss := apart_before oxss8.lt owt7.lt
  have oxss9 := own_ext oxss8 hb9
  have ot79 := own_base owt7 z8.size
  have z9 := ext_trans z8 hb9
  go_wp2_with fail
  refine (eqIntS_same _ _ nxs _ _ xs _ hmxs (Rd.of_own oxxs9) (Rd.of_own ot79)).mono ?_; rintro e w10 ⟨rfl, hb10⟩
  have ot110 := own_ext ot19 hb10
  have ot210 := own_ext ot29 hb10
  have ot310 := own_ext ot39 hb10
  have oxxs10 := own_ext oxxs9 hb10
  have oxar10 := own_ext oxar9 hb10
  have oxss10 := own_ext oxss9 hb10
  have ot710 := own_ext ot79 hb10
  have z10 := ext_trans z9 hb10
  go_wp2_with fail
  refine (toMarkedS_any Aar nar car ar _ hmar (hrar.below z10)).mono ?_; rintro e w11 ⟨gt8, rfl, owt8, hb11⟩
  have apt8t1 := apart_before ot110.lt owt8.lt
  have ot111 := own_ext ot110 hb11
  have apt8t2 := apart_before ot210.lt owt8.lt
  have ot211 := own_ext ot210 hb11
  have apt8t3 := apart_before ot310.lt owt8.lt
  have ot311 := own_ext ot310 hb11
  have apt8xxs := apart_before oxxs10.lt owt8.lt
  have oxxs11 := own_ext oxxs10 hb11
  have apt8xar := apart_before oxar10.lt owt8.lt
  have oxar11 := own_ext oxar10 hb11
  have apt8xss := apart_before oxss10.lt owt8.lt
  have oxss11 := own_ext oxss10 hb11
  have ot811 := own_base owt8 z10.size
  have z11 := ext_trans z10 hb11
  go_wp2_with fail
  refine (eqMarkedS_same _ _ nar _ _ ar _ hmar (Rd.of_own oxar11) (Rd.of_own ot811)).mono ?_; rintro e w12 ⟨rfl, hb12⟩
  have ot112 := own_ext ot111 hb12
  have ot212 := own_ext ot211 hb12
  have ot312 := own_ext ot311 hb12
  have oxxs12 := own_ext oxxs11 hb12
  have oxar12 := own_ext oxar11 hb12
  have oxss12 := own_ext oxss11 hb12
  have ot812 := own_ext ot811 hb12
  have z12 := ext_trans z11 hb12
  go_wp2_with fail
  refine (toIntS_any Ass nss css ss _ hmss (hrss.below z12)).mono ?_; rintro e w13 ⟨gt9, rfl, owt9, hb13⟩
  have apt9t1 := apart_before ot112.lt owt9.lt
  have ot113 := own_ext ot112 hb13
  have apt9t2 := apart_before ot212.lt owt9.lt
  have ot213 := own_ext ot212 hb13
  have apt9t3 := apart_before ot312.lt owt9.lt
  have ot313 := own_ext ot312 hb13
  have apt9xxs := apart_before oxxs12.lt owt9.lt
  have oxxs13 := own_ext oxxs12 hb13
  have apt9xar := apart_before oxar12.lt owt9.lt
  have oxar13 := own_ext oxar12 hb13
  have apt9xss := apart_before oxss12.lt owt9.lt
  have oxss13 := own_ext oxss12 hb13
  have ot913 := own_base owt9 z12.size
  have z13 := ext_trans z12 hb13
  go_wp2_with fail
  refine (eqIntS_same _ _ nss _ _ ss _ hmss (Rd.of_own oxss13) (Rd.of_own ot913)).mono ?_; rintro e w14 ⟨rfl, hb14⟩
  have ot114 := own_ext ot113 hb14
  have ot214 := own_ext ot213 hb14
  have ot314 := own_ext ot313 hb14
  have oxxs14 := own_ext oxxs13 hb14
  have oxar14 := own_ext oxar13 hb14
  have oxss14 := own_ext oxss13 hb14
  have ot914 := own_ext ot913 hb14
  have z14 := ext_trans z13 hb14
  go_wp2_with fail
  go_ret
  exact ⟨rfl, z14⟩

end Go.Proofs.Ytgdccclpibbbeaa