/- Lists of sessions: validity, the next session; contracts of the program's and the reference's. -/
import Derived.Test.YtgljelhglgeojaaDeS
import Derived.Test.YtgljelhglgeojaaReg
namespace Go.Proofs.Ytgljelhglgeojaa
open Go.RowKit

def okS (x : SesV) : Bool := sesB x.toSes
def listB (xs : List SesV) : Bool := xs.all okS && decide (xs.length ≤ 6)
theorem list_ok {xs : List SesV} (h : listB xs = true) {k : Nat} {x : SesV} (hx : xs[k]? = some x) : SesOk x.toSes := by
  simp only [listB, Bool.and_eq_true, List.all_eq_true] at h
  exact sesB_iff.1 (h.1 x (List.mem_of_getElem? hx))
theorem list_len {xs : List SesV} (h : listB xs = true) : xs.length ≤ 6 := by simp only [listB, Bool.and_eq_true, decide_eq_true_eq] at h; exact h.2
def LsRel (w : World) (n : Nat) (xs : List SesV) (i : Value) (wr : World) : Prop := ∃ k : Nat, k ≤ n ∧ i = .int .i64 k ∧ (xs.take k).all okS = true ∧ Below w.heap.size w wr

set_option maxRecDepth 100000 in
set_option maxHeartbeats 2000000 in
theorem areSessions_any (A : Option Addr) (n c : Nat) (xs : List SesV) (w : World) (hn : n ≤ 1048576) (hr : Rd w 7 A n (xs.flatMap encSes)) (hz : ∀ x ∈ xs, SZ w x) :
    Calls Try.prog 48 #[.slice A n c] w fun e w' => e = .returned (.bool (listB xs)) ∧ Below w.heap.size w w' := by
  have hl : xs.length = n := by have h1 := hr.1; rw [flat_len encSes 7 encSes_len] at h1; omega
  have HL := Lib.hid hl
  clear hl
  go_enter Try.func48, Try.ntmps48
  go_wp2_with fail
  go_loopw [7] (LsRel w n xs) (fun i _ => n - (intOf i).toNat)
  case atStart => exact ⟨0, Nat.zero_le _, rfl, by simp, ext_refl w⟩
  case round =>
    obtain ⟨k, hk, rfl, hall, hb⟩ := hrel
    have HA := Lib.hid hall
    clear hall
    by_cases hlt : k < n
    · 
      obtain ⟨b, o, rfl, hblb, hcellb⟩ := hr.2 (by omega)
      have hblrbx : b < wr.heap.size := Nat.lt_of_lt_of_le hblb hb.size
      have hlxx : k < xs.length := by rw [HL.out]; omega
      have hxx : xs[k]? = some xs[k] := List.getElem?_eq_getElem hlxx
      generalize xs[k] = x at hxx
      have c0 : wr.cell? ⟨b, o + (k * 7 + 0), none⟩ = some (.int .i64 x.f) := (hb.cell (p := ⟨b, o + (k * 7 + 0), none⟩) hblb).trans (hcellb _ _ ((flat_get encSes 7 encSes_len xs k 0 x hxx (by omega)).trans rfl))
      have c1 : wr.cell? ⟨b, o + (k * 7 + 1), none⟩ = some (.int .i64 x.l) := (hb.cell (p := ⟨b, o + (k * 7 + 1), none⟩) hblb).trans (hcellb _ _ ((flat_get encSes 7 encSes_len xs k 1 x hxx (by omega)).trans rfl))
      have c2 : wr.cell? ⟨b, o + (k * 7 + 2), none⟩ = some (.int .i64 x.s) := (hb.cell (p := ⟨b, o + (k * 7 + 2), none⟩) hblb).trans (hcellb _ _ ((flat_get encSes 7 encSes_len xs k 2 x hxx (by omega)).trans rfl))
      have c3 : wr.cell? ⟨b, o + (k * 7 + 3), none⟩ = some (.int .i64 x.st) := (hb.cell (p := ⟨b, o + (k * 7 + 3), none⟩) hblb).trans (hcellb _ _ ((flat_get encSes 7 encSes_len xs k 3 x hxx (by omega)).trans rfl))
      have c4 : wr.cell? ⟨b, o + (k * 7 + 4), none⟩ = some (.int .i64 x.ba) := (hb.cell (p := ⟨b, o + (k * 7 + 4), none⟩) hblb).trans (hcellb _ _ ((flat_get encSes 7 encSes_len xs k 4 x hxx (by omega)).trans rfl))
      have c5 : wr.cell? ⟨b, o + (k * 7 + 5), none⟩ = some (.int .i64 x.se) := (hb.cell (p := ⟨b, o + (k * 7 + 5), none⟩) hblb).trans (hcellb _ _ ((flat_get encSes 7 encSes_len xs k 5 x hxx (by omega)).trans rfl))
      have c6 : wr.cell? ⟨b, o + (k * 7 + 6), none⟩ = some (.slice x.A x.m x.c) := (hb.cell (p := ⟨b, o + (k * 7 + 6), none⟩) hblb).trans (hcellb _ _ ((flat_get encSes 7 encSes_len xs k 6 x hxx (by omega)).trans rfl))
      simp only [Nat.add_zero, ← Nat.add_assoc] at c0 c1 c2 c3 c4 c5 c6
      have HX := Lib.hid hxx
      clear hxx hlxx hcellb
      have hsz := hz x (List.mem_of_getElem? HX.out)
      have HSZ := Lib.hid hsz
      clear hsz
      go_wp2_with fail
      refine (implIsSession_any x _ HSZ.out.1 (HSZ.out.2.2.below (ext_alloc hb (.cells (List.toArray [.int .i64 x.f, .int .i64 x.l, .int .i64 x.s, .int .i64 x.st, .int .i64 x.ba, .int .i64 x.se, .slice x.A x.m x.c]) 39)))).mono ?_; rintro e w1 ⟨rfl, hb1⟩
      cases hs : sesB x.toSes with
      | false =>
        go_wp2_with fail
        go_ret
        exact ⟨ret_bool (by rw [listB, all_false HX.out (show okS x = false from hs)]; rfl), ext_trans (ext_alloc hb _) hb1⟩
      | true =>
        have HS := Lib.hid (show okS x = true from hs)
        go_wp2_with fail
        go_roundw
        case rel => exact ⟨k + 1, by omega, by go_num, by rw [take_snoc HX.out, List.all_append, HA.out]; simp [HS.out], ext_trans (ext_alloc hb _) hb1⟩
        case measure => simp [intOf]; omega
    · go_wp2_with fail
      go_ret
      have e0 : xs.take k = xs := List.take_of_length_le (by rw [HL.out]; omega)
      exact ⟨ret_bool (by rw [listB, ← e0, HA.out, e0, HL.out, Bool.true_and, Bool.eq_iff_iff]; simp; omega), hb⟩

set_option maxRecDepth 100000 in
set_option maxHeartbeats 2000000 in
theorem hfList_any (A : Option Addr) (n c : Nat) (xs : List SesV) (w : World) (hn : n ≤ 1048576) (hr : Rd w 7 A n (xs.flatMap encSes)) (hz : ∀ x ∈ xs, SZ w x) :
    Calls Try.prog 45 #[.slice A n c] w fun e w' => e = .returned (.bool (listB xs)) ∧ Below w.heap.size w w' := by
  have hl : xs.length = n := by have h1 := hr.1; rw [flat_len encSes 7 encSes_len] at h1; omega
  have HL := Lib.hid hl
  clear hl
  go_enter Try.func45, Try.ntmps45
  go_wp2_with fail
  go_loopw [7] (LsRel w n xs) (fun i _ => n - (intOf i).toNat)
  case atStart => exact ⟨0, Nat.zero_le _, rfl, by simp, ext_refl w⟩
  case round =>
    obtain ⟨k, hk, rfl, hall, hb⟩ := hrel
    have HA := Lib.hid hall
    clear hall
    by_cases hlt : k < n
    · 
      obtain ⟨b, o, rfl, hblb, hcellb⟩ := hr.2 (by omega)
      have hblrbx : b < wr.heap.size := Nat.lt_of_lt_of_le hblb hb.size
      have hlxx : k < xs.length := by rw [HL.out]; omega
      have hxx : xs[k]? = some xs[k] := List.getElem?_eq_getElem hlxx
      generalize xs[k] = x at hxx
      have c0 : wr.cell? ⟨b, o + (k * 7 + 0), none⟩ = some (.int .i64 x.f) := (hb.cell (p := ⟨b, o + (k * 7 + 0), none⟩) hblb).trans (hcellb _ _ ((flat_get encSes 7 encSes_len xs k 0 x hxx (by omega)).trans rfl))
      have c1 : wr.cell? ⟨b, o + (k * 7 + 1), none⟩ = some (.int .i64 x.l) := (hb.cell (p := ⟨b, o + (k * 7 + 1), none⟩) hblb).trans (hcellb _ _ ((flat_get encSes 7 encSes_len xs k 1 x hxx (by omega)).trans rfl))
      have c2 : wr.cell? ⟨b, o + (k * 7 + 2), none⟩ = some (.int .i64 x.s) := (hb.cell (p := ⟨b, o + (k * 7 + 2), none⟩) hblb).trans (hcellb _ _ ((flat_get encSes 7 encSes_len xs k 2 x hxx (by omega)).trans rfl))
      have c3 : wr.cell? ⟨b, o + (k * 7 + 3), none⟩ = some (.int .i64 x.st) := (hb.cell (p := ⟨b, o + (k * 7 + 3), none⟩) hblb).trans (hcellb _ _ ((flat_get encSes 7 encSes_len xs k 3 x hxx (by omega)).trans rfl))
      have c4 : wr.cell? ⟨b, o + (k * 7 + 4), none⟩ = some (.int .i64 x.ba) := (hb.cell (p := ⟨b, o + (k * 7 + 4), none⟩) hblb).trans (hcellb _ _ ((flat_get encSes 7 encSes_len xs k 4 x hxx (by omega)).trans rfl))
      have c5 : wr.cell? ⟨b, o + (k * 7 + 5), none⟩ = some (.int .i64 x.se) := (hb.cell (p := ⟨b, o + (k * 7 + 5), none⟩) hblb).trans (hcellb _ _ ((flat_get encSes 7 encSes_len xs k 5 x hxx (by omega)).trans rfl))
      have c6 : wr.cell? ⟨b, o + (k * 7 + 6), none⟩ = some (.slice x.A x.m x.c) := (hb.cell (p := ⟨b, o + (k * 7 + 6), none⟩) hblb).trans (hcellb _ _ ((flat_get encSes 7 encSes_len xs k 6 x hxx (by omega)).trans rfl))
      simp only [Nat.add_zero, ← Nat.add_assoc] at c0 c1 c2 c3 c4 c5 c6
      have HX := Lib.hid hxx
      clear hxx hlxx hcellb
      have hsz := hz x (List.mem_of_getElem? HX.out)
      have HSZ := Lib.hid hsz
      clear hsz
      go_wp2_with fail
      refine (hfGood_any x _ HSZ.out.1 (HSZ.out.2.2.below (ext_alloc hb (.cells (List.toArray [.int .i64 x.f, .int .i64 x.l, .int .i64 x.s, .int .i64 x.st, .int .i64 x.ba, .int .i64 x.se, .slice x.A x.m x.c]) 39)))).mono ?_; rintro e w1 ⟨rfl, hb1⟩
      cases hs : sesB x.toSes with
      | false =>
        go_wp2_with fail
        go_ret
        exact ⟨ret_bool (by rw [listB, all_false HX.out (show okS x = false from hs)]; rfl), ext_trans (ext_alloc hb _) hb1⟩
      | true =>
        have HS := Lib.hid (show okS x = true from hs)
        go_wp2_with fail
        go_roundw
        case rel => exact ⟨k + 1, by omega, by go_num, by rw [take_snoc HX.out, List.all_append, HA.out]; simp [HS.out], ext_trans (ext_alloc hb _) hb1⟩
        case measure => simp [intOf]; omega
    · go_wp2_with fail
      go_ret
      have e0 : xs.take k = xs := List.take_of_length_le (by rw [HL.out]; omega)
      exact ⟨ret_bool (by rw [listB, ← e0, HA.out, e0, HL.out, Bool.true_and, Bool.eq_iff_iff]; simp; omega), hb⟩

def sesOf (xs : List SesV) : List Ses := xs.map SesV.toSes
theorem sesOf_at {xs : List SesV} {k : Nat} {x : SesV} (h : xs[k]? = some x) : (sesOf xs)[k]? = some x.toSes := by unfold sesOf; rw [List.getElem?_map, h]; rfl
def NxRel (w : World) (n : Nat) (ss : List Ses) (t : Int) (b l i : Value) (wr : World) : Prop :=
  ∃ k : Nat, k ≤ n ∧ i = .int .i64 k ∧ b = .int .i64 (nextTo ss t k).1 ∧ l = .int .i64 (nextTo ss t k).2 ∧ Below w.heap.size w wr
def NxRel1 (w : World) (n : Nat) (ss : List Ses) (t : Int) (b i : Value) (wr : World) : Prop :=
  ∃ k : Nat, k ≤ n ∧ i = .int .i64 k ∧ b = .int .i64 (nextTo ss t k).1 ∧ Below w.heap.size w wr
theorem nx_no {t : Int} {acc : Int × Int} {i : Nat} {x : Ses} (h : eligB x t = false) : nextStep t acc i x = acc := by simp [nextStep, h]
theorem nx_nodead {t : Int} {acc : Int × Int} {i : Nat} {x : Ses} (h : deadI x < 0) : nextStep t acc i x = acc := by
  have : ¬ 0 ≤ deadI x := by omega
  simp [nextStep, this]
theorem nx_new {t : Int} {acc : Int × Int} {i : Nat} {x : Ses} (h : eligB x t = true) (h2 : 0 ≤ deadI x) (h3 : acc.1 < 0 ∨ deadI x < acc.2) : nextStep t acc i x = ((i : Int), deadI x) := by
  unfold nextStep
  rw [if_pos]
  rcases h3 with h3 | h3 <;> simp [h, h2, h3]
theorem nx_keep {t : Int} {acc : Int × Int} {i : Nat} {x : Ses} (h3 : ¬ acc.1 < 0) (h4 : ¬ deadI x < acc.2) : nextStep t acc i x = acc := by simp [nextStep, h3, h4]
theorem deadB_yes {x : Ses} (h : 0 ≤ deadI x) : deadB x = true := by simp [deadB, h]
theorem deadB_no {x : Ses} (h : deadI x < 0) : deadB x = false := by simp [deadB]; omega
theorem deadV_yes {x : Ses} (h : 0 ≤ deadI x) : deadV x = deadI x := by simp [deadV, h]

set_option maxRecDepth 100000 in
set_option maxHeartbeats 4000000 in
theorem nextSession_any (t : Int) (A : Option Addr) (n c : Nat) (xs : List SesV) (w : World) (hn : n ≤ 1048576) (hr : Rd w 7 A n (xs.flatMap encSes)) (hz : ∀ x ∈ xs, SZ w x) (hls : listB xs = true) (ht : 0 ≤ t ∧ t ≤ 100000) :
    Calls Try.prog 72 #[.slice A n c, .int .i64 t] w fun e w' => e = .returned (.tuple #[.int .i64 (nextI (sesOf xs) t).1, .int .i64 (nextI (sesOf xs) t).2]) ∧ Below w.heap.size w w' := by
  have hl : xs.length = n := by have h1 := hr.1; rw [flat_len encSes 7 encSes_len] at h1; omega
  have HL := Lib.hid hl
  have HLS := Lib.hid hls
  clear hl hls
  go_enter Try.func72, Try.ntmps72
  go_wp2_with fail
  go_loopw [6, 7, 14] (NxRel w n (sesOf xs) t) (fun _ _ i _ => n - (intOf i).toNat)
  case atStart => exact ⟨0, Nat.zero_le _, rfl, rfl, rfl, ext_refl w⟩
  case round =>
    obtain ⟨k, hk, rfl, rfl, rfl, hb⟩ := hrel
    by_cases hlt : k < n
    · 
      obtain ⟨b, o, rfl, hblb, hcellb⟩ := hr.2 (by omega)
      have hblrbx : b < wr.heap.size := Nat.lt_of_lt_of_le hblb hb.size
      have hlxx : k < xs.length := by rw [HL.out]; omega
      have hxx : xs[k]? = some xs[k] := List.getElem?_eq_getElem hlxx
      generalize xs[k] = x at hxx
      have c0 : wr.cell? ⟨b, o + (k * 7 + 0), none⟩ = some (.int .i64 x.f) := (hb.cell (p := ⟨b, o + (k * 7 + 0), none⟩) hblb).trans (hcellb _ _ ((flat_get encSes 7 encSes_len xs k 0 x hxx (by omega)).trans rfl))
      have c1 : wr.cell? ⟨b, o + (k * 7 + 1), none⟩ = some (.int .i64 x.l) := (hb.cell (p := ⟨b, o + (k * 7 + 1), none⟩) hblb).trans (hcellb _ _ ((flat_get encSes 7 encSes_len xs k 1 x hxx (by omega)).trans rfl))
      have c2 : wr.cell? ⟨b, o + (k * 7 + 2), none⟩ = some (.int .i64 x.s) := (hb.cell (p := ⟨b, o + (k * 7 + 2), none⟩) hblb).trans (hcellb _ _ ((flat_get encSes 7 encSes_len xs k 2 x hxx (by omega)).trans rfl))
      have c3 : wr.cell? ⟨b, o + (k * 7 + 3), none⟩ = some (.int .i64 x.st) := (hb.cell (p := ⟨b, o + (k * 7 + 3), none⟩) hblb).trans (hcellb _ _ ((flat_get encSes 7 encSes_len xs k 3 x hxx (by omega)).trans rfl))
      have c4 : wr.cell? ⟨b, o + (k * 7 + 4), none⟩ = some (.int .i64 x.ba) := (hb.cell (p := ⟨b, o + (k * 7 + 4), none⟩) hblb).trans (hcellb _ _ ((flat_get encSes 7 encSes_len xs k 4 x hxx (by omega)).trans rfl))
      have c5 : wr.cell? ⟨b, o + (k * 7 + 5), none⟩ = some (.int .i64 x.se) := (hb.cell (p := ⟨b, o + (k * 7 + 5), none⟩) hblb).trans (hcellb _ _ ((flat_get encSes 7 encSes_len xs k 5 x hxx (by omega)).trans rfl))
      have c6 : wr.cell? ⟨b, o + (k * 7 + 6), none⟩ = some (.slice x.A x.m x.c) := (hb.cell (p := ⟨b, o + (k * 7 + 6), none⟩) hblb).trans (hcellb _ _ ((flat_get encSes 7 encSes_len xs k 6 x hxx (by omega)).trans rfl))
      simp only [Nat.add_zero, ← Nat.add_assoc] at c0 c1 c2 c3 c4 c5 c6
      have HX := Lib.hid hxx
      clear hxx hlxx hcellb
      have HSZ := Lib.hid (hz x (List.mem_of_getElem? HX.out))
      have HOK := Lib.hid (list_ok HLS.out HX.out)
      have HNT := Lib.hid (nextTo_succ (t := t) (sesOf_at HX.out))
      have BX := Blk.new wr 39 [.int .i64 x.f, .int .i64 x.l, .int .i64 x.s, .int .i64 x.st, .int .i64 x.ba, .int .i64 x.se, .slice x.A x.m x.c]
      have zB := ext_alloc hb (.cells (List.toArray [.int .i64 x.f, .int .i64 x.l, .int .i64 x.s, .int .i64 x.st, .int .i64 x.ba, .int .i64 x.se, .slice x.A x.m x.c]) 39)
      generalize hacc : nextTo (sesOf xs) t k = acc at *
      obtain ⟨a1, a2⟩ := acc
      simp only
      cases he : eligB x.toSes t with
      | false =>
        have HE := Lib.hid he
        go_wp2_with fail
        refine (eligibleAt_any x t _ HOK.out HSZ.out.2.2.len1 ht.1 ht.2).mono ?_; rintro e w1 ⟨rfl, hb1⟩
        rw [he]
        go_wp2_with fail
        go_roundw
        case rel => exact ⟨k + 1, by omega, by go_num, by rw [HNT.out, nx_no HE.out], by rw [HNT.out, nx_no HE.out], ext_trans zB hb1⟩
        case measure => simp [intOf]; omega
      | true =>
        have HE := Lib.hid he
        by_cases hd : deadI x.toSes < 0
        · have HD := Lib.hid hd
          go_wp2_with fail
          refine (eligibleAt_any x t _ HOK.out HSZ.out.2.2.len1 ht.1 ht.2).mono ?_; rintro e w1 ⟨rfl, hb1⟩
          rw [he]
          have B1 := BX.below hb1
          have z1 := ext_trans zB hb1
          obtain ⟨y1, x1, c1, f1⟩ := B1.seven
          go_wp2_with fail
          refine (deadlineOf_any x _ HOK.out HSZ.out.1 (HSZ.out.2.2.below z1)).mono ?_; rintro e w2 ⟨rfl, hb2⟩
          rw [deadB_no HD.out]
          clear y1 x1 c1 f1
          generalize deadV x.toSes = dv
          clear hd
          go_wp2_with fail
          go_roundw
          case rel => exact ⟨k + 1, by omega, by go_num, by rw [HNT.out, nx_nodead HD.out], by rw [HNT.out, nx_nodead HD.out], ext_trans z1 hb2⟩
          case measure => simp [intOf]; omega
        · have HD := Lib.hid (show 0 ≤ deadI x.toSes by omega)
          by_cases hup : a1 < 0 ∨ deadI x.toSes < a2
          · have HUP := Lib.hid hup
            go_wp2_with fail
            refine (eligibleAt_any x t _ HOK.out HSZ.out.2.2.len1 ht.1 ht.2).mono ?_; rintro e w1 ⟨rfl, hb1⟩
            rw [he]
            have B1 := BX.below hb1
            have z1 := ext_trans zB hb1
            obtain ⟨y1, x1, c1, f1⟩ := B1.seven
            go_wp2_with fail
            refine (deadlineOf_any x _ HOK.out HSZ.out.1 (HSZ.out.2.2.below z1)).mono ?_; rintro e w2 ⟨rfl, hb2⟩
            rw [deadB_yes HD.out, deadV_yes HD.out]
            clear y1 x1 c1 f1 hd
            generalize hdx : deadI x.toSes = dx at *
            have HDX := Lib.hid hdx
            clear hdx
            go_wp2_with fail
            all_goals first | exact (show False by omega).elim | skip
            all_goals
              go_roundw
              case rel => exact ⟨k + 1, by omega, by go_num, by rw [HNT.out, nx_new HE.out (by rw [HDX.out]; exact HD.out) (by rw [HDX.out]; exact HUP.out)], by rw [HNT.out, nx_new HE.out (by rw [HDX.out]; exact HD.out) (by rw [HDX.out]; exact HUP.out), HDX.out], ext_trans z1 hb2⟩
              case measure => simp [intOf]; omega
          · have HUP := Lib.hid (show ¬ a1 < 0 ∧ ¬ deadI x.toSes < a2 by omega)
            go_wp2_with fail
            refine (eligibleAt_any x t _ HOK.out HSZ.out.2.2.len1 ht.1 ht.2).mono ?_; rintro e w1 ⟨rfl, hb1⟩
            rw [he]
            have B1 := BX.below hb1
            have z1 := ext_trans zB hb1
            obtain ⟨y1, x1, c1, f1⟩ := B1.seven
            go_wp2_with fail
            refine (deadlineOf_any x _ HOK.out HSZ.out.1 (HSZ.out.2.2.below z1)).mono ?_; rintro e w2 ⟨rfl, hb2⟩
            rw [deadB_yes HD.out, deadV_yes HD.out]
            clear y1 x1 c1 f1 hd
            generalize hdx : deadI x.toSes = dx at *
            have HDX := Lib.hid hdx
            clear hdx
            go_wp2_with fail
            all_goals first | exact (show False by omega).elim | skip
            all_goals
              go_roundw
              case rel => exact ⟨k + 1, by omega, by go_num, by rw [HNT.out, nx_keep (acc := (a1, a2)) (by have := HUP.out; simp only; omega) (by have := HUP.out; rw [HDX.out]; simp only; omega)], by rw [HNT.out, nx_keep (acc := (a1, a2)) (by have := HUP.out; simp only; omega) (by have := HUP.out; rw [HDX.out]; simp only; omega)], ext_trans z1 hb2⟩
              case measure => simp [intOf]; omega
    · have e0 : k = (sesOf xs).length := by unfold sesOf; rw [List.length_map, HL.out]; omega
      have HE := Lib.hid e0
      clear e0
      generalize hacc : nextTo (sesOf xs) t k = acc at *
      have HACC := Lib.hid hacc
      clear hacc
      go_wp2_with fail
      go_ret2
      exact ⟨by rw [← HACC.out, HE.out]; rfl, hb⟩

theorem found_at {xs : List SesV} {t : Int} {k : Nat} : nextTo (sesOf xs) t k = (-1, 0) ∨ ∃ (j : Nat) (z : SesV), j < k ∧ xs[j]? = some z ∧ nextTo (sesOf xs) t k = ((j : Int), deadI z.toSes) := by
  rcases nextTo_found (sesOf xs) t k with h | ⟨j, y, h1, h2, h3, _⟩
  · exact .inl h
  · unfold sesOf at h2
    rw [List.getElem?_map] at h2
    cases hz : xs[j]? with
    | none => rw [hz] at h2; cases h2
    | some z =>
      rw [hz] at h2
      simp only [Option.map_some, Option.some.injEq] at h2
      subst h2
      exact .inr ⟨j, z, h1, hz, h3⟩

set_option maxRecDepth 100000 in
set_option maxHeartbeats 4000000 in
theorem hfNext_any (t : Int) (A : Option Addr) (n c : Nat) (xs : List SesV) (w : World) (hn : n ≤ 1048576) (hr : Rd w 7 A n (xs.flatMap encSes)) (hz : ∀ x ∈ xs, SZ w x) (hls : listB xs = true) (ht : 0 ≤ t ∧ t ≤ 100000) :
    Calls Try.prog 71 #[.slice A n c, .int .i64 t] w fun e w' => e = .returned (.int .i64 (nextI (sesOf xs) t).1) ∧ Below w.heap.size w w' := by
  have hl : xs.length = n := by have h1 := hr.1; rw [flat_len encSes 7 encSes_len] at h1; omega
  have HL := Lib.hid hl
  have HLS := Lib.hid hls
  clear hl hls
  go_enter Try.func71, Try.ntmps71
  go_wp2_with fail
  go_loopw [5, 10] (NxRel1 w n (sesOf xs) t) (fun _ i _ => n - (intOf i).toNat)
  case atStart => exact ⟨0, Nat.zero_le _, rfl, rfl, ext_refl w⟩
  case round =>
    obtain ⟨k, hk, rfl, rfl, hb⟩ := hrel
    by_cases hlt : k < n
    · 
      obtain ⟨b, o, rfl, hblb, hcellb⟩ := hr.2 (by omega)
      have hblrbx : b < wr.heap.size := Nat.lt_of_lt_of_le hblb hb.size
      have hlxx : k < xs.length := by rw [HL.out]; omega
      have hxx : xs[k]? = some xs[k] := List.getElem?_eq_getElem hlxx
      generalize xs[k] = x at hxx
      have c0 : wr.cell? ⟨b, o + (k * 7 + 0), none⟩ = some (.int .i64 x.f) := (hb.cell (p := ⟨b, o + (k * 7 + 0), none⟩) hblb).trans (hcellb _ _ ((flat_get encSes 7 encSes_len xs k 0 x hxx (by omega)).trans rfl))
      have c1 : wr.cell? ⟨b, o + (k * 7 + 1), none⟩ = some (.int .i64 x.l) := (hb.cell (p := ⟨b, o + (k * 7 + 1), none⟩) hblb).trans (hcellb _ _ ((flat_get encSes 7 encSes_len xs k 1 x hxx (by omega)).trans rfl))
      have c2 : wr.cell? ⟨b, o + (k * 7 + 2), none⟩ = some (.int .i64 x.s) := (hb.cell (p := ⟨b, o + (k * 7 + 2), none⟩) hblb).trans (hcellb _ _ ((flat_get encSes 7 encSes_len xs k 2 x hxx (by omega)).trans rfl))
      have c3 : wr.cell? ⟨b, o + (k * 7 + 3), none⟩ = some (.int .i64 x.st) := (hb.cell (p := ⟨b, o + (k * 7 + 3), none⟩) hblb).trans (hcellb _ _ ((flat_get encSes 7 encSes_len xs k 3 x hxx (by omega)).trans rfl))
      have c4 : wr.cell? ⟨b, o + (k * 7 + 4), none⟩ = some (.int .i64 x.ba) := (hb.cell (p := ⟨b, o + (k * 7 + 4), none⟩) hblb).trans (hcellb _ _ ((flat_get encSes 7 encSes_len xs k 4 x hxx (by omega)).trans rfl))
      have c5 : wr.cell? ⟨b, o + (k * 7 + 5), none⟩ = some (.int .i64 x.se) := (hb.cell (p := ⟨b, o + (k * 7 + 5), none⟩) hblb).trans (hcellb _ _ ((flat_get encSes 7 encSes_len xs k 5 x hxx (by omega)).trans rfl))
      have c6 : wr.cell? ⟨b, o + (k * 7 + 6), none⟩ = some (.slice x.A x.m x.c) := (hb.cell (p := ⟨b, o + (k * 7 + 6), none⟩) hblb).trans (hcellb _ _ ((flat_get encSes 7 encSes_len xs k 6 x hxx (by omega)).trans rfl))
      simp only [Nat.add_zero, ← Nat.add_assoc] at c0 c1 c2 c3 c4 c5 c6
      have HX := Lib.hid hxx
      clear hxx hlxx
      have HCELL := Lib.hid hcellb
      clear hcellb
      have HSZ := Lib.hid (hz x (List.mem_of_getElem? HX.out))
      have HOK := Lib.hid (list_ok HLS.out HX.out)
      have HNT := Lib.hid (nextTo_succ (t := t) (sesOf_at HX.out))
      have BX := Blk.new wr 39 [.int .i64 x.f, .int .i64 x.l, .int .i64 x.s, .int .i64 x.st, .int .i64 x.ba, .int .i64 x.se, .slice x.A x.m x.c]
      have zB := ext_alloc hb (.cells (List.toArray [.int .i64 x.f, .int .i64 x.l, .int .i64 x.s, .int .i64 x.st, .int .i64 x.ba, .int .i64 x.se, .slice x.A x.m x.c]) 39)
      have heg := fun W => hfEligible_any x t W HOK.out HSZ.out.2.2.len1 ht.1 ht.2
      have hdc : ∀ W, Below w.heap.size w W → Calls Try.prog 64 #[.agg #[.int .i64 x.f, .int .i64 x.l, .int .i64 x.s, .int .i64 x.st, .int .i64 x.ba, .int .i64 x.se, .slice x.A x.m x.c]] W fun e w' => e = .returned (.int .i64 (deadI x.toSes)) ∧ Below W.heap.size W w' := fun W h => hfDeadline_any x W HOK.out HSZ.out.1 (HSZ.out.2.2.below h)
      have HF := Lib.hid (found_at (xs := xs) (t := t) (k := k))
      cases he : eligB x.toSes t with
      | false =>
        have HE := Lib.hid he
        rw [he] at heg
        generalize hacc : nextTo (sesOf xs) t k = acc at *
        clear he hdc
        go_wp2_with fail
        refine wp_region_grow (by kernel_rfl) (by kernel_rfl) ?_
        intro S hne hkS ho
        have s0 : ∀ s : InC S, s.W.cell? ⟨wr.heap.size, 0, none⟩ = some (.int .i64 x.f) := fun s => (BX.below (ho s)).cell 0
        have s1 : ∀ s : InC S, s.W.cell? ⟨wr.heap.size, 1, none⟩ = some (.int .i64 x.l) := fun s => (BX.below (ho s)).cell 1
        have s2 : ∀ s : InC S, s.W.cell? ⟨wr.heap.size, 2, none⟩ = some (.int .i64 x.s) := fun s => (BX.below (ho s)).cell 2
        have s3 : ∀ s : InC S, s.W.cell? ⟨wr.heap.size, 3, none⟩ = some (.int .i64 x.st) := fun s => (BX.below (ho s)).cell 3
        have s4 : ∀ s : InC S, s.W.cell? ⟨wr.heap.size, 4, none⟩ = some (.int .i64 x.ba) := fun s => (BX.below (ho s)).cell 4
        have s5 : ∀ s : InC S, s.W.cell? ⟨wr.heap.size, 5, none⟩ = some (.int .i64 x.se) := fun s => (BX.below (ho s)).cell 5
        have s6 : ∀ s : InC S, s.W.cell? ⟨wr.heap.size, 6, none⟩ = some (.slice x.A x.m x.c) := fun s => (BX.below (ho s)).cell 6
        repeat (go_big_quiet_step ((go_at_call 62; with_reducible exact grow_call hkS (heg _) rfl)))
        refine wpQuiet_nil ?_
        rintro _ ⟨s, rfl⟩
        have hg5 := ho s
        clear s0 s1 s2 s3 s4 s5 s6 ho hkS hne
        generalize s.W = w5 at *
        clear s S
        go_wp2_with fail
        go_roundw
        case rel =>
          have hr2 : NxRel1 w n (sesOf xs) t _ (.int .i64 ((k : Int) + 1)) w5 := ⟨k + 1, by omega, by simp, by rw [HNT.out, nx_no HE.out], ext_trans zB hg5⟩
          first | exact hr2 | ((repeat apply Exists.intro); exact ⟨hr2, rfl⟩)
        case measure => simp [intOf]; omega
      | true =>
        have HE := Lib.hid he
        rw [he] at heg
        clear he
        by_cases hd : deadI x.toSes < 0
        · have HD := Lib.hid hd
          generalize hacc : nextTo (sesOf xs) t k = acc at *
          have hd0 : decide (0 ≤ deadI x.toSes) = false := by simp; omega
          generalize hdx : deadI x.toSes = dx at *
          have HDX := Lib.hid hdx
          clear hdx
          go_wp2_with fail
          refine wp_region_grow (by kernel_rfl) (by kernel_rfl) ?_
          intro S hne hkS ho
          have s0 : ∀ s : InC S, s.W.cell? ⟨wr.heap.size, 0, none⟩ = some (.int .i64 x.f) := fun s => (BX.below (ho s)).cell 0
          have s1 : ∀ s : InC S, s.W.cell? ⟨wr.heap.size, 1, none⟩ = some (.int .i64 x.l) := fun s => (BX.below (ho s)).cell 1
          have s2 : ∀ s : InC S, s.W.cell? ⟨wr.heap.size, 2, none⟩ = some (.int .i64 x.s) := fun s => (BX.below (ho s)).cell 2
          have s3 : ∀ s : InC S, s.W.cell? ⟨wr.heap.size, 3, none⟩ = some (.int .i64 x.st) := fun s => (BX.below (ho s)).cell 3
          have s4 : ∀ s : InC S, s.W.cell? ⟨wr.heap.size, 4, none⟩ = some (.int .i64 x.ba) := fun s => (BX.below (ho s)).cell 4
          have s5 : ∀ s : InC S, s.W.cell? ⟨wr.heap.size, 5, none⟩ = some (.int .i64 x.se) := fun s => (BX.below (ho s)).cell 5
          have s6 : ∀ s : InC S, s.W.cell? ⟨wr.heap.size, 6, none⟩ = some (.slice x.A x.m x.c) := fun s => (BX.below (ho s)).cell 6
          repeat (go_big_quiet_step ((first | (go_at_call 62; with_reducible exact grow_call hkS (heg _) rfl) | (go_at_call 64; with_reducible exact grow_call hkS (hdc _ (ext_trans zB (ho _))) rfl))))
          refine wpQuiet_nil ?_
          rintro _ ⟨s, rfl⟩
          have hg5 := ho s
          clear s0 s1 s2 s3 s4 s5 s6 ho hkS hne
          generalize s.W = w5 at *
          clear s S
          go_wp2_with fail
          go_roundw
          case rel =>
            have hr2 : NxRel1 w n (sesOf xs) t _ (.int .i64 ((k : Int) + 1)) w5 := ⟨k + 1, by omega, by simp, by rw [HNT.out, nx_nodead (by rw [HDX.out]; exact HD.out)], ext_trans zB hg5⟩
            first | exact hr2 | ((repeat apply Exists.intro); exact ⟨hr2, rfl⟩)
          case measure => simp [intOf]; omega
        · have HD := Lib.hid (show 0 ≤ deadI x.toSes by omega)
          have hd0 : decide (0 ≤ deadI x.toSes) = true := by simp; omega
          rcases HF.out with hnone | ⟨jj, z, hjk, hzj, hsome⟩
          · have hup : (nextTo (sesOf xs) t k).1 < 0 ∨ deadI x.toSes < (nextTo (sesOf xs) t k).2 := by rw [hnone]; simp
            have HUP := Lib.hid (nx_new (i := k) HE.out HD.out hup)
            have HN := Lib.hid hnone
            rw [hnone]
            clear hup hnone HF
            generalize hdx : deadI x.toSes = dx at *
            clear hdx hd
            go_wp2_with fail
            refine wp_region_grow (by kernel_rfl) (by kernel_rfl) ?_
            intro S hne hkS ho
            have s0 : ∀ s : InC S, s.W.cell? ⟨wr.heap.size, 0, none⟩ = some (.int .i64 x.f) := fun s => (BX.below (ho s)).cell 0
            have s1 : ∀ s : InC S, s.W.cell? ⟨wr.heap.size, 1, none⟩ = some (.int .i64 x.l) := fun s => (BX.below (ho s)).cell 1
            have s2 : ∀ s : InC S, s.W.cell? ⟨wr.heap.size, 2, none⟩ = some (.int .i64 x.s) := fun s => (BX.below (ho s)).cell 2
            have s3 : ∀ s : InC S, s.W.cell? ⟨wr.heap.size, 3, none⟩ = some (.int .i64 x.st) := fun s => (BX.below (ho s)).cell 3
            have s4 : ∀ s : InC S, s.W.cell? ⟨wr.heap.size, 4, none⟩ = some (.int .i64 x.ba) := fun s => (BX.below (ho s)).cell 4
            have s5 : ∀ s : InC S, s.W.cell? ⟨wr.heap.size, 5, none⟩ = some (.int .i64 x.se) := fun s => (BX.below (ho s)).cell 5
            have s6 : ∀ s : InC S, s.W.cell? ⟨wr.heap.size, 6, none⟩ = some (.slice x.A x.m x.c) := fun s => (BX.below (ho s)).cell 6
            repeat (go_big_quiet_step ((first | (go_at_call 62; with_reducible exact grow_call hkS (heg _) rfl) | (go_at_call 64; with_reducible exact grow_call hkS (hdc _ (ext_trans zB (ho _))) rfl))))
            refine wpQuiet_nil ?_
            rintro _ ⟨s, rfl⟩
            have hg5 := ho s
            clear s0 s1 s2 s3 s4 s5 s6 ho hkS hne
            generalize s.W = w5 at *
            clear s S
            go_wp2_with fail
            go_roundw
            case rel =>
              have hr2 : NxRel1 w n (sesOf xs) t _ (.int .i64 ((k : Int) + 1)) w5 := ⟨k + 1, by omega, by simp, by rw [HNT.out, HUP.out], ext_trans zB hg5⟩
              first | exact hr2 | ((repeat apply Exists.intro); exact ⟨hr2, rfl⟩)
            case measure => simp [intOf]; omega
          · have HN := Lib.hid hsome
            have HJ := Lib.hid hjk
            have hszz := hz z (List.mem_of_getElem? hzj)
            have hokz := list_ok HLS.out hzj
            have hdz : ∀ W, Below w.heap.size w W → Calls Try.prog 64 #[.agg #[.int .i64 z.f, .int .i64 z.l, .int .i64 z.s, .int .i64 z.st, .int .i64 z.ba, .int .i64 z.se, .slice z.A z.m z.c]] W fun e w' => e = .returned (.int .i64 (deadI z.toSes)) ∧ Below W.heap.size W w' := fun W h => hfDeadline_any z W hokz hszz.1 (hszz.2.2.below h)
            have ZC0 := Lib.hid (show w.cell? ⟨b, o + jj * 7, none⟩ = some (.int .i64 z.f) by exact HCELL.out _ _ ((flat_get encSes 7 encSes_len xs jj 0 z hzj (by omega)).trans rfl))
            have ZC1 := Lib.hid (show w.cell? ⟨b, o + jj * 7 + 1, none⟩ = some (.int .i64 z.l) by rw [Nat.add_assoc]; exact HCELL.out _ _ ((flat_get encSes 7 encSes_len xs jj 1 z hzj (by omega)).trans rfl))
            have ZC2 := Lib.hid (show w.cell? ⟨b, o + jj * 7 + 2, none⟩ = some (.int .i64 z.s) by rw [Nat.add_assoc]; exact HCELL.out _ _ ((flat_get encSes 7 encSes_len xs jj 2 z hzj (by omega)).trans rfl))
            have ZC3 := Lib.hid (show w.cell? ⟨b, o + jj * 7 + 3, none⟩ = some (.int .i64 z.st) by rw [Nat.add_assoc]; exact HCELL.out _ _ ((flat_get encSes 7 encSes_len xs jj 3 z hzj (by omega)).trans rfl))
            have ZC4 := Lib.hid (show w.cell? ⟨b, o + jj * 7 + 4, none⟩ = some (.int .i64 z.ba) by rw [Nat.add_assoc]; exact HCELL.out _ _ ((flat_get encSes 7 encSes_len xs jj 4 z hzj (by omega)).trans rfl))
            have ZC5 := Lib.hid (show w.cell? ⟨b, o + jj * 7 + 5, none⟩ = some (.int .i64 z.se) by rw [Nat.add_assoc]; exact HCELL.out _ _ ((flat_get encSes 7 encSes_len xs jj 5 z hzj (by omega)).trans rfl))
            have ZC6 := Lib.hid (show w.cell? ⟨b, o + jj * 7 + 6, none⟩ = some (.slice z.A z.m z.c) by rw [Nat.add_assoc]; exact HCELL.out _ _ ((flat_get encSes 7 encSes_len xs jj 6 z hzj (by omega)).trans rfl))
            have i0 : (0 : Int) ≤ (jj : Int) := by omega
            have i1 : (jj : Int) < (n : Int) := by omega
            have i2 : decide ((jj : Int) < 0) = false := by simp
            have i3 : (jj : Int).toNat = jj := by omega
            rw [hsome]
            clear hszz hokz hzj HF
            by_cases hup : deadI x.toSes < deadI z.toSes
            · have HUP := Lib.hid (nx_new (i := k) (acc := nextTo (sesOf xs) t k) HE.out HD.out (by rw [hsome]; exact .inr hup))
              clear hsome
              generalize hdx : deadI x.toSes = dx at *
              generalize hdy : deadI z.toSes = dy at *
              clear hdx hdy hd
              go_wp2_with fail
              refine wp_region_grow (by kernel_rfl) (by kernel_rfl) ?_
              intro S hne hkS ho
              have s0 : ∀ s : InC S, s.W.cell? ⟨wr.heap.size, 0, none⟩ = some (.int .i64 x.f) := fun s => (BX.below (ho s)).cell 0
              have s1 : ∀ s : InC S, s.W.cell? ⟨wr.heap.size, 1, none⟩ = some (.int .i64 x.l) := fun s => (BX.below (ho s)).cell 1
              have s2 : ∀ s : InC S, s.W.cell? ⟨wr.heap.size, 2, none⟩ = some (.int .i64 x.s) := fun s => (BX.below (ho s)).cell 2
              have s3 : ∀ s : InC S, s.W.cell? ⟨wr.heap.size, 3, none⟩ = some (.int .i64 x.st) := fun s => (BX.below (ho s)).cell 3
              have s4 : ∀ s : InC S, s.W.cell? ⟨wr.heap.size, 4, none⟩ = some (.int .i64 x.ba) := fun s => (BX.below (ho s)).cell 4
              have s5 : ∀ s : InC S, s.W.cell? ⟨wr.heap.size, 5, none⟩ = some (.int .i64 x.se) := fun s => (BX.below (ho s)).cell 5
              have s6 : ∀ s : InC S, s.W.cell? ⟨wr.heap.size, 6, none⟩ = some (.slice x.A x.m x.c) := fun s => (BX.below (ho s)).cell 6
              have v0 : ∀ s : InC S, s.W.cell? ⟨b, o + jj * 7, none⟩ = some (.int .i64 z.f) := fun s => ((ext_trans zB (ho s)).cell (p := ⟨b, o + jj * 7, none⟩) hblb).trans ZC0.out
              have v1 : ∀ s : InC S, s.W.cell? ⟨b, o + jj * 7 + 1, none⟩ = some (.int .i64 z.l) := fun s => ((ext_trans zB (ho s)).cell (p := ⟨b, o + jj * 7 + 1, none⟩) hblb).trans ZC1.out
              have v2 : ∀ s : InC S, s.W.cell? ⟨b, o + jj * 7 + 2, none⟩ = some (.int .i64 z.s) := fun s => ((ext_trans zB (ho s)).cell (p := ⟨b, o + jj * 7 + 2, none⟩) hblb).trans ZC2.out
              have v3 : ∀ s : InC S, s.W.cell? ⟨b, o + jj * 7 + 3, none⟩ = some (.int .i64 z.st) := fun s => ((ext_trans zB (ho s)).cell (p := ⟨b, o + jj * 7 + 3, none⟩) hblb).trans ZC3.out
              have v4 : ∀ s : InC S, s.W.cell? ⟨b, o + jj * 7 + 4, none⟩ = some (.int .i64 z.ba) := fun s => ((ext_trans zB (ho s)).cell (p := ⟨b, o + jj * 7 + 4, none⟩) hblb).trans ZC4.out
              have v5 : ∀ s : InC S, s.W.cell? ⟨b, o + jj * 7 + 5, none⟩ = some (.int .i64 z.se) := fun s => ((ext_trans zB (ho s)).cell (p := ⟨b, o + jj * 7 + 5, none⟩) hblb).trans ZC5.out
              have v6 : ∀ s : InC S, s.W.cell? ⟨b, o + jj * 7 + 6, none⟩ = some (.slice z.A z.m z.c) := fun s => ((ext_trans zB (ho s)).cell (p := ⟨b, o + jj * 7 + 6, none⟩) hblb).trans ZC6.out
              repeat (go_big_quiet_step ((first | (go_at_call 62; with_reducible exact grow_call hkS (heg _) rfl) | (go_at_call 64; first | with_reducible exact grow_call hkS (hdc _ (ext_trans zB (ho _))) rfl | with_reducible exact grow_call hkS (hdz _ (ext_trans zB (ho _))) rfl))))
              refine wpQuiet_nil ?_
              rintro _ ⟨s, rfl⟩
              have hg5 := ho s
              clear s0 s1 s2 s3 s4 s5 s6 v0 v1 v2 v3 v4 v5 v6 ho hkS hne
              generalize s.W = w5 at *
              clear s S
              go_wp2_with fail
              go_roundw
              case rel =>
                have hr2 : NxRel1 w n (sesOf xs) t _ (.int .i64 ((k : Int) + 1)) w5 := ⟨k + 1, by omega, by simp, by rw [HNT.out, HUP.out], ext_trans zB hg5⟩
                first | exact hr2 | ((repeat apply Exists.intro); exact ⟨hr2, rfl⟩)
              case measure => simp [intOf]; omega
            · have HUP := Lib.hid (nx_keep (t := t) (i := k) (x := x.toSes) (acc := nextTo (sesOf xs) t k) (by rw [hsome]; simp only; omega) (by rw [hsome]; exact hup))
              clear hsome
              generalize hdx : deadI x.toSes = dx at *
              generalize hdy : deadI z.toSes = dy at *
              clear hdx hdy hd
              go_wp2_with fail
              refine wp_region_grow (by kernel_rfl) (by kernel_rfl) ?_
              intro S hne hkS ho
              have s0 : ∀ s : InC S, s.W.cell? ⟨wr.heap.size, 0, none⟩ = some (.int .i64 x.f) := fun s => (BX.below (ho s)).cell 0
              have s1 : ∀ s : InC S, s.W.cell? ⟨wr.heap.size, 1, none⟩ = some (.int .i64 x.l) := fun s => (BX.below (ho s)).cell 1
              have s2 : ∀ s : InC S, s.W.cell? ⟨wr.heap.size, 2, none⟩ = some (.int .i64 x.s) := fun s => (BX.below (ho s)).cell 2
              have s3 : ∀ s : InC S, s.W.cell? ⟨wr.heap.size, 3, none⟩ = some (.int .i64 x.st) := fun s => (BX.below (ho s)).cell 3
              have s4 : ∀ s : InC S, s.W.cell? ⟨wr.heap.size, 4, none⟩ = some (.int .i64 x.ba) := fun s => (BX.below (ho s)).cell 4
              have s5 : ∀ s : InC S, s.W.cell? ⟨wr.heap.size, 5, none⟩ = some (.int .i64 x.se) := fun s => (BX.below (ho s)).cell 5
              have s6 : ∀ s : InC S, s.W.cell? ⟨wr.heap.size, 6, none⟩ = some (.slice x.A x.m x.c) := fun s => (BX.below (ho s)).cell 6
              have v0 : ∀ s : InC S, s.W.cell? ⟨b, o + jj * 7, none⟩ = some (.int .i64 z.f) := fun s => ((ext_trans zB (ho s)).cell (p := ⟨b, o + jj * 7, none⟩) hblb).trans ZC0.out
              have v1 : ∀ s : InC S, s.W.cell? ⟨b, o + jj * 7 + 1, none⟩ = some (.int .i64 z.l) := fun s => ((ext_trans zB (ho s)).cell (p := ⟨b, o + jj * 7 + 1, none⟩) hblb).trans ZC1.out
              have v2 : ∀ s : InC S, s.W.cell? ⟨b, o + jj * 7 + 2, none⟩ = some (.int .i64 z.s) := fun s => ((ext_trans zB (ho s)).cell (p := ⟨b, o + jj * 7 + 2, none⟩) hblb).trans ZC2.out
              have v3 : ∀ s : InC S, s.W.cell? ⟨b, o + jj * 7 + 3, none⟩ = some (.int .i64 z.st) := fun s => ((ext_trans zB (ho s)).cell (p := ⟨b, o + jj * 7 + 3, none⟩) hblb).trans ZC3.out
              have v4 : ∀ s : InC S, s.W.cell? ⟨b, o + jj * 7 + 4, none⟩ = some (.int .i64 z.ba) := fun s => ((ext_trans zB (ho s)).cell (p := ⟨b, o + jj * 7 + 4, none⟩) hblb).trans ZC4.out
              have v5 : ∀ s : InC S, s.W.cell? ⟨b, o + jj * 7 + 5, none⟩ = some (.int .i64 z.se) := fun s => ((ext_trans zB (ho s)).cell (p := ⟨b, o + jj * 7 + 5, none⟩) hblb).trans ZC5.out
              have v6 : ∀ s : InC S, s.W.cell? ⟨b, o + jj * 7 + 6, none⟩ = some (.slice z.A z.m z.c) := fun s => ((ext_trans zB (ho s)).cell (p := ⟨b, o + jj * 7 + 6, none⟩) hblb).trans ZC6.out
              repeat (go_big_quiet_step ((first | (go_at_call 62; with_reducible exact grow_call hkS (heg _) rfl) | (go_at_call 64; first | with_reducible exact grow_call hkS (hdc _ (ext_trans zB (ho _))) rfl | with_reducible exact grow_call hkS (hdz _ (ext_trans zB (ho _))) rfl))))
              refine wpQuiet_nil ?_
              rintro _ ⟨s, rfl⟩
              have hg5 := ho s
              clear s0 s1 s2 s3 s4 s5 s6 v0 v1 v2 v3 v4 v5 v6 ho hkS hne
              generalize s.W = w5 at *
              clear s S
              go_wp2_with fail
              go_roundw
              case rel =>
                have hr2 : NxRel1 w n (sesOf xs) t _ (.int .i64 ((k : Int) + 1)) w5 := ⟨k + 1, by omega, by simp, by rw [HNT.out, HUP.out, HN.out], ext_trans zB hg5⟩
                first | exact hr2 | ((repeat apply Exists.intro); exact ⟨hr2, rfl⟩)
              case measure => simp [intOf]; omega
    · have e0 : k = (sesOf xs).length := by unfold sesOf; rw [List.length_map, HL.out]; omega
      have HE := Lib.hid e0
      clear e0
      generalize hacc : nextTo (sesOf xs) t k = acc at *
      have HACC := Lib.hid hacc
      clear hacc
      go_wp2_with fail
      go_ret
      exact ⟨by rw [← HACC.out, HE.out]; rfl, hb⟩

def listS (ss : List Ses) : Bool := ss.all sesB && decide (ss.length ≤ 6)
theorem listB_eq (xs : List SesV) : listB xs = listS (sesOf xs) := by
  unfold listB listS sesOf
  rw [List.all_map, List.length_map]
  rfl
def nsB (ss : List Ses) (t : Int) : Bool := listS ss && inB t 0 100000 && decide (0 ≤ (nextI ss t).1)
def nsV (ss : List Ses) (t : Int) : Int := if nsB ss t then (nextI ss t).1 else 0

set_option maxRecDepth 100000 in
set_option maxHeartbeats 2000000 in
theorem implNextSession_any (t : Int) (A : Option Addr) (n c : Nat) (xs : List SesV) (w : World) (hn : n ≤ 1048576) (hr : Rd w 7 A n (xs.flatMap encSes)) (hz : ∀ x ∈ xs, SZ w x) :
    Calls Try.prog 36 #[.slice A n c, .int .i64 t] w fun e w' => e = .returned (.tuple #[.int .i64 (nsV (sesOf xs) t), .bool (nsB (sesOf xs) t)]) ∧ Below w.heap.size w w' := by
  cases h1 : listB xs with
  | false =>
    have h1' := (listB_eq xs).symm.trans h1
    have e0 : nsB (sesOf xs) t = false := by simp [nsB, h1']
    unfold nsV
    rw [e0]
    clear e0
    go_enter Try.func36, Try.ntmps36
    go_wp2_with (first | (go_at_call 48; refine (areSessions_any A n c xs w hn hr hz).mono ?_; rintro e w1 ⟨rfl, hb1⟩) | (go_at_call 56; refine (isTime_any _ _).mono ?_; rintro e w' ⟨rfl, rfl⟩))
    go_ret2
    exact ⟨rfl, hb1⟩
  | true =>
    have HLS := Lib.hid h1
    have h1' := (listB_eq xs).symm.trans h1
    cases h2 : inB t 0 100000 with
    | false =>
      have e0 : nsB (sesOf xs) t = false := by simp [nsB, h2]
      unfold nsV
      rw [e0]
      clear e0
      go_enter Try.func36, Try.ntmps36
      go_wp2_with (first | (go_at_call 48; refine (areSessions_any A n c xs w hn hr hz).mono ?_; rintro e w1 ⟨rfl, hb1⟩) | (go_at_call 56; refine (isTime_any _ _).mono ?_; rintro e w' ⟨rfl, rfl⟩))
      go_ret2
      exact ⟨rfl, hb1⟩
    | true =>
      have ht := inB_iff.1 h2
      have HNS := Lib.hid (show nsB (sesOf xs) t = decide (0 ≤ (nextI (sesOf xs) t).1) by rw [nsB, h1', h2]; rfl)
      unfold nsV
      rw [HNS.out]
      clear h1'
      by_cases hneg : (nextI (sesOf xs) t).1 < 0
      · rw [show decide (0 ≤ (nextI (sesOf xs) t).1) = false by simp; omega]
        go_enter Try.func36, Try.ntmps36
        go_wp2_with (first | (go_at_call 48; refine (areSessions_any A n c xs w hn hr hz).mono ?_; rintro e w1 ⟨rfl, hb1⟩) | (go_at_call 56; refine (isTime_any _ _).mono ?_; rintro e w' ⟨rfl, rfl⟩))
        go_wp2_with (go_at_call 72; refine (nextSession_any t A n c xs _ hn (hr.below hb1) (fun x hx => (hz x hx).below hb1) HLS.out ht).mono ?_; rintro e w2 ⟨rfl, hb2⟩)
        all_goals first | exact (show False by omega).elim | (go_ret2; exact ⟨rfl, ext_trans hb1 hb2⟩)
      · rw [show decide (0 ≤ (nextI (sesOf xs) t).1) = true by simp; omega, if_pos rfl]
        go_enter Try.func36, Try.ntmps36
        go_wp2_with fail
        refine (areSessions_any A n c xs w hn hr hz).mono ?_; rintro e w1 ⟨rfl, hb1⟩
        rw [h1]
        go_wp2_with (go_at_call 56; refine (isTime_any _ _).mono ?_; rintro e w' ⟨rfl, rfl⟩)
        refine (nextSession_any t A n c xs _ hn (hr.below hb1) (fun x hx => (hz x hx).below hb1) HLS.out ht).mono ?_; rintro e w2 ⟨rfl, hb2⟩
        have z2 := ext_trans hb1 hb2
        go_wp2_with fail
        go_ret2
        exact ⟨rfl, z2⟩

set_option maxRecDepth 100000 in
set_option maxHeartbeats 2000000 in
theorem specNextSession_any (t : Int) (A : Option Addr) (n c : Nat) (xs : List SesV) (w : World) (hn : n ≤ 1048576) (hr : Rd w 7 A n (xs.flatMap encSes)) (hz : ∀ x ∈ xs, SZ w x) :
    Calls Try.prog 35 #[.slice A n c, .int .i64 t] w fun e w' => e = .returned (.tuple #[.int .i64 (nsV (sesOf xs) t), .bool (nsB (sesOf xs) t)]) ∧ Below w.heap.size w w' := by
  cases h1 : listB xs with
  | false =>
    have h1' := (listB_eq xs).symm.trans h1
    have e0 : nsB (sesOf xs) t = false := by simp [nsB, h1']
    unfold nsV
    rw [e0]
    clear e0
    go_enter Try.func35, Try.ntmps35
    go_wp2_with (first | (go_at_call 45; refine (hfList_any A n c xs w hn hr hz).mono ?_; rintro e w1 ⟨rfl, hb1⟩) | (go_at_call 61; refine (cuTime_any _ _).mono ?_; rintro e w' ⟨rfl, rfl⟩))
    go_ret2
    exact ⟨rfl, hb1⟩
  | true =>
    have HLS := Lib.hid h1
    have h1' := (listB_eq xs).symm.trans h1
    cases h2 : inB t 0 100000 with
    | false =>
      have e0 : nsB (sesOf xs) t = false := by simp [nsB, h2]
      unfold nsV
      rw [e0]
      clear e0
      go_enter Try.func35, Try.ntmps35
      go_wp2_with (first | (go_at_call 45; refine (hfList_any A n c xs w hn hr hz).mono ?_; rintro e w1 ⟨rfl, hb1⟩) | (go_at_call 61; refine (cuTime_any _ _).mono ?_; rintro e w' ⟨rfl, rfl⟩))
      go_ret2
      exact ⟨rfl, hb1⟩
    | true =>
      have ht := inB_iff.1 h2
      have HNS := Lib.hid (show nsB (sesOf xs) t = decide (0 ≤ (nextI (sesOf xs) t).1) by rw [nsB, h1', h2]; rfl)
      unfold nsV
      rw [HNS.out]
      clear h1'
      by_cases hneg : (nextI (sesOf xs) t).1 < 0
      · rw [show decide (0 ≤ (nextI (sesOf xs) t).1) = false by simp; omega]
        go_enter Try.func35, Try.ntmps35
        go_wp2_with (first | (go_at_call 45; refine (hfList_any A n c xs w hn hr hz).mono ?_; rintro e w1 ⟨rfl, hb1⟩) | (go_at_call 61; refine (cuTime_any _ _).mono ?_; rintro e w' ⟨rfl, rfl⟩))
        go_wp2_with (go_at_call 71; refine (hfNext_any t A n c xs _ hn (hr.below hb1) (fun x hx => (hz x hx).below hb1) HLS.out ht).mono ?_; rintro e w2 ⟨rfl, hb2⟩)
        all_goals first | exact (show False by omega).elim | (go_ret2; exact ⟨rfl, ext_trans hb1 hb2⟩)
      · rw [show decide (0 ≤ (nextI (sesOf xs) t).1) = true by simp; omega, if_pos rfl]
        go_enter Try.func35, Try.ntmps35
        go_wp2_with fail
        refine (hfList_any A n c xs w hn hr hz).mono ?_; rintro e w1 ⟨rfl, hb1⟩
        rw [h1]
        go_wp2_with (go_at_call 61; refine (cuTime_any _ _).mono ?_; rintro e w' ⟨rfl, rfl⟩)
        refine (hfNext_any t A n c xs _ hn (hr.below hb1) (fun x hx => (hz x hx).below hb1) HLS.out ht).mono ?_; rintro e w2 ⟨rfl, hb2⟩
        have z2 := ext_trans hb1 hb2
        go_wp2_with fail
        refine (hfNext_any t A n c xs _ hn (hr.below z2) (fun x hx => (hz x hx).below z2) HLS.out ht).mono ?_; rintro e w3 ⟨rfl, hb3⟩
        go_wp2_with fail
        go_ret2
        exact ⟨rfl, ext_trans z2 hb3⟩

theorem sumM_same {xs : List SesV} (h : ∀ x ∈ xs, x.zs.length = x.m) : sumM xs = ((xs.map SesV.toSes).map fun s => s.zs.length).sum := by
  unfold sumM
  rw [List.map_map]
  congr 1
  apply List.map_congr_left
  intro x hx
  exact (h x hx).symm
theorem IntB.below {w w' : World} {s1 s2 g0 : Nat} {y : SesV} (h : IntB w s1 s2 g0 y) (hb : Below w.heap.size w w') : IntB w' s1 s2 g0 y := by
  obtain ⟨h1, h2, g, cs, hA, a, b, c, d, hB⟩ := h
  exact ⟨h1, h2, g, cs, hA, a, b, c, d, hB.below hb⟩

set_option maxRecDepth 100000 in
set_option maxHeartbeats 4000000 in
theorem walkNextSession (A : Option Addr) (n c : Nat) (xs : List SesV) (hn : n ≤ 9223372036854775807) (t : Int) (w : World) (hr : Rd w 7 A n (xs.flatMap encSes)) (hz : ∀ x ∈ xs, SRd w x) :
    Calls Try.prog 10 #[.slice A n c, .int .i64 t] w fun e w' => e = .returned (.bool true) ∧ Below w.heap.size w w' := by
  have hl : xs.length = n := by have h1 := hr.1; rw [flat_len encSes 7 encSes_len] at h1; omega
  have HL := Lib.hid hl
  clear hl
  have hzm : ∀ x ∈ xs, x.m ≤ 9223372036854775807 := fun x hx => (hz x hx).1
  by_cases hv : szV 1048576 (n + sumM xs) < 0
  · go_enter Try.func10, Try.ntmps10
    go_wp2_with fail
    refine (szSessionS_any A n c xs _ _ hn (by omega) (by omega) hr hzm).mono ?_; rintro e w1 ⟨rfl, hb1⟩
    go_wp2_with fail
    go_ret
    exact ⟨rfl, hb1⟩
  have hsum := szV_pos hv
  have hm : n ≤ 1048576 := by omega
  have hz2 : ∀ W, Below w.heap.size w W → ∀ x ∈ xs, x.m ≤ 1048576 ∧ Rd W 1 x.A x.m (x.zs.map (Value.int .i64)) := fun W h x hx => ⟨by obtain ⟨j, hj⟩ := List.getElem?_of_mem hx; have := sumM_mem hj; omega, (hz x hx).2.below h⟩
  have HSM := Lib.hid (sumM_same (xs := xs) (fun x hx => (hz x hx).2.len1))
  have HSU := Lib.hid hsum
  clear hsum
  go_enter Try.func10, Try.ntmps10
  go_wp2_with fail
  refine (szSessionS_any A n c xs _ _ hn (by omega) (by omega) hr hzm).mono ?_; rintro e w1 ⟨rfl, hb1⟩
  have z1 := hb1
  go_wp2_with fail
  refine (toSessionS_any A n c xs _ hm (hr.below z1) (hz2 _ z1)).mono ?_; rintro e w2 ⟨ys1, rfl, hy1, hw1, hB1, hb2⟩
  have z2 := ext_trans z1 hb2
  have hl1 : (ys1.flatMap encSes).length = n * 7 := by rw [flat_len encSes 7 encSes_len, ← List.length_map (f := SesV.toSes), hy1, List.length_map, HL.out]
  have hc3 := specNextSession_any t (some ⟨w1.heap.size, 0, none⟩) n n ys1 w2 hm (Rd.of_blk hB1 hl1) (fun y hy => (hw1 y hy).sz)
  rw [show sesOf ys1 = sesOf xs from hy1] at hc3
  go_wp2_with fail
  refine hc3.mono ?_; rintro e w3 ⟨rfl, hb3⟩
  have z3 := ext_trans z2 hb3
  clear hc3
  clear hw1 hB1 hy1 hl1
  go_wp2_with fail
  refine (toSessionS_any A n c xs _ hm (hr.below z3) (hz2 _ z3)).mono ?_; rintro e w4 ⟨ys2, rfl, hy2, hw2, hB2, hb4⟩
  have z4 := ext_trans z3 hb4
  have hl2 : (ys2.flatMap encSes).length = n * 7 := by rw [flat_len encSes 7 encSes_len, ← List.length_map (f := SesV.toSes), hy2, List.length_map, HL.out]
  have hc5 := implNextSession_any t (some ⟨w3.heap.size, 0, none⟩) n n ys2 w4 hm (Rd.of_blk hB2 hl2) (fun y hy => (hw2 y hy).sz)
  rw [show sesOf ys2 = sesOf xs from hy2] at hc5
  go_wp2_with fail
  refine hc5.mono ?_; rintro e w5 ⟨rfl, hb5⟩
  have z5 := ext_trans z4 hb5
  clear hc5
  have hBx := hB2.below hb5
  have hwx := fun (y : SesV) (hy : y ∈ ys2) => (hw2 y hy).below hb5
  go_wp2_with fail
  refine (toSessionS_any A n c xs _ hm (hr.below z5) (hz2 _ z5)).mono ?_; rintro e w7 ⟨ys3, rfl, hy3, hw3, hB3, hb7⟩
  have z7 := ext_trans z5 hb7
  have hl3 : (ys3.flatMap encSes).length = n * 7 := by rw [flat_len encSes 7 encSes_len, ← List.length_map (f := SesV.toSes), hy3, List.length_map, HL.out]
  go_wp2_with fail
  refine (eqSessionS_same _ _ n n n ys2 ys3 _ hm (hy2.trans hy3.symm) (Rd.of_blk (hBx.below hb7) hl2) (Rd.of_blk hB3 hl3) (fun y hy => ((hwx y hy).below hb7).sz) (fun y hy => (hw3 y hy).sz)).mono ?_; rintro e w8 ⟨rfl, hb8⟩
  have z8 := ext_trans z7 hb8
  go_wp2_with fail
  go_ret
  exact ⟨rfl, z8⟩

end Go.Proofs.Ytgljelhglgeojaa