/- Sums of curves, and the times at which curves bend: plain words; contracts of the sums and of the reference's times. -/
import Derived.Test.YtgljelhglgeojaaDeT
import Derived.BigRegion
namespace Go.Proofs.Ytgljelhglgeojaa
open Go.RowKit

def curC (x : Curve) (t : Int) : Int := curI x.first x.length x.second t
def goodC (x : Curve) : Bool := curB x.first x.length x.second
def sumI (cs : List Curve) (t : Int) : Int := (cs.map fun x => curC x t).sum
theorem sumI_snoc {cs : List Curve} {k : Nat} {x : Curve} {t : Int} (h : cs[k]? = some x) : sumI (cs.take (k + 1)) t = sumI (cs.take k) t + curC x t := by
  rw [take_snoc h]
  simp [sumI]
theorem goodC_at {cs : List Curve} (h : cs.all goodC = true) {k : Nat} {x : Curve} (hx : cs[k]? = some x) : (0 ≤ x.first ∧ x.first ≤ 100000) ∧ (0 ≤ x.length ∧ x.length ≤ 10000) ∧ (0 ≤ x.second ∧ x.second ≤ 100000) :=
  curB_iff.1 (List.all_eq_true.1 h x (List.mem_of_getElem? hx))
theorem sumI_bd {cs : List Curve} (h : cs.all goodC = true) {t : Int} (ht : 0 ≤ t ∧ t ≤ 100000) : ∀ k : Nat, k ≤ cs.length → -(21000000000 * (k : Int)) ≤ sumI (cs.take k) t ∧ sumI (cs.take k) t ≤ 21000000000 * (k : Int)
  | 0, _ => by simp [sumI]
  | k + 1, hk => by
    have ih := sumI_bd h ht k (by omega)
    have hx : cs[k]? = some cs[k] := List.getElem?_eq_getElem (by omega)
    obtain ⟨h1, h2, h3⟩ := goodC_at h hx
    have hb := curI_bd h1 h2 h3 (t := t) (by omega)
    rw [sumI_snoc hx]
    unfold curC
    omega
def SumRel (w : World) (n : Nat) (cs : List Curve) (t : Int) (s i : Value) (wr : World) : Prop := ∃ k : Nat, k ≤ n ∧ i = .int .i64 k ∧ s = .int .i64 (sumI (cs.take k) t) ∧ Below w.heap.size w wr

set_option maxRecDepth 100000 in
set_option maxHeartbeats 2000000 in
theorem sumAt_any (t : Int) (A : Option Addr) (n c : Nat) (cs : List Curve) (w : World) (hn : n ≤ 12) (hr : Rd w 3 A n (cs.flatMap encCurve)) (hg : cs.all goodC = true) (ht : 0 ≤ t ∧ t ≤ 100000) :
    Calls Try.prog 82 #[.slice A n c, .int .i64 t] w fun e w' => e = .returned (.int .i64 (sumI cs t)) ∧ Below w.heap.size w w' := by
  have hl : cs.length = n := by have h1 := hr.1; rw [flat_len encCurve 3 encCurve_len] at h1; omega
  have HL := Lib.hid hl
  clear hl
  go_enter Try.func82, Try.ntmps82
  go_wp2_with fail
  go_loopw [5, 10] (SumRel w n cs t) (fun _ i _ => n - (intOf i).toNat)
  case atStart => exact ⟨0, Nat.zero_le _, rfl, rfl, ext_refl w⟩
  case round =>
    obtain ⟨k, hk, rfl, rfl, hb⟩ := hrel
    by_cases hlt : k < n
    · 
      obtain ⟨b, o, rfl, hblb, hcellb⟩ := hr.2 (by omega)
      have hblrbx : b < wr.heap.size := Nat.lt_of_lt_of_le hblb hb.size
      have hlxx : k < cs.length := by rw [HL.out]; omega
      have hxx : cs[k]? = some cs[k] := List.getElem?_eq_getElem hlxx
      generalize cs[k] = x at hxx
      have c0 : wr.cell? ⟨b, o + (k * 3 + 0), none⟩ = some (.int .i64 x.first) := (hb.cell (p := ⟨b, o + (k * 3 + 0), none⟩) hblb).trans (hcellb _ _ ((flat_get encCurve 3 encCurve_len cs k 0 x hxx (by omega)).trans rfl))
      have c1 : wr.cell? ⟨b, o + (k * 3 + 1), none⟩ = some (.int .i64 x.length) := (hb.cell (p := ⟨b, o + (k * 3 + 1), none⟩) hblb).trans (hcellb _ _ ((flat_get encCurve 3 encCurve_len cs k 1 x hxx (by omega)).trans rfl))
      have c2 : wr.cell? ⟨b, o + (k * 3 + 2), none⟩ = some (.int .i64 x.second) := (hb.cell (p := ⟨b, o + (k * 3 + 2), none⟩) hblb).trans (hcellb _ _ ((flat_get encCurve 3 encCurve_len cs k 2 x hxx (by omega)).trans rfl))
      simp only [Nat.add_zero, ← Nat.add_assoc] at c0 c1 c2
      have HX := Lib.hid hxx
      clear hxx hlxx hcellb
      obtain ⟨hx1, hx2, hx3⟩ := goodC_at hg HX.out
      have hsb := sumI_bd hg ht k (by rw [HL.out]; omega)
      have hcb := curI_bd hx1 hx2 hx3 (t := t) (by omega)
      have HS := Lib.hid (sumI_snoc (t := t) HX.out)
      have BX := Blk.new wr 37 [.int .i64 x.first, .int .i64 x.length, .int .i64 x.second]
      have zB := ext_alloc hb (.cells (List.toArray [.int .i64 x.first, .int .i64 x.length, .int .i64 x.second]) 37)
      have hcc := fun W => curveAt_any x.first x.length x.second t W hx1 hx2 hx3 (by omega)
      have hcd : curC x t = curI x.first x.length x.second t := rfl
      have HCD := Lib.hid hcd
      generalize curI x.first x.length x.second t = cv at *
      generalize hsk : sumI (cs.take k) t = sk at *
      have hsk1 : -252000000000 ≤ sk ∧ sk ≤ 252000000000 := by omega
      clear hcd hsk
      go_wp2_with fail
      refine (hcc _).mono ?_; rintro e w1 ⟨rfl, hb1⟩
      go_wp2_with fail
      go_roundw
      case rel =>
        have hr2 : SumRel w n cs t (.int .i64 (sk + cv)) (.int .i64 ((k : Int) + 1)) w1 := ⟨k + 1, by omega, by simp, by rw [HS.out, HCD.out], ext_trans zB hb1⟩
        first | exact hr2 | ((repeat apply Exists.intro); exact ⟨hr2, rfl⟩)
      case measure => simp [intOf]; omega
    · have HE := Lib.hid (show cs.take k = cs from List.take_of_length_le (by rw [HL.out]; omega))
      go_wp2_with fail
      go_ret
      exact ⟨ret_int (by rw [HE.out]), hb⟩

set_option maxRecDepth 100000 in
set_option maxHeartbeats 2000000 in
theorem cuSum_any (t : Int) (A : Option Addr) (n c : Nat) (cs : List Curve) (w : World) (hn : n ≤ 12) (hr : Rd w 3 A n (cs.flatMap encCurve)) (hg : cs.all goodC = true) (ht : 0 ≤ t ∧ t ≤ 100000) :
    Calls Try.prog 77 #[.slice A n c, .int .i64 t] w fun e w' => e = .returned (.int .i64 (sumI cs t)) ∧ Below w.heap.size w w' := by
  have hl : cs.length = n := by have h1 := hr.1; rw [flat_len encCurve 3 encCurve_len] at h1; omega
  have HL := Lib.hid hl
  clear hl
  go_enter Try.func77, Try.ntmps77
  go_wp2_with fail
  go_loopw [5, 10] (SumRel w n cs t) (fun _ i _ => n - (intOf i).toNat)
  case atStart => exact ⟨0, Nat.zero_le _, rfl, rfl, ext_refl w⟩
  case round =>
    obtain ⟨k, hk, rfl, rfl, hb⟩ := hrel
    by_cases hlt : k < n
    · 
      obtain ⟨b, o, rfl, hblb, hcellb⟩ := hr.2 (by omega)
      have hblrbx : b < wr.heap.size := Nat.lt_of_lt_of_le hblb hb.size
      have hlxx : k < cs.length := by rw [HL.out]; omega
      have hxx : cs[k]? = some cs[k] := List.getElem?_eq_getElem hlxx
      generalize cs[k] = x at hxx
      have c0 : wr.cell? ⟨b, o + (k * 3 + 0), none⟩ = some (.int .i64 x.first) := (hb.cell (p := ⟨b, o + (k * 3 + 0), none⟩) hblb).trans (hcellb _ _ ((flat_get encCurve 3 encCurve_len cs k 0 x hxx (by omega)).trans rfl))
      have c1 : wr.cell? ⟨b, o + (k * 3 + 1), none⟩ = some (.int .i64 x.length) := (hb.cell (p := ⟨b, o + (k * 3 + 1), none⟩) hblb).trans (hcellb _ _ ((flat_get encCurve 3 encCurve_len cs k 1 x hxx (by omega)).trans rfl))
      have c2 : wr.cell? ⟨b, o + (k * 3 + 2), none⟩ = some (.int .i64 x.second) := (hb.cell (p := ⟨b, o + (k * 3 + 2), none⟩) hblb).trans (hcellb _ _ ((flat_get encCurve 3 encCurve_len cs k 2 x hxx (by omega)).trans rfl))
      simp only [Nat.add_zero, ← Nat.add_assoc] at c0 c1 c2
      have HX := Lib.hid hxx
      clear hxx hlxx hcellb
      obtain ⟨hx1, hx2, hx3⟩ := goodC_at hg HX.out
      have hsb := sumI_bd hg ht k (by rw [HL.out]; omega)
      have hcb := curI_bd hx1 hx2 hx3 (t := t) (by omega)
      have HS := Lib.hid (sumI_snoc (t := t) HX.out)
      have BX := Blk.new wr 37 [.int .i64 x.first, .int .i64 x.length, .int .i64 x.second]
      have zB := ext_alloc hb (.cells (List.toArray [.int .i64 x.first, .int .i64 x.length, .int .i64 x.second]) 37)
      have hcc := fun W => cuAt_any x.first x.length x.second t W hx1 hx2 hx3 (by omega)
      have hcd : curC x t = curI x.first x.length x.second t := rfl
      have HCD := Lib.hid hcd
      generalize curI x.first x.length x.second t = cv at *
      generalize hsk : sumI (cs.take k) t = sk at *
      have hsk1 : -252000000000 ≤ sk ∧ sk ≤ 252000000000 := by omega
      clear hcd hsk
      go_wp2_with fail
      refine (hcc _).mono ?_; rintro e w1 ⟨rfl, hb1⟩
      go_wp2_with fail
      go_roundw
      case rel =>
        have hr2 : SumRel w n cs t (.int .i64 (sk + cv)) (.int .i64 ((k : Int) + 1)) w1 := ⟨k + 1, by omega, by simp, by rw [HS.out, HCD.out], ext_trans zB hb1⟩
        first | exact hr2 | ((repeat apply Exists.intro); exact ⟨hr2, rfl⟩)
      case measure => simp [intOf]; omega
    · have HE := Lib.hid (show cs.take k = cs from List.take_of_length_le (by rw [HL.out]; omega))
      go_wp2_with fail
      go_ret
      exact ⟨ret_int (by rw [HE.out]), hb⟩

def AcRel (w : World) (n : Nat) (i : Value) (wr : World) : Prop := ∃ k : Nat, k ≤ n ∧ i = .int .i64 k ∧ Below w.heap.size w wr
set_option maxRecDepth 100000 in
set_option maxHeartbeats 2000000 in
theorem areCurves_any (A : Option Addr) (n c : Nat) (cs : List Curve) (w : World) (hn : n ≤ 12) (hr : Rd w 3 A n (cs.flatMap encCurve)) (hg : cs.all goodC = true) :
    Calls Try.prog 79 #[.slice A n c] w fun e w' => e = .returned (.bool true) ∧ Below w.heap.size w w' := by
  have hl : cs.length = n := by have h1 := hr.1; rw [flat_len encCurve 3 encCurve_len] at h1; omega
  have HL := Lib.hid hl
  clear hl
  go_enter Try.func79, Try.ntmps79
  go_wp2_with fail
  go_loopw [7] (AcRel w n) (fun i _ => n - (intOf i).toNat)
  case atStart => exact ⟨0, Nat.zero_le _, rfl, ext_refl w⟩
  case round =>
    obtain ⟨k, hk, rfl, hb⟩ := hrel
    by_cases hlt : k < n
    · 
      obtain ⟨b, o, rfl, hblb, hcellb⟩ := hr.2 (by omega)
      have hblrbx : b < wr.heap.size := Nat.lt_of_lt_of_le hblb hb.size
      have hlxx : k < cs.length := by rw [HL.out]; omega
      have hxx : cs[k]? = some cs[k] := List.getElem?_eq_getElem hlxx
      generalize cs[k] = x at hxx
      have c0 : wr.cell? ⟨b, o + (k * 3 + 0), none⟩ = some (.int .i64 x.first) := (hb.cell (p := ⟨b, o + (k * 3 + 0), none⟩) hblb).trans (hcellb _ _ ((flat_get encCurve 3 encCurve_len cs k 0 x hxx (by omega)).trans rfl))
      have c1 : wr.cell? ⟨b, o + (k * 3 + 1), none⟩ = some (.int .i64 x.length) := (hb.cell (p := ⟨b, o + (k * 3 + 1), none⟩) hblb).trans (hcellb _ _ ((flat_get encCurve 3 encCurve_len cs k 1 x hxx (by omega)).trans rfl))
      have c2 : wr.cell? ⟨b, o + (k * 3 + 2), none⟩ = some (.int .i64 x.second) := (hb.cell (p := ⟨b, o + (k * 3 + 2), none⟩) hblb).trans (hcellb _ _ ((flat_get encCurve 3 encCurve_len cs k 2 x hxx (by omega)).trans rfl))
      simp only [Nat.add_zero, ← Nat.add_assoc] at c0 c1 c2
      have HX := Lib.hid hxx
      clear hxx hlxx hcellb
      have hgx : curB x.first x.length x.second = true := curB_iff.2 (goodC_at hg HX.out)
      have zB := ext_alloc hb (.cells (List.toArray [.int .i64 x.first, .int .i64 x.length, .int .i64 x.second]) 37)
      go_wp2_with fail
      refine (isCurve_any _ _ _ _).mono ?_; rintro e w1 ⟨rfl, hb1⟩
      rw [hgx]
      go_wp2_with fail
      go_roundw
      case rel => exact ⟨k + 1, by omega, by go_num, ext_trans zB hb1⟩
      case measure => simp [intOf]; omega
    · have hd : decide (n ≤ 12) = true := by simp; omega
      go_wp2_with fail
      go_ret
      exact ⟨ret_bool (by simp; omega), hb⟩

end Go.Proofs.Ytgljelhglgeojaa