/- slices.Sort of few ints: what it leaves is a permutation; contracts of the library's text. -/
import Derived.Test.YtgljelhglgeojaaDeX
import Derived.BigRegion
namespace Go.Proofs.Ytgljelhglgeojaa
open Go.RowKit

set_option maxHeartbeats 400000 in
theorem isNaN_any (x : Int) (w : World) : Calls Try.prog 112 #[.int .i64 x] w fun e w' => e = .returned (.bool false) ∧ w = w' := by
  go_enter Try.func112, Try.ntmps112
  go_wp2
  go_ret
  simp
set_option maxHeartbeats 400000 in
theorem less_any (x y : Int) (w : World) : Calls Try.prog 102 #[.int .i64 x, .int .i64 y] w fun e w' => e = .returned (.bool (decide (x < y))) ∧ w = w' := by
  go_enter Try.func102, Try.ntmps102
  go_wp2_with (go_at_call 112; refine (isNaN_any _ _).mono ?_; rintro e w' ⟨rfl, rfl⟩)
  go_ret
  exact ⟨rfl, rfl⟩
theorem grown_drewN (w : World) (n : Nat) (row : Option Nat) : w.grownBy (w.drewN n) row := ⟨rfl, rfl, rfl, Nat.le_refl _, fun _ _ _ => rfl⟩
theorem grown_drew (w : World) (row : Option Nat) : w.grownBy w.drew row := ⟨rfl, rfl, rfl, Nat.le_refl _, fun _ _ _ => rfl⟩
/-- The sorted block so far: a permutation, and the rest as it was. -/
def Srt (w : World) (g : Nat) (l : List Int) (rest : List Value) (wr : World) : Prop := ∃ l' : List Int, l'.Perm l ∧ Blk wr g 3 (l'.map (Value.int .i64) ++ rest) ∧ w.grownBy wr (some g)
def SrtO (w : World) (g n : Nat) (l : List Int) (rest : List Value) (i : Value) (wr : World) : Prop := ∃ k : Nat, 1 ≤ k ∧ k ≤ n ∧ i = .int .i64 k ∧ Srt w g l rest wr
def SrtI (w : World) (g n : Nat) (l : List Int) (rest : List Value) (j : Value) (wr : World) : Prop := ∃ k : Nat, k < n ∧ j = .int .i64 k ∧ Srt w g l rest wr
theorem map_get {l : List Int} {rest : List Value} {k : Nat} {x : Int} (h : l[k]? = some x) : (l.map (Value.int .i64) ++ rest)[k]? = some (.int .i64 x) := by
  have hl := (List.getElem?_eq_some_iff.1 h).1
  rw [List.getElem?_append_left (by simpa using hl), List.getElem?_map, h]; rfl
theorem swap_perm {l : List Int} {k : Nat} {x y : Int} (hk : 0 < k) (hx : l[k]? = some x) (hy : l[k - 1]? = some y) : ((l.set k y).set (k - 1) x).Perm l := by
  obtain ⟨m, rfl⟩ : ∃ m, k = m + 1 := ⟨k - 1, by omega⟩
  simp only [Nat.add_sub_cancel] at hy ⊢
  have hl := (List.getElem?_eq_some_iff.1 hx).1
  have hx' : l[m + 1] = x := (List.getElem?_eq_some_iff.1 hx).2
  have hy' : l[m] = y := (List.getElem?_eq_some_iff.1 hy).2
  have e : l = l.take m ++ y :: x :: l.drop (m + 2) := by
    have h1 : l.drop m = y :: l.drop (m + 1) := by rw [List.drop_eq_getElem_cons (by omega), hy']
    have h2 : l.drop (m + 1) = x :: l.drop (m + 2) := by rw [List.drop_eq_getElem_cons (by omega), hx']
    rw [← h2, ← h1, List.take_append_drop]
  have hlm : (l.take m).length = m := by rw [List.length_take]; omega
  have e2 : (l.set (m + 1) y).set m x = l.take m ++ x :: y :: l.drop (m + 2) := by
    generalize hA : l.take m = A at e hlm
    generalize hD : l.drop (m + 2) = D at e
    rw [e, ← hlm]
    simp
  rw [e2]
  conv => rhs; rw [e]
  exact List.Perm.append_left _ (List.Perm.swap _ _ _)
theorem map_set2 {l : List Int} {rest : List Value} {k : Nat} {x y : Int} (hk : k < l.length) : ((l.map (Value.int .i64) ++ rest).set k (.int .i64 y)).set (k - 1) (.int .i64 x) = ((l.set k y).set (k - 1) x).map (Value.int .i64) ++ rest := by
  rw [List.set_append_left _ _ (by simpa using hk), List.set_append_left _ _ (by simp; omega), List.map_set, List.map_set]

set_option maxRecDepth 100000 in
set_option maxHeartbeats 4000000 in
theorem insSort_any (g n c : Nat) (l : List Int) (rest : List Value) (w : World) (hn : 2 ≤ n) (hn2 : n ≤ 1000) (hl : l.length = n) (hB : Blk w g 3 (l.map (Value.int .i64) ++ rest)) :
    Calls Try.prog 96 #[.slice (some ⟨g, 0, none⟩) n c, .int .i64 0, .int .i64 n] w fun e w' => e = .returned (.tuple #[]) ∧ Srt w g l rest w' := by
  have HL := Lib.hid hl
  clear hl
  go_enter Try.func96, Try.ntmps96
  go_wp2_with fail
  go_loopw [6] (SrtO w g n l rest) (fun i _ => n - (intOf i).toNat)
  case atStart => exact ⟨1, Nat.le_refl _, by omega, rfl, l, List.Perm.refl _, hB, World.grownBy.refl _ _⟩
  case round =>
    obtain ⟨i, hi1, hi2, rfl, hsr⟩ := hrel
    have HSI := Lib.hid hsr
    clear hsr hB
    by_cases hlt : i < n
    · go_wp2_with fail
      go_loopw [7] (SrtI w g n l rest) (fun j _ => (intOf j).toNat)
      case atStart => exact ⟨i, hlt, rfl, HSI.out⟩
      case round =>
        obtain ⟨k, hk, rfl, l', hp, hB, hg⟩ := hrel
        have hll : l'.length = n := by rw [hp.length_eq, HL.out]
        have HLL := Lib.hid hll
        have HP := Lib.hid hp
        clear hp
        by_cases hk0 : k = 0
        · subst hk0
          have g0 : decide ((0 : Int) < ((0 : Nat) : Int)) = false := by simp
          go_wp2_with fail
          go_quiet (fail)
          go_wp2_with fail
          have HS := Lib.hid (show Srt w g l rest (wr.drewN nq) from ⟨l', HP.out, hB.drewN nq, hg.trans (grown_drewN _ _ _)⟩)
          go_roundw
          case rel =>
            have hr2 : SrtO w g n l rest (.int .i64 ((i : Int) + 1)) _ := ⟨i + 1, by omega, by omega, by simp, HS.out⟩
            first | exact hr2 | ((repeat apply Exists.intro); exact ⟨hr2, rfl⟩)
          case measure => simp [intOf]; omega
        · have hpos : 0 < k := by omega
          have hx : l'[k]? = some l'[k] := List.getElem?_eq_getElem (by omega)
          have hy : l'[k - 1]? = some l'[k - 1] := List.getElem?_eq_getElem (by omega)
          generalize l'[k] = x at hx
          generalize l'[k - 1] = y at hy
          have cx : wr.cell? ⟨g, k, none⟩ = some (.int .i64 x) := by rw [hB.cell]; exact map_get hx
          have cy : wr.cell? ⟨g, k - 1, none⟩ = some (.int .i64 y) := by rw [hB.cell]; exact map_get hy
          have HX := Lib.hid hx
          have HY := Lib.hid hy
          have g0 : decide ((0 : Int) < (k : Int)) = true := by simp; omega
          have i0 : (0 : Int) ≤ (k : Int) - 1 := by omega
          have i1 : (1 : Int) ≤ (k : Int) := by omega
          have i2 : ((k : Int) - 1).toNat = k - 1 := by omega
          have i3 : (k : Int) - 1 < (n : Int) := by omega
          have i4 : (k : Int) < (n : Int) := by omega
          have hwk := wrap_in ((k : Int) - 1) (by omega) (by omega)
          clear hx hy hll hk0
          cases hxy : decide (x < y) with
          | false =>
            go_wp2_with fail
            go_quiet ((go_at_call 102; exact quiet_left (less_any _ _ _)))
            go_wp2_with fail
            have HS := Lib.hid (show Srt w g l rest (wr.drewN nq) from ⟨l', HP.out, hB.drewN nq, hg.trans (grown_drewN _ _ _)⟩)
            go_roundw
            case rel =>
              have hr2 : SrtO w g n l rest (.int .i64 ((i : Int) + 1)) _ := ⟨i + 1, by omega, by omega, by simp, HS.out⟩
              first | exact hr2 | ((repeat apply Exists.intro); exact ⟨hr2, rfl⟩)
            case measure => simp [intOf]; omega
          | true =>
            go_wp2_with fail
            go_quiet ((go_at_call 102; exact quiet_left (less_any _ _ _)))
            have B5 := hB.drewN nq
            have G5 := hg.trans (grown_drewN wr nq _)
            have d1 : (wr.drewN nq).cell? ⟨g, k, none⟩ = some (.int .i64 x) := cx
            have d2 : (wr.drewN nq).cell? ⟨g, k - 1, none⟩ = some (.int .i64 y) := cy
            have e1 := B5.frozen k
            have e2 := B5.frozen (k - 1)
            clear cx cy hB hg
            generalize wr.drewN nq = w5 at *
            go_wp2_with fail
            go_region
            go_wp2_with fail
            go_roundw
            case rel =>
              have hset := ((B5.set_ k (.int .i64 y)).set_ (k - 1) (.int .i64 x)).drew
              rw [map_set2 (by rw [HLL.out]; exact hk)] at hset
              have hr2 : SrtI w g n l rest (.int .i64 ((k : Int) - 1)) ((w5.setCell ⟨g, k, none⟩ (.int .i64 y)).setCell ⟨g, k - 1, none⟩ (.int .i64 x)).drew :=
                ⟨k - 1, by omega, by congr 1; omega, (l'.set k y).set (k - 1) x, (swap_perm hpos HX.out HY.out).trans HP.out, hset, (grownBy_setCell (grownBy_setCell G5 k _) (k - 1) _).trans (grown_drew _ _)⟩
              first | exact hr2 | ((repeat apply Exists.intro); exact ⟨hr2, rfl⟩)
            case measure => simp [intOf]; omega
    · go_wp2_with fail
      go_end0
      exact ⟨rfl, HSI.out⟩

set_option maxRecDepth 100000 in
set_option maxHeartbeats 4000000 in
theorem pdq_any (g n c : Nat) (l : List Int) (rest : List Value) (lim : Int) (w : World) (hn : 2 ≤ n) (hn2 : n ≤ 12) (hl : l.length = n) (hB : Blk w g 3 (l.map (Value.int .i64) ++ rest)) :
    Calls Try.prog 94 #[.slice (some ⟨g, 0, none⟩) n c, .int .i64 0, .int .i64 n, .int .i64 lim] w fun e w' => e = .returned (.tuple #[]) ∧ Srt w g l rest w' := by
  have hins := insSort_any g n c l rest w hn (by omega) hl hB
  clear hl hB
  go_enter Try.func94, Try.ntmps94
  go_wp2_with fail
  go_loopw [1, 2] (fun a b wr => a = .int .i64 0 ∧ b = .int .i64 n ∧ w = wr) (fun _ _ _ => 0)
  case atStart => exact ⟨rfl, rfl, rfl⟩
  case round =>
    obtain ⟨rfl, rfl, rfl⟩ := hrel
    go_wp2_with fail
    refine hins.mono ?_; rintro e w1 ⟨rfl, hs⟩
    go_wp2_with fail
    exact bodyPost_ret (v := .tuple #[]) (by simp [results]) rfl ⟨rfl, hs⟩

set_option maxRecDepth 100000 in
set_option maxHeartbeats 8000000 in
theorem len64_any (n : Nat) (w : World) (hn : n ≤ 12) : Calls Try.prog 106 #[.int .u64 n] w fun e w' => (∃ m : Int, e = .returned (.int .i64 m)) ∧ w = w' := by
  have hc : n = 0 ∨ n = 1 ∨ n = 2 ∨ n = 3 ∨ n = 4 ∨ n = 5 ∨ n = 6 ∨ n = 7 ∨ n = 8 ∨ n = 9 ∨ n = 10 ∨ n = 11 ∨ n = 12 := by omega
  rcases hc with rfl | rfl | rfl | rfl | rfl | rfl | rfl | rfl | rfl | rfl | rfl | rfl | rfl
  all_goals
    go_enter Try.func106, Try.ntmps106
    go_wp2
    go_ret
    exact ⟨⟨_, rfl⟩, rfl⟩

set_option maxHeartbeats 2000000 in
theorem len_any (n : Nat) (w : World) (hn : n ≤ 12) : Calls Try.prog 95 #[.int .u64 n] w fun e w' => (∃ m : Int, e = .returned (.int .i64 m)) ∧ w = w' := by
  go_enter Try.func95, Try.ntmps95
  go_wp2_with (go_at_call 106; refine (len64_any n _ hn).mono ?_; rintro e w' ⟨⟨m, rfl⟩, rfl⟩)
  go_ret
  exact ⟨⟨_, rfl⟩, rfl⟩
set_option maxHeartbeats 2000000 in
theorem sort_any (g n c : Nat) (l : List Int) (rest : List Value) (w : World) (hn : 2 ≤ n) (hn2 : n ≤ 12) (hl : l.length = n) (hB : Blk w g 3 (l.map (Value.int .i64) ++ rest)) :
    Calls Try.prog 92 #[.slice (some ⟨g, 0, none⟩) n c] w fun e w' => e = .returned (.tuple #[]) ∧ Srt w g l rest w' := by
  have hp := fun m => pdq_any g n c l rest m w hn hn2 hl hB
  clear hl hB
  go_enter Try.func92, Try.ntmps92
  go_wp2_with fail
  refine (len_any n w hn2).mono ?_; rintro e w' ⟨⟨m, rfl⟩, rfl⟩
  go_wp2_with fail
  refine (hp m).mono ?_; rintro e w1 ⟨rfl, hs⟩
  go_wp2_with fail
  first | (go_end0; exact ⟨rfl, hs⟩) | exact bodyPost_ret (v := .tuple #[]) (by simp [results]) rfl ⟨rfl, hs⟩

end Go.Proofs.Ytgljelhglgeojaa