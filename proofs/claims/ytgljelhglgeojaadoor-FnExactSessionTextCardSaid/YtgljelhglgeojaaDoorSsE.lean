/- The text of a number: the reference's and the program's. Condition: the library's table of powers of ten lies as its initialiser lays it. -/
import Derived.Test.YtgljelhglgeojaaDoorSsD
import Derived.Test.YtgljelhglgeojaaDoorReg
namespace Go.Proofs.YtgljelhglgeojaaDoor
open Go.RowKit

theorem below_grow (w : World) (os : Array Obj) : Below w.heap.size w (Sort.grow w os) := ⟨rfl, rfl, rfl, by simp, fun _ hk => Sort.heap_grow_old w os hk⟩
def TabW (w : World) : Prop := Lib.TabIs Tryd.prog w "internal/strconv.uint64pow10" .u64 Lib.pow10Tab
theorem TabW.below {w w' : World} (h : TabW w) (hb : Below w.heap.size w w') : TabW w' := Joins.tab_stays (g := 0) (by kernel_rfl) h hb (Nat.le_refl _)
theorem itoa_any (n : Nat) (w : World) (hn : n ≤ 1000000000) (ht : TabW w) : Calls Tryd.prog 29 #[.int .i64 n] w fun e w' => e = .returned (.string (bs (Lib.decDigits n))) ∧ Below w.heap.size w w' := by
  refine (Tryd.strconv_Itoa (n : Int) (by omega) (by omega) w ht).mono ?_
  rintro e w' ⟨rfl, k, os, rfl⟩
  refine ⟨?_, ?_⟩
  · rw [Lib.itoa_nonneg]; rfl
  · exact ext_trans (ext_drewN (ext_refl w) k) (below_grow _ os)
set_option maxHeartbeats 1000000 in
theorem nuText_any (n : Nat) (w : World) (hn : n ≤ 1000000000) : Calls Tryd.prog 24 #[.int .i64 n] w fun e w' => e = .returned (.string (bs (numT n))) ∧ Below w.heap.size w w' := by
  go_enter Tryd.func24, Tryd.ntmps24
  go_wp2_with fail
  refine (nuForms_any n _ hn).mono ?_
  rintro e w1 ⟨A, c, rfl, hO, hb1⟩
  have hh := forms_head n
  have hlen : 0 < (formsTo n 3).length := (List.getElem?_eq_some_iff.1 hh).1
  have hcell : (strs (formsTo n 3))[0]? = some (.string (bs (numT n))) := by unfold strs; rw [List.getElem?_map, hh]; rfl
  have hr := Rd.of_own hO
  generalize (formsTo n 3).length = m at *
  obtain ⟨b, o, rfl, hbl, hc⟩ := hr.2 (by omega)
  have c0 := hc 0 _ hcell
  simp only [Nat.add_zero] at c0
  clear hcell hh hc hr hO
  go_wp2_with fail
  go_ret
  exact ⟨rfl, hb1⟩

set_option maxHeartbeats 2000000 in
theorem numberText_any (n : Nat) (w : World) (hn : n ≤ 1000000000) (ht : TabW w) : Calls Tryd.prog 28 #[.int .i64 n] w fun e w' => e = .returned (.string (bs (numT n))) ∧ Below w.heap.size w w' := by
  have a2 : (n : Int).tdiv 1000000 = ((n / 1000000 : Nat) : Int) := by rw [Int.tdiv_eq_ediv_of_nonneg (by omega)]; omega
  have a3 : (n : Int).tmod 1000000 = ((n % 1000000 : Nat) : Int) := by rw [Int.tmod_eq_emod_of_nonneg (by omega)]; omega
  have b2 : (n : Int).tdiv 1000 = ((n / 1000 : Nat) : Int) := by rw [Int.tdiv_eq_ediv_of_nonneg (by omega)]; omega
  have b3 : (n : Int).tmod 1000 = ((n % 1000 : Nat) : Int) := by rw [Int.tmod_eq_emod_of_nonneg (by omega)]; omega
  have hq : n / 1000000 ≤ 1000000000 := by omega
  have hp : n / 1000 ≤ 1000000000 := by omega
  have hT : numT n = if 0 < n ∧ n % 1000000 = 0 then Lib.decDigits (n / 1000000) ++ [109] else if 0 < n ∧ n % 1000 = 0 then Lib.decDigits (n / 1000) ++ [107] else Lib.decDigits n := rfl
  have s1 := dec_len _ hq
  have s2 := dec_len _ hp
  rw [hT]
  clear hT
  generalize n / 1000000 = q6 at *
  generalize n / 1000 = q3 at *
  generalize n % 1000000 = m6 at *
  generalize n % 1000 = m3 at *
  have t1 := itoa_any q6 w hq ht
  have t2 := itoa_any q3 w hp ht
  have t3 := itoa_any n w hn ht
  have z1 : ¬ 9223372036854775807 < (bs (Lib.decDigits q6)).size + (bs [109]).size := by rw [bs_size, bs_size]; simp; omega
  have z2 : ¬ 9223372036854775807 < (bs (Lib.decDigits q3)).size + (bs [107]).size := by rw [bs_size, bs_size]; simp; omega
  have u1 : (⟨#[109]⟩ : ByteArray) = bs [109] := rfl
  have u2 : (⟨#[107]⟩ : ByteArray) = bs [107] := rfl
  by_cases h0 : 0 < n
  · have g0 : (0 : Int) < (n : Int) := by omega
    by_cases h6 : m6 = 0
    · subst h6
      rw [if_pos ⟨h0, rfl⟩]
      go_enter Tryd.func28, Tryd.ntmps28
      go_wp2_with (go_at_call 29; refine t1.mono ?_; rintro e w1 ⟨rfl, hb1⟩)
      go_ret
      rw [bs_app]
      exact ⟨rfl, hb1⟩
    · have g6 : ¬ (m6 : Int) = 0 := by omega
      rw [if_neg (fun h => h6 h.2)]
      by_cases h3 : m3 = 0
      · subst h3
        rw [if_pos ⟨h0, rfl⟩]
        go_enter Tryd.func28, Tryd.ntmps28
        go_wp2_with (go_at_call 29; refine t2.mono ?_; rintro e w1 ⟨rfl, hb1⟩)
        go_ret
        rw [bs_app]
        exact ⟨rfl, hb1⟩
      · have g3 : ¬ (m3 : Int) = 0 := by omega
        rw [if_neg (fun h => h3 h.2)]
        go_enter Tryd.func28, Tryd.ntmps28
        go_wp2_with (go_at_call 29; refine t3.mono ?_; rintro e w1 ⟨rfl, hb1⟩)
        go_ret
        exact ⟨rfl, hb1⟩
  · have g0 : ¬ (0 : Int) < (n : Int) := by omega
    rw [if_neg (fun h => h0 h.1), if_neg (fun h => h0 h.1)]
    go_enter Tryd.func28, Tryd.ntmps28
    go_wp2_with (go_at_call 29; refine t3.mono ?_; rintro e w1 ⟨rfl, hb1⟩)
    go_ret
    exact ⟨rfl, hb1⟩

end Go.Proofs.YtgljelhglgeojaaDoor