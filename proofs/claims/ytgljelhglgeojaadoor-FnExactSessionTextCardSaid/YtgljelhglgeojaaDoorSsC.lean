/- Numbers as texts: the reference's recursion, the library's decimal numerals, the units. No condition. -/
import Derived.Test.YtgljelhglgeojaaDoorSsS
import Derived.Lib.ItoaNum
import Derived.Lib.ItoaLen
import Derived.Laws.BytesString
import Derived.Deep.DeepFit
import Derived.Deep.RegionLaw
namespace Go.Proofs.YtgljelhglgeojaaDoor
open Go.RowKit

def bs (l : List UInt8) : ByteArray := ⟨l.toArray⟩

theorem bs_size (l : List UInt8) : (bs l).size = l.length := by simp [bs, ByteArray.size]
theorem bs_app (a b : List UInt8) : bs a ++ bs b = bs (a ++ b) := by
  apply ByteArray.ext
  simp [bs, ByteArray.data_append]
theorem dec_len (n : Nat) (h : n ≤ 1000000000) : (Lib.decDigits n).length ≤ 20 := by rw [Lib.decDigits_length]; exact Lib.nDigits_le20 n (by omega)
def dig (k : Nat) : UInt8 := UInt8.ofNat (48 + k)
theorem run_digit (W : World) (g k : Nat) (z : Int) (hz : z = 48 + (k : Int)) (h : W.cell? ⟨g, 0, none⟩ = some (.int .u8 z)) : (convert 49 9 (.slice (some ⟨g, 0, none⟩) 1 1)).run Tryd.prog W = .ok (.string (bs [dig k])) W := by
  have e : dig k = UInt8.ofNat z.toNat := by unfold dig; congr 1; omega
  rw [e, run_convert_bytes_string W 49 9 5 _ _ _ Tryd.underlying49 Tryd.underlying5 Tryd.underlying9]
  rw [run_bytesToString W ⟨g, 0, none⟩ 1 1 [z] ?_]
  · rfl
  · exact run_loadCells_list W ⟨g, 0, none⟩ [Value.int .u8 z] (by
      intro j v hj
      cases j with
      | zero =>
        have e : (⟨g, 0, none⟩ : Addr).add 0 = ⟨g, 0, none⟩ := by simp [Addr.add]
        rw [e, h]; exact hj
      | succ j => simp at hj)
theorem dec_small {n : Nat} (h : n < 10) : Lib.decDigits n = [dig n] := by rw [Lib.decDigits, dif_pos h]; rfl
theorem dec_big {n q r : Nat} (h : ¬ n < 10) (hq : n = 10 * q + r) (hr : r < 10) : Lib.decDigits n = Lib.decDigits q ++ [dig r] := by
  rw [Lib.decDigits, dif_neg h]
  have e1 : n / 10 = q := by omega
  have e2 : n % 10 = r := by omega
  rw [e1, e2]; rfl
set_option maxHeartbeats 1000000 in
theorem l1Num_small (n : Nat) (w : World) (h : n < 10) : Calls Tryd.prog 12 #[.int .i64 n] w fun e w' => e = .returned (.string (bs (Lib.decDigits n))) ∧ Below w.heap.size w w' := by
  have hcv := run_digit (w.alloc (.cells #[.int .u8 (48 + (n : Int))] 5)) w.heap.size n (48 + (n : Int)) rfl (by simp)
  have e2 : (n : Int) < 10 := by omega
  rw [dec_small h]
  go_enter Tryd.func12, Tryd.ntmps12
  go_wp2_with fail
  go_ret
  exact ⟨rfl, (ext_refl w).alloc (Nat.le_refl _) _⟩
theorem new_cell {w w4 : World} {t : TypeId} {v : Value} (h : Below (w.alloc (.cells #[v] t)).drew.heap.size (w.alloc (.cells #[v] t)).drew w4) : w4.cell? ⟨w.heap.size, 0, none⟩ = some v :=
  (h.cell (p := ⟨w.heap.size, 0, none⟩) (by simp)).trans (by simp)
set_option maxHeartbeats 2000000 in
theorem l1Num_any : ∀ (f n : Nat) (w : World), n ≤ f → n ≤ 1000000000 → Calls Tryd.prog 12 #[.int .i64 n] w fun e w' => e = .returned (.string (bs (Lib.decDigits n))) ∧ Below w.heap.size w w' := by
  intro f
  induction f with
  | zero =>
    intro n w h1 h2
    exact l1Num_small n w (by omega)
  | succ f ih =>
    intro n w h1 h2
    by_cases h : n < 10
    · exact l1Num_small n w h
    · have e1 : ¬ (n : Int) < 10 := by omega
      obtain ⟨q, r, hn, hr10⟩ : ∃ q r, n = 10 * q + r ∧ r < 10 := ⟨n / 10, n % 10, by omega, by omega⟩
      have e2 : (n : Int).tdiv 10 = (q : Int) := by rw [Int.tdiv_eq_ediv_of_nonneg (by omega)]; omega
      have e3 : (n : Int).tmod 10 = (r : Int) := by rw [Int.tmod_eq_emod_of_nonneg (by omega)]; omega
      have ihq := fun W => ih q W (by omega) (by omega)
      have hd := dec_big h hn hr10
      rw [hd]
      have w1 : IntKind.i64.wrap (q : Int) = q := IntWalk.i64_in _ (by omega)
      have w2 : IntKind.i64.wrap (48 + (r : Int)) = 48 + r := IntWalk.i64_in _ (by omega)
      have w3 : IntKind.u8.wrap (48 + (r : Int)) = 48 + r := IntWalk.u8_in _ (by omega)
      have hcv := fun W g => run_digit W g r (48 + (r : Int)) rfl
      have hsz : ¬ 9223372036854775807 < (bs (Lib.decDigits q)).size + (bs [dig r]).size := by have := dec_len q (by omega); rw [bs_size, bs_size, List.length_singleton]; omega
      clear hn hd ih h
      go_enter Tryd.func12, Tryd.ntmps12
      go_wp2_with fail
      go_region_law (first | (go_simp; go_at_call 12; refine (ihq _).mono ?_; rintro e w4 ⟨rfl, hb4⟩; (first | (have hz4 : Below w.heap.size w w4 := ext_trans (ext_drew (ext_refl w)) hb4) | (have hz4 : Below w.heap.size w w4 := ext_trans (ext_drew (ext_alloc (ext_refl w) (.cells #[.int .u8 (48 + (r : Int))] 5))) hb4; have cz : w4.cell? ⟨w.heap.size, 0, none⟩ = some (.int .u8 (48 + (r : Int))) := new_cell hb4))) | fail)
      all_goals
        change Exit.then _ _ Exit.normal (Act.put (Act.put _ (some 19) _) (some 2) _) _
        simp only [Act.put, List.setIfInBounds_toArray, List.set_cons_zero, List.set_cons_succ]
        go_wp2_with fail
        go_ret
        rw [bs_app]
        first | exact ⟨rfl, hz4⟩ | exact ⟨rfl, ext_alloc hz4 _⟩
end Go.Proofs.YtgljelhglgeojaaDoor
