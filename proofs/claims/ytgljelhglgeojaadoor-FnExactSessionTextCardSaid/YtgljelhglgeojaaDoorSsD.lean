/- The texts of a number: the reference's forms, the program's text. No condition. -/
import Derived.Test.YtgljelhglgeojaaDoorSsC
namespace Go.Proofs.YtgljelhglgeojaaDoor
open Go.RowKit

def usz : Nat → Nat
  | 0 => 1000000
  | 1 => 1000
  | _ => 1
def uun : Nat → List UInt8
  | 0 => [109]
  | 1 => [107]
  | _ => []
def fmOk (n k : Nat) : Bool := (n % usz k == 0) && (decide (0 < n) || k == 2)
def fm (n k : Nat) : List UInt8 := Lib.decDigits (n / usz k) ++ uun k
def formsTo (n k : Nat) : List (List UInt8) := ((List.range k).filter (fmOk n)).map (fm n)
theorem formsTo_succ (n k : Nat) : formsTo n (k + 1) = formsTo n k ++ (if fmOk n k then [fm n k] else []) := by
  unfold formsTo
  rw [List.range_succ, List.filter_append, List.map_append]
  congr 1
  cases h : fmOk n k <;> simp [h]
theorem formsTo_len (n k : Nat) : (formsTo n k).length ≤ k := by
  unfold formsTo
  rw [List.length_map]
  exact Nat.le_trans (List.length_filter_le _ _) (by simp)
/-- The text of a number. -/
def numT (n : Nat) : List UInt8 := if 0 < n ∧ n % 1000000 = 0 then Lib.decDigits (n / 1000000) ++ [109] else if 0 < n ∧ n % 1000 = 0 then Lib.decDigits (n / 1000) ++ [107] else Lib.decDigits n
theorem forms_head (n : Nat) : (formsTo n 3)[0]? = some (numT n) := by
  have e : formsTo n 3 = ((((if fmOk n 0 then [fm n 0] else []) ++ (if fmOk n 1 then [fm n 1] else [])) ++ (if fmOk n 2 then [fm n 2] else []))) := by
    rw [formsTo_succ, formsTo_succ, formsTo_succ]; rfl
  rw [e]
  have h2 : fmOk n 2 = true := by simp [fmOk, usz, Nat.mod_one]
  have h3 : fm n 2 = Lib.decDigits n := by simp [fm, usz, uun]
  have h0 : fmOk n 0 = decide (0 < n ∧ n % 1000000 = 0) := by rw [Bool.eq_iff_iff]; simp [fmOk, usz, and_comm]
  have h1 : fmOk n 1 = decide (0 < n ∧ n % 1000 = 0) := by rw [Bool.eq_iff_iff]; simp [fmOk, usz, and_comm]
  rw [h0, h1, h2, h3]
  unfold numT
  by_cases c0 : 0 < n ∧ n % 1000000 = 0
  · rw [decide_eq_true c0, if_pos c0]; rfl
  · rw [decide_eq_false c0, if_neg c0]
    by_cases c1 : 0 < n ∧ n % 1000 = 0
    · rw [decide_eq_true c1, if_pos c1]; rfl
    · rw [decide_eq_false c1, if_neg c1]; rfl
theorem numT_len (n : Nat) (h : n ≤ 1000000000) : (numT n).length ≤ 21 := by
  have h0 := dec_len (n / 1000000) (by omega)
  have h1 := dec_len (n / 1000) (by omega)
  have h2 := dec_len n h
  unfold numT
  split
  · simp; omega
  · split
    · simp; omega
    · omega
def strs (l : List (List UInt8)) : List Value := l.map fun x => Value.string (bs x)
theorem infoStr : (Tryd.prog.info? 9).map (fun i => (i.zero, i.size, i.bytes)) = some (some (.string (bs [])), 1, 16) := by kernel_rfl
/-- A row of texts built by append. -/
def OwnT (w : World) (v : Value) (l : List (List UInt8)) (wr : World) : Prop := wr.ownsRow w.heap.size 9 1 v l.length (strs l) ∧ Below w.heap.size w wr
theorem ownT_nil {w wr : World} (hb : Below w.heap.size w wr) : OwnT w (.slice none 0 0) [] wr := ⟨World.ownsRow_nil _ _ _ _, hb⟩
theorem ownT_push {w wr w1 : World} {v v' : Value} {l : List (List UInt8)} {x : List UInt8} {ob : Obj} (h : OwnT w v l wr) (h1 : w1.ownsRow w.heap.size 9 1 v' (l.length + 1) (strs l ++ [.string (bs x)])) (hg : (wr.alloc ob).grownBy w1 v.ownBlock) : OwnT w v' (l ++ [x]) w1 := by
  refine ⟨by simpa [strs] using h1, (ext_alloc h.2 ob).grown hg (ext_alloc h.2 ob).size (fun k hk => (h.1.lt k hk).1)⟩
theorem ownT_ext {w wr w1 : World} {v : Value} {l : List (List UInt8)} (h : OwnT w v l wr) (hb : Below wr.heap.size wr w1) : OwnT w v l w1 := ⟨own_ext h.1 hb, ext_trans h.2 hb⟩
set_option maxHeartbeats 1000000 in
theorem nuSize_any (k : Nat) (w : World) (hk : k < 3) : Calls Tryd.prog 37 #[.int .i64 k] w fun e w' => e = .returned (.int .i64 (usz k : Nat)) ∧ Below w.heap.size w w' := by
  have hc : k = 0 ∨ k = 1 ∨ k = 2 := by omega
  rcases hc with rfl | rfl | rfl
  all_goals
    go_enter Tryd.func37, Tryd.ntmps37
    go_wp2_with fail
    go_ret
    exact ⟨rfl, (ext_refl w).alloc (Nat.le_refl _) _⟩
theorem nuUnits_any (w : World) : Calls Tryd.prog 36 #[] w fun e w' => e = .returned (.slice (some ⟨w.heap.size, 0, none⟩) 3 3) ∧ w' = w.alloc (.cells (strs [[109], [107], []]).toArray 9) := by
  go_enter Tryd.func36, Tryd.ntmps36
  go_wp2_with fail
  go_ret
  exact ⟨rfl, rfl⟩
def FmRel (w1 : World) (n : Nat) (v i : Value) (wr : World) : Prop := ∃ k : Nat, k ≤ 3 ∧ i = .int .i64 (k : Int) ∧ OwnT w1 v (formsTo n k) wr

set_option maxHeartbeats 4000000 in
theorem nuForms_any (n : Nat) (w : World) (hn : n ≤ 1000000000) : Calls Tryd.prog 31 #[.int .i64 n] w fun e w' => ∃ A c, e = .returned (.slice A (formsTo n 3).length c) ∧ w'.ownsRow w.heap.size 9 1 (.slice A (formsTo n 3).length c) (formsTo n 3).length (strs (formsTo n 3)) ∧ Below w.heap.size w w' := by
  obtain ⟨i0, hi, hz0, hz1, hz2⟩ := info_parts infoStr
  go_enter Tryd.func31, Tryd.ntmps31
  go_wp2_with (go_at_call 36; refine (nuUnits_any _).mono ?_; rintro e w1 ⟨rfl, rfl⟩)
  have hbu := Blk.new w 9 (strs [[109], [107], []])
  have hbz := (ext_refl w).alloc (Nat.le_refl _) (.cells (strs [[109], [107], []]).toArray 9)
  generalize (w.alloc (.cells (strs [[109], [107], []]).toArray 9)) = w1 at hbu hbz ⊢
  go_loopw [3, 8] (FmRel w1 n) (fun _ i _ => 3 - (intOf i).toNat)
  case atStart => exact ⟨0, Nat.zero_le _, rfl, ownT_nil (ext_refl w1)⟩
  case round =>
    obtain ⟨k, hk, rfl, hO⟩ := hrel
    have hbr := (hbu.below hO.2)
    have hlt1 := hbr.lt
    have hsu := formsTo_succ n k
    have hlo := formsTo_len n k
    by_cases hlt : k < 3
    · have hc : k = 0 ∨ k = 1 ∨ k = 2 := by omega
      rcases hc with rfl | rfl | rfl
      · have e2 : (n : Int).tdiv 1000000 = ((n / 1000000 : Nat) : Int) := by rw [Int.tdiv_eq_ediv_of_nonneg (by omega)]; omega
        have e3 : (n : Int).tmod 1000000 = ((n % 1000000 : Nat) : Int) := by rw [Int.tmod_eq_emod_of_nonneg (by omega)]; omega
        have hq : n / 1000000 ≤ 1000000000 := by omega
        have hok : fmOk n 0 = ((n % 1000000 == 0) && (decide (0 < n) || false)) := rfl
        have hfm : fm n 0 = Lib.decDigits (n / 1000000) ++ [109] := rfl
        have cu : wr.cell? ⟨w.heap.size, 0, none⟩ = some (.string (bs [109])) := hbr.cell 0
        have hsz := dec_len _ hq
        rw [hok, hfm] at hsu
        generalize n / 1000000 = q at e2 hq hsu hsz
        have hmz : n % 1000000 < 1000000 := Nat.mod_lt _ (by omega)
        generalize n % 1000000 = m at e3 hsu hmz
        generalize formsTo n 0 = l at hO hsu hlo
        have HSU := Lib.hid hsu
        have HLO := Lib.hid hlo
        have hbd := hO.2.size
        clear hsu hlo hok hfm hbr
        have hns : ∀ W, Calls Tryd.prog 37 #[.int .i64 0] W fun e w' => e = .returned (.int .i64 1000000) ∧ Below W.heap.size W w' := fun W => nuSize_any 0 W (by omega)
        have hln := fun W => l1Num_any q q W (Nat.le_refl _) hq
        have hss : ¬ 9223372036854775807 < (bs (Lib.decDigits q)).size + (bs [109]).size := by rw [bs_size, bs_size]; simp; omega
        clear hbu
        by_cases hm : m = 0
        · subst hm
          by_cases h0 : 0 < n
          · have g0 : (0 : Int) < (n : Int) := by omega
            go_wp2_with (first | (go_at_call 37; refine (hns _).mono ?_; rintro e w2 ⟨rfl, hb2⟩; have hO := ownT_ext hO hb2) | (go_at_call 12; refine (hln _).mono ?_; rintro e w5 ⟨rfl, hb5⟩; have hO := ownT_ext hO hb5) | (at_builtin; refine wpList_append_own _ rfl (.tmp 26) (.tmp 34) 50 rfl w1.heap.size 9 i0 (.string (bs [])) 1 16 Tryd.underlying50 hi hz0 hz1 hz2 rfl (by decide) _ _ _ rfl (hO.1.alloc _) ⟨w5.heap.size, 0, none⟩ 1 1 [.string (bs (Lib.decDigits q) ++ bs [109])] rfl rfl ?a1p ?a1q ?a1r ?a1s ?a1t ?_))
            case a1p => exact cell_one_new _ _ _
            case a1q => simp [Value.oneCell']
            case a1r => have := HLO.out; unfold maxLen; omega
            case a1s => have := HLO.out; omega
            case a1t => have := hO.2.size; simp; omega
            intro v' w6 hown1 hg1 _
            rw [bs_app] at hown1
            have hO3 := ownT_push hO hown1 hg1
            have HO3 := Lib.hid hO3
            clear hO3 hown1 hg1 hO
            go_wp2_with fail
            go_roundw
            case rel => first | exact ⟨1, by omega, by simp, by rw [HSU.out]; simpa [h0] using HO3.out⟩ | ((repeat apply Exists.intro); exact ⟨⟨1, by omega, by simp, by rw [HSU.out]; simpa [h0] using HO3.out⟩, rfl⟩)
            case measure => simp [intOf]
          · have g0 : ¬ (0 : Int) < (n : Int) := by omega
            have hbe : (bs [109]).toList.isEmpty = false := by kernel_rfl
            have HO := Lib.hid hO
            clear hO
            go_wp2_with (go_at_call 37; refine (hns _).mono ?_; rintro e w2 ⟨rfl, hb2⟩)
            go_roundw
            case rel => exact ⟨1, by omega, by simp, by rw [HSU.out]; simpa [h0] using ownT_ext HO.out hb2⟩
            case measure => simp [intOf]
        · have hm2 : ¬ (m : Int) = 0 := by omega
          have HO := Lib.hid hO
          clear hO
          go_wp2_with (go_at_call 37; refine (hns _).mono ?_; rintro e w2 ⟨rfl, hb2⟩)
          go_roundw
          case rel => exact ⟨1, by omega, by simp, by rw [HSU.out]; simpa [hm] using ownT_ext HO.out hb2⟩
          case measure => simp [intOf]
      · have e2 : (n : Int).tdiv 1000 = ((n / 1000 : Nat) : Int) := by rw [Int.tdiv_eq_ediv_of_nonneg (by omega)]; omega
        have e3 : (n : Int).tmod 1000 = ((n % 1000 : Nat) : Int) := by rw [Int.tmod_eq_emod_of_nonneg (by omega)]; omega
        have hq : n / 1000 ≤ 1000000000 := by omega
        have hok : fmOk n 1 = ((n % 1000 == 0) && (decide (0 < n) || false)) := rfl
        have hfm : fm n 1 = Lib.decDigits (n / 1000) ++ [107] := rfl
        have cu : wr.cell? ⟨w.heap.size, 1, none⟩ = some (.string (bs [107])) := hbr.cell 1
        have hsz := dec_len _ hq
        rw [hok, hfm] at hsu
        generalize n / 1000 = q at e2 hq hsu hsz
        have hmz : n % 1000 < 1000 := Nat.mod_lt _ (by omega)
        generalize n % 1000 = m at e3 hsu hmz
        generalize formsTo n 1 = l at hO hsu hlo
        have HSU := Lib.hid hsu
        have HLO := Lib.hid hlo
        have hbd := hO.2.size
        clear hsu hlo hok hfm hbr
        have hns : ∀ W, Calls Tryd.prog 37 #[.int .i64 1] W fun e w' => e = .returned (.int .i64 1000) ∧ Below W.heap.size W w' := fun W => nuSize_any 1 W (by omega)
        have hln := fun W => l1Num_any q q W (Nat.le_refl _) hq
        have hss : ¬ 9223372036854775807 < (bs (Lib.decDigits q)).size + (bs [107]).size := by rw [bs_size, bs_size]; simp; omega
        clear hbu
        by_cases hm : m = 0
        · subst hm
          by_cases h0 : 0 < n
          · have g0 : (0 : Int) < (n : Int) := by omega
            go_wp2_with (first | (go_at_call 37; refine (hns _).mono ?_; rintro e w2 ⟨rfl, hb2⟩; have hO := ownT_ext hO hb2) | (go_at_call 12; refine (hln _).mono ?_; rintro e w5 ⟨rfl, hb5⟩; have hO := ownT_ext hO hb5) | (at_builtin; refine wpList_append_own _ rfl (.tmp 26) (.tmp 34) 50 rfl w1.heap.size 9 i0 (.string (bs [])) 1 16 Tryd.underlying50 hi hz0 hz1 hz2 rfl (by decide) _ _ _ rfl (hO.1.alloc _) ⟨w5.heap.size, 0, none⟩ 1 1 [.string (bs (Lib.decDigits q) ++ bs [107])] rfl rfl ?b1p ?b1q ?b1r ?b1s ?b1t ?_))
            case b1p => exact cell_one_new _ _ _
            case b1q => simp [Value.oneCell']
            case b1r => have := HLO.out; unfold maxLen; omega
            case b1s => have := HLO.out; omega
            case b1t => have := hO.2.size; simp; omega
            intro v' w6 hown1 hg1 _
            rw [bs_app] at hown1
            have hO3 := ownT_push hO hown1 hg1
            have HO3 := Lib.hid hO3
            clear hO3 hown1 hg1 hO
            go_wp2_with fail
            go_roundw
            case rel => first | exact ⟨2, by omega, by simp, by rw [HSU.out]; simpa [h0] using HO3.out⟩ | ((repeat apply Exists.intro); exact ⟨⟨2, by omega, by simp, by rw [HSU.out]; simpa [h0] using HO3.out⟩, rfl⟩)
            case measure => simp [intOf]
          · have g0 : ¬ (0 : Int) < (n : Int) := by omega
            have hbe : (bs [107]).toList.isEmpty = false := by kernel_rfl
            have HO := Lib.hid hO
            clear hO
            go_wp2_with (go_at_call 37; refine (hns _).mono ?_; rintro e w2 ⟨rfl, hb2⟩)
            go_roundw
            case rel => exact ⟨2, by omega, by simp, by rw [HSU.out]; simpa [h0] using ownT_ext HO.out hb2⟩
            case measure => simp [intOf]
        · have hm2 : ¬ (m : Int) = 0 := by omega
          have HO := Lib.hid hO
          clear hO
          go_wp2_with (go_at_call 37; refine (hns _).mono ?_; rintro e w2 ⟨rfl, hb2⟩)
          go_roundw
          case rel => exact ⟨2, by omega, by simp, by rw [HSU.out]; simpa [hm] using ownT_ext HO.out hb2⟩
          case measure => simp [intOf]
      · have e2 : (n : Int).tdiv 1 = ((n / 1 : Nat) : Int) := by rw [Int.tdiv_eq_ediv_of_nonneg (by omega)]; omega
        have e3 : (n : Int).tmod 1 = ((n % 1 : Nat) : Int) := by rw [Int.tmod_eq_emod_of_nonneg (by omega)]; omega
        have hq : n / 1 ≤ 1000000000 := by omega
        have hok : fmOk n 2 = ((n % 1 == 0) && (decide (0 < n) || true)) := rfl
        have hfm : fm n 2 = Lib.decDigits (n / 1) ++ [] := rfl
        have cu : wr.cell? ⟨w.heap.size, 2, none⟩ = some (.string (bs [])) := hbr.cell 2
        have hsz := dec_len _ hq
        rw [hok, hfm] at hsu
        generalize n / 1 = q at e2 hq hsu hsz
        have hmz : n % 1 < 1 := Nat.mod_lt _ (by omega)
        generalize n % 1 = m at e3 hsu hmz
        generalize formsTo n 2 = l at hO hsu hlo
        have HSU := Lib.hid hsu
        have HLO := Lib.hid hlo
        have hbd := hO.2.size
        clear hsu hlo hok hfm hbr
        have hns : ∀ W, Calls Tryd.prog 37 #[.int .i64 2] W fun e w' => e = .returned (.int .i64 1) ∧ Below W.heap.size W w' := fun W => nuSize_any 2 W (by omega)
        have hln := fun W => l1Num_any q q W (Nat.le_refl _) hq
        have hss : ¬ 9223372036854775807 < (bs (Lib.decDigits q)).size + (bs []).size := by rw [bs_size, bs_size]; simp; omega
        clear hbu
        obtain rfl : m = 0 := by omega
        by_cases h0 : 0 < n
        · have g0 : (0 : Int) < (n : Int) := by omega
          go_wp2_with (first | (go_at_call 37; refine (hns _).mono ?_; rintro e w2 ⟨rfl, hb2⟩; have hO := ownT_ext hO hb2) | (go_at_call 12; refine (hln _).mono ?_; rintro e w5 ⟨rfl, hb5⟩; have hO := ownT_ext hO hb5) | (at_builtin; refine wpList_append_own _ rfl (.tmp 26) (.tmp 34) 50 rfl w1.heap.size 9 i0 (.string (bs [])) 1 16 Tryd.underlying50 hi hz0 hz1 hz2 rfl (by decide) _ _ _ rfl (hO.1.alloc _) ⟨w5.heap.size, 0, none⟩ 1 1 [.string (bs (Lib.decDigits q) ++ bs [])] rfl rfl ?c1p ?c1q ?c1r ?c1s ?c1t ?_))
          case c1p => exact cell_one_new _ _ _
          case c1q => simp [Value.oneCell']
          case c1r => have := HLO.out; unfold maxLen; omega
          case c1s => have := HLO.out; omega
          case c1t => have := hO.2.size; simp; omega
          intro v' w6 hown1 hg1 _
          rw [bs_app] at hown1
          have hO3 := ownT_push hO hown1 hg1
          have HO3 := Lib.hid hO3
          clear hO3 hown1 hg1 hO
          go_wp2_with fail
          go_roundw
          case rel => first | exact ⟨3, by omega, by simp, by rw [HSU.out]; simpa [h0] using HO3.out⟩ | ((repeat apply Exists.intro); exact ⟨⟨3, by omega, by simp, by rw [HSU.out]; simpa [h0] using HO3.out⟩, rfl⟩)
          case measure => simp [intOf]
        · have g0 : ¬ (0 : Int) < (n : Int) := by omega
          have hbe : (bs []).toList.isEmpty = true := by kernel_rfl
          go_wp2_with (first | (go_at_call 37; refine (hns _).mono ?_; rintro e w2 ⟨rfl, hb2⟩; have hO := ownT_ext hO hb2) | (go_at_call 12; refine (hln _).mono ?_; rintro e w5 ⟨rfl, hb5⟩; have hO := ownT_ext hO hb5) | (at_builtin; refine wpList_append_own _ rfl (.tmp 26) (.tmp 34) 50 rfl w1.heap.size 9 i0 (.string (bs [])) 1 16 Tryd.underlying50 hi hz0 hz1 hz2 rfl (by decide) _ _ _ rfl (hO.1.alloc _) ⟨w5.heap.size, 0, none⟩ 1 1 [.string (bs (Lib.decDigits q) ++ bs [])] rfl rfl ?c2p ?c2q ?c2r ?c2s ?c2t ?_))
          case c2p => exact cell_one_new _ _ _
          case c2q => simp [Value.oneCell']
          case c2r => have := HLO.out; unfold maxLen; omega
          case c2s => have := HLO.out; omega
          case c2t => have := hO.2.size; simp; omega
          intro v' w6 hown1 hg1 _
          rw [bs_app] at hown1
          have hO3 := ownT_push hO hown1 hg1
          have HO3 := Lib.hid hO3
          clear hO3 hown1 hg1 hO
          go_wp2_with fail
          go_roundw
          case rel => first | exact ⟨3, by omega, by simp, by rw [HSU.out]; simpa [h0] using HO3.out⟩ | ((repeat apply Exists.intro); exact ⟨⟨3, by omega, by simp, by rw [HSU.out]; simpa [h0] using HO3.out⟩, rfl⟩)
          case measure => simp [intOf]
    · obtain rfl : k = 3 := by omega
      go_wp2_with fail
      go_ret
      obtain ⟨A, c, rfl⟩ := own_shape hO.1
      exact ⟨A, c, rfl, own_base hO.1 hbz.size, ext_trans hbz hO.2⟩

end Go.Proofs.YtgljelhglgeojaaDoor