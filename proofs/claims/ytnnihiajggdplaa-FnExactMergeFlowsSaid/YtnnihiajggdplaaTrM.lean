/- Mixes: contracts of MixOf and NumberFor, the program's and the reference's; the laws' walks. -/
import Derived.Test.YtnnihiajggdplaaTrA
import Derived.Test.YtnnihiajggdplaaApp
import Derived.Deep.RegionHeld3
namespace Go.Proofs.Ytnnihiajggdplaa
open Go.RowKit

def mixStep (a x : Int) : Int := ((31 * a + x + 7) % 1000003) * (((31 * a + x + 7) % 1000003) / 32 + 3) % 1000003
def mixFold (a : Int) (l : List Int) : Int := l.foldl mixStep a
def mixR (l : List Int) : Int := mixFold (7919 + l.length) (l ++ [3, 1])
theorem mix_bd (a x : Int) : 0 ≤ mixStep a x ∧ mixStep a x < 1000003 := by unfold mixStep; omega
theorem mixFold_bd (l : List Int) : ∀ a : Int, 0 ≤ a → a ≤ 10000000 → 0 ≤ mixFold a l ∧ mixFold a l ≤ 10000000 := by
  induction l with
  | nil => intro a h0 h1; exact ⟨h0, h1⟩
  | cons x l ih => intro a h0 h1; have := mix_bd a x; exact ih _ (by omega) (by omega)
theorem mixFold_snoc (a : Int) (l : List Int) (x : Int) : mixFold a (l ++ [x]) = mixStep (mixFold a l) x := by simp [mixFold]
theorem mixR_bd (l : List Int) : 0 ≤ mixR l ∧ mixR l < 1000003 := by
  unfold mixR
  rw [show l ++ [3, 1] = (l ++ [3]) ++ [1] by simp, mixFold_snoc]
  exact mix_bd _ _
theorem prod_bd (b : Int) (h0 : 0 ≤ b) (h1 : b ≤ 1000002) : 0 ≤ b * (b / 32 + 3) ∧ b * (b / 32 + 3) ≤ 1000000000000 := by
  have q0 : 0 ≤ b / 32 + 3 := by omega
  have q1 : b / 32 + 3 ≤ 31254 := by omega
  have := mul_bd h0 h1 q0 q1
  omega
def keyOk (x : Int) : Bool := inB x 0 1000000000
def keysB (l : List Int) : Bool := decide (l.length ≤ 8) && l.all fun x => inB x 0 1000000000
def MixRel (n : Nat) (ys : List Int) (a0 : Int) (a i : Value) : Prop := ∃ k : Nat, k ≤ n ∧ i = .int .i64 k ∧ a = .int .i64 (mixFold a0 (ys.take k))
theorem infoIntT : (Try.prog.info? 3).map (fun i => (i.zero, i.size, i.bytes)) = some (some (.int .i64 0), 1, 8) := by kernel_rfl
theorem all_getT {α : Type} {xs : List α} {f : α → Bool} (h : xs.all f = true) {k : Nat} {x : α} (hx : xs[k]? = some x) : f x = true := List.all_eq_true.1 h x (List.mem_of_getElem? hx)
def RetRow (t : TypeId) (w : World) (xs : List Int) (e : Ending) (w' : World) : Prop := ∃ A c, e = .returned (.slice A xs.length c) ∧ w'.ownsRow w.heap.size t 1 (.slice A xs.length c) xs.length (xs.map (Value.int .i64)) ∧ Below w.heap.size w w'
theorem retRow_own {t : TypeId} {w w' : World} {xs : List Int} {v : Value} {n : Nat} (hn : n = xs.length) (ho : w'.ownsRow w.heap.size t 1 v n (xs.map (Value.int .i64))) (hb : Below w.heap.size w w') : RetRow t w xs (.returned v) w' := by
  subst hn
  obtain ⟨A, c, rfl⟩ := own_shape ho
  exact ⟨A, c, rfl, ho, hb⟩

set_option maxHeartbeats 1000000 in
theorem l1Own_any (A : Option Addr) (n c : Nat) (xs : List Int) (w : World) (hn : n ≤ 1048576) (hr : Rd w 1 A n (xs.map (Value.int .i64))) :
    Calls Try.prog 77 #[.slice A n c] w (RetRow 3 w xs) := by
  obtain ⟨i0, hi, hz0, hz1, hz2⟩ := info_parts infoIntT
  have HL := Lib.hid hr.len1
  go_enter Try.func77, Try.ntmps77
  go_wp2_with (at_builtin; refine wpList_append_rd (size := 1) (bytes := 8) (base := w.heap.size) rfl (.tmp 3) (.tmp 4) rfl Try.underlying28 hi hz0 hz1 hz2 rfl (by decide) rfl (World.ownsRow_made w #[] 0 (Nat.le_refl _) (by unfold maxLen; omega) (by simp)) A n c (xs.map (Value.int .i64)) rfl (hr.alloc _) (ints_one xs) ?a1 ?a2 ?a3 ?_)
  case a1 => unfold maxLen; omega
  case a2 => omega
  case a3 => simp
  intro v' w1 ho hg
  go_wp2_with fail
  go_ret
  exact retRow_own (n := n) (by rw [HL.out]) (by simpa using ho) ((ext_alloc (ext_refl w) _).grown hg (by simp) (fun k hk => by simp [Value.ownBlock] at hk <;> omega))

set_option maxHeartbeats 1000000 in
theorem clone_any (A : Option Addr) (n c : Nat) (xs : List Int) (w : World) (hn : n ≤ 1048576) (hr : Rd w 1 A n (xs.map (Value.int .i64))) :
    Calls Try.prog 57 #[.slice A n c] w (RetRow 3 w xs) := by
  obtain ⟨i0, hi, hz0, hz1, hz2⟩ := info_parts infoIntT
  have HL := Lib.hid hr.len1
  cases A with
  | none =>
    obtain rfl : n = 0 := by
      rcases Nat.eq_zero_or_pos n with h | h
      · exact h
      · obtain ⟨b, o, he, _⟩ := hr.2 h; cases he
    have hx : xs = [] := List.eq_nil_of_length_eq_zero (by rw [HL.out])
    subst hx
    have g0 := fun W => Lib.run_eql_slice_nil (P := Try.prog) W 28 3 none 0 c 0 0 Try.underlying28
    simp only [Option.isNone] at g0
    go_enter Try.func57, Try.ntmps57
    go_wp2_with fail
    go_ret
    exact ⟨none, 0, rfl, World.ownsRow_nil _ _ _ _, ext_refl w⟩
  | some ad =>
    have g0 := fun W => Lib.run_eql_slice_nil (P := Try.prog) W 28 3 (some ad) n c 0 0 Try.underlying28
    simp only [Option.isNone] at g0
    go_enter Try.func57, Try.ntmps57
    go_wp2_with (at_builtin; refine wpList_append_rd (size := 1) (bytes := 8) (base := w.heap.size) rfl (.tmp 5) (.tmp 6) rfl Try.underlying28 hi hz0 hz1 hz2 rfl (by decide) rfl (World.ownsRow_made w #[] 0 (Nat.le_refl _) (by unfold maxLen; omega) (by simp)) (some ad) n c (xs.map (Value.int .i64)) rfl (hr.alloc _) (ints_one xs) ?a1 ?a2 ?a3 ?_)
    case a1 => unfold maxLen; omega
    case a2 => omega
    case a3 => simp
    intro v' w1 ho hg
    go_wp2_with fail
    go_ret
    exact retRow_own (n := n) (by rw [HL.out]) (by simpa using ho) ((ext_alloc (ext_refl w) _).grown hg (by simp) (fun k hk => by simp [Value.ownBlock] at hk <;> omega))

set_option maxHeartbeats 2000000 in
theorem tfMix_any (A : Option Addr) (n c : Nat) (xs : List Int) (w : World) (hn : n ≤ 1000) (hr : Rd w 1 A n (xs.map (Value.int .i64))) (hk : ∀ x ∈ xs, 0 ≤ x ∧ x ≤ 1000000000) :
    Calls Try.prog 52 #[.slice A n c] w fun e w' => e = .returned (.int .i64 (mixR xs)) ∧ Below w.heap.size w w' := by
  obtain ⟨i0, hi, hz0, hz1, hz2⟩ := info_parts infoIntT
  have hl := hr.len1
  have HL := Lib.hid hl
  have hk2 : ∀ (k : Nat) (x : Int), (xs ++ [3, 1])[k]? = some x → 0 ≤ x ∧ x ≤ 1000000000 := by
    intro k x hx
    have := List.mem_of_getElem? hx
    simp only [List.mem_append, List.mem_cons, List.not_mem_nil, or_false] at this
    rcases this with h | h | h
    · exact hk x h
    · omega
    · omega
  have HK := Lib.hid hk2
  clear hk2 hk hl
  go_enter Try.func52, Try.ntmps52
  go_wp2_with fail
  refine (l1Own_any A n c xs _ (by omega) hr).mono ?_; rintro e w1 ⟨A1, c1, rfl, ow1, hb1⟩
  rw [HL.out] at ow1
  rw [HL.out]
  have hs1 : w.heap.size ≤ w1.heap.size := hb1.size
  go_wp2_with (at_builtin; refine wpList_append_rd (size := 1) (bytes := 8) (base := w.heap.size) rfl (.tmp 10) (.tmp 11) rfl Try.underlying28 hi hz0 hz1 hz2 rfl (by decide) rfl (ow1.alloc _) (some ⟨w1.heap.size, 0, none⟩) 2 2 [.int .i64 3, .int .i64 1] rfl (Rd.of_blk (Blk.new w1 _ _) rfl) (by intro u hu; simp at hu; rcases hu with rfl | rfl <;> rfl) ?a1 ?a2 ?a3 ?_)
  case a1 => unfold maxLen; omega
  case a2 => omega
  case a3 => simp; omega
  intro v2 w2 ow2 hg2
  obtain ⟨A2, c2, rfl⟩ := own_shape ow2
  have z2 : Below w.heap.size w w2 := own_grown (ext_alloc hb1 _) (ow1.alloc _) (by simp; omega) hg2
  have e2 : xs.map (Value.int .i64) ++ [.int .i64 3, .int .i64 1] = (xs ++ [3, 1]).map (Value.int .i64) := by simp
  rw [e2] at ow2
  have hr2 := Rd.of_own ow2
  clear e2 ow2 hg2 ow1 hb1 hr
  go_wp2_with fail
  go_loop [3, 14] (MixRel (n + 2) (xs ++ [3, 1]) (7919 + n)) (fun _ i => n + 2 - (intOf i).toNat)
  case atStart => exact ⟨0, Nat.zero_le _, rfl, rfl⟩
  case round =>
    obtain ⟨k, hk, rfl, rfl⟩ := hrel
    have hbd := mixFold_bd ((xs ++ [3, 1]).take k) (7919 + n) (by omega) (by omega)
    by_cases hlt : k < n + 2
    · obtain ⟨b, o, x, rfl, hbl, hx, hc⟩ := hr2.int k hlt
      have hxb := HK.out k x hx
      have HS := Lib.hid (show mixFold (7919 + n) ((xs ++ [3, 1]).take (k + 1)) = mixStep (mixFold (7919 + n) ((xs ++ [3, 1]).take k)) x by rw [take_snoc hx, mixFold_snoc])
      clear hx
      generalize mixFold (7919 + n) ((xs ++ [3, 1]).take k) = a at *
      have p := prod_bd ((31 * a + x + 7) % 1000003) (by omega) (by omega)
      have p1 := p.1
      have p2 := p.2
      clear p
      go_wp2_with fail
      go_round
      case rel => exact ⟨k + 1, by omega, by go_num, by rw [HS.out]; rfl⟩
      case measure => simp [intOf]; omega
    · go_wp2_with fail
      go_ret
      exact ⟨ret_int (by rw [mixR, HL.out, List.take_of_length_le (by simp [HL.out]; omega)]), z2⟩

set_option maxHeartbeats 2000000 in
theorem mixOf_any (A : Option Addr) (n c : Nat) (xs : List Int) (w : World) (hn : n ≤ 1000) (hr : Rd w 1 A n (xs.map (Value.int .i64))) (hk : ∀ x ∈ xs, 0 ≤ x ∧ x ≤ 1000000000) :
    Calls Try.prog 54 #[.slice A n c] w fun e w' => e = .returned (.int .i64 (mixR xs)) ∧ Below w.heap.size w w' := by
  obtain ⟨i0, hi, hz0, hz1, hz2⟩ := info_parts infoIntT
  have hl := hr.len1
  have HL := Lib.hid hl
  have hk2 : ∀ (k : Nat) (x : Int), (xs ++ [3, 1])[k]? = some x → 0 ≤ x ∧ x ≤ 1000000000 := by
    intro k x hx
    have := List.mem_of_getElem? hx
    simp only [List.mem_append, List.mem_cons, List.not_mem_nil, or_false] at this
    rcases this with h | h | h
    · exact hk x h
    · omega
    · omega
  have HK := Lib.hid hk2
  clear hk2 hk hl
  go_enter Try.func54, Try.ntmps54
  go_wp2_with fail
  refine (clone_any A n c xs _ (by omega) hr).mono ?_; rintro e w1 ⟨A1, c1, rfl, ow1, hb1⟩
  rw [HL.out] at ow1
  rw [HL.out]
  have hs1 : w.heap.size ≤ w1.heap.size := hb1.size
  go_wp2_with (at_builtin; refine wpList_append_rd (size := 1) (bytes := 8) (base := w.heap.size) rfl (.tmp 10) (.tmp 11) rfl Try.underlying28 hi hz0 hz1 hz2 rfl (by decide) rfl (ow1.alloc _) (some ⟨w1.heap.size, 0, none⟩) 2 2 [.int .i64 3, .int .i64 1] rfl (Rd.of_blk (Blk.new w1 _ _) rfl) (by intro u hu; simp at hu; rcases hu with rfl | rfl <;> rfl) ?a1 ?a2 ?a3 ?_)
  case a1 => unfold maxLen; omega
  case a2 => omega
  case a3 => simp; omega
  intro v2 w2 ow2 hg2
  obtain ⟨A2, c2, rfl⟩ := own_shape ow2
  have z2 : Below w.heap.size w w2 := own_grown (ext_alloc hb1 _) (ow1.alloc _) (by simp; omega) hg2
  have e2 : xs.map (Value.int .i64) ++ [.int .i64 3, .int .i64 1] = (xs ++ [3, 1]).map (Value.int .i64) := by simp
  rw [e2] at ow2
  have hr2 := Rd.of_own ow2
  clear e2 ow2 hg2 ow1 hb1 hr
  go_wp2_with fail
  go_loop [3, 14] (MixRel (n + 2) (xs ++ [3, 1]) (7919 + n)) (fun _ i => n + 2 - (intOf i).toNat)
  case atStart => exact ⟨0, Nat.zero_le _, rfl, rfl⟩
  case round =>
    obtain ⟨k, hk, rfl, rfl⟩ := hrel
    have hbd := mixFold_bd ((xs ++ [3, 1]).take k) (7919 + n) (by omega) (by omega)
    by_cases hlt : k < n + 2
    · obtain ⟨b, o, x, rfl, hbl, hx, hc⟩ := hr2.int k hlt
      have hxb := HK.out k x hx
      have HS := Lib.hid (show mixFold (7919 + n) ((xs ++ [3, 1]).take (k + 1)) = mixStep (mixFold (7919 + n) ((xs ++ [3, 1]).take k)) x by rw [take_snoc hx, mixFold_snoc])
      clear hx
      generalize mixFold (7919 + n) ((xs ++ [3, 1]).take k) = a at *
      have p := prod_bd ((31 * a + x + 7) % 1000003) (by omega) (by omega)
      have p1 := p.1
      have p2 := p.2
      clear p
      go_wp2_with fail
      go_round
      case rel => exact ⟨k + 1, by omega, by go_num, by rw [HS.out]; rfl⟩
      case measure => simp [intOf]; omega
    · go_wp2_with fail
      go_ret
      exact ⟨ret_int (by rw [mixR, HL.out, List.take_of_length_le (by simp [HL.out]; omega)]), z2⟩

set_option maxHeartbeats 400000 in
theorem isKeyList_any (A : Option Addr) (n c : Nat) (xs : List Int) (w : World) (hn : n ≤ 1048576) (hr : Rd w 1 A n (xs.map (Value.int .i64))) :
    Calls Try.prog 53 #[.slice A n c] w fun e w' => e = .returned (.bool (keysB xs)) ∧ w = w' := by
  have hl := hr.len1
  have HL := Lib.hid hl
  clear hl
  go_enter Try.func53, Try.ntmps53
  go_wp2_with fail
  go_loop [7] (AllRel n xs 0 1000000000) (fun i => n - (intOf i).toNat)
  case atStart => exact ⟨0, Nat.zero_le _, rfl, by simp⟩
  case round =>
    obtain ⟨k, hk, rfl, ha⟩ := hrel
    by_cases hlt : k < n
    · obtain ⟨b, o, x, rfl, hbl, hx, hc⟩ := hr.int k hlt
      have HX := Lib.hid hx
      have HA := Lib.hid ha
      clear hx ha
      by_cases h0 : x < 0
      · have HI := Lib.hid (show inB x 0 1000000000 = false by simp [inB]; omega)
        go_wp2_with fail
        go_ret
        exact ⟨ret_bool (by rw [keysB, all_false HX.out HI.out]; simp), rfl⟩
      · by_cases h1 : 1000000000 < x
        · have HI := Lib.hid (show inB x 0 1000000000 = false by simp [inB]; omega)
          go_wp2_with fail
          go_ret
          exact ⟨ret_bool (by rw [keysB, all_false HX.out HI.out]; simp), rfl⟩
        · have HI := Lib.hid (show inB x 0 1000000000 = true by simp [inB]; omega)
          go_wp2_with fail
          go_round
          case rel => exact ⟨k + 1, by omega, by go_num, by rw [take_snoc HX.out, List.all_append, HA.out]; simp [HI.out]⟩
          case measure => simp [intOf]; omega
    · have HA := Lib.hid ha
      clear ha
      go_wp2_with fail
      go_ret
      have h2 := HA.out
      rw [List.take_of_length_le (by rw [HL.out]; omega)] at h2
      exact ⟨ret_bool (by rw [Bool.eq_iff_iff]; simp [keysB, h2, HL.out]; omega), rfl⟩

set_option maxHeartbeats 400000 in
theorem tfKeys_any (A : Option Addr) (n c : Nat) (xs : List Int) (w : World) (hn : n ≤ 1048576) (hr : Rd w 1 A n (xs.map (Value.int .i64))) :
    Calls Try.prog 51 #[.slice A n c] w fun e w' => e = .returned (.bool (keysB xs)) ∧ w = w' := by
  have hl := hr.len1
  have HL := Lib.hid hl
  clear hl
  by_cases h8 : n ≤ 8
  · go_enter Try.func51, Try.ntmps51
    go_wp2_with (go_at_call 76; refine (l1All_any _ _ _ xs _ _ _ hn hr).mono ?_; rintro e w' ⟨rfl, rfl⟩)
    all_goals first | exact (show False by omega).elim | (go_ret; exact ⟨ret_bool (by simp [keysB, HL.out, h8]), rfl⟩)
  · have h9 : 8 < n := by omega
    go_enter Try.func51, Try.ntmps51
    go_wp2_with (go_at_call 76; refine (l1All_any _ _ _ xs _ _ _ hn hr).mono ?_; rintro e w' ⟨rfl, rfl⟩)
    all_goals first | exact (show False by omega).elim | (go_ret; exact ⟨ret_bool (by simp [keysB, HL.out]; omega), rfl⟩)

theorem keys_len {xs : List Int} (h : keysB xs = true) : xs.length ≤ 8 := by simp only [keysB, Bool.and_eq_true, decide_eq_true_eq] at h; exact h.1
theorem keys_mem {xs : List Int} (h : keysB xs = true) : ∀ x ∈ xs, 0 ≤ x ∧ x ≤ 1000000000 := by
  simp only [keysB, Bool.and_eq_true] at h
  exact fun x hx => inB_iff.1 (List.all_eq_true.1 h.2 x hx)
theorem fpT_false {c : Bool} (h : c = false) (s : Int) : fp c s = 0 := by simp [fp, h]
theorem fpT_true {c : Bool} (h : c = true) (s : Int) : fp c s = s := by simp [fp, h]
def numB (xs : List Int) (m : Int) : Bool := keysB xs && decide (xs.length ≤ 7) && inB m 1 100000
def numR (xs : List Int) (m : Int) : Int := mixR (xs ++ [m]) % m
theorem num_bd (xs : List Int) (m : Int) (h : 1 ≤ m) : 0 ≤ numR xs m ∧ numR xs m < m := by unfold numR; exact ⟨Int.emod_nonneg _ (by omega), Int.emod_lt_of_pos _ (by omega)⟩

set_option maxHeartbeats 400000 in
theorem specMixOf_any (A : Option Addr) (n c : Nat) (xs : List Int) (w : World) (hn : n ≤ 1048576) (hr : Rd w 1 A n (xs.map (Value.int .i64))) :
    Calls Try.prog 16 #[.slice A n c] w fun e w' => e = .returned (.tuple #[.int .i64 (fp (keysB xs) (mixR xs)), .bool (keysB xs)]) ∧ Below w.heap.size w w' := by
  cases h : keysB xs with
  | false =>
    rw [fpT_false rfl]
    go_enter Try.func16, Try.ntmps16
    go_wp2_with (go_at_call 51; refine (tfKeys_any _ _ _ xs _ hn hr).mono ?_; rintro e w' ⟨rfl, rfl⟩)
    go_ret2
    exact ⟨rfl, ext_refl w⟩
  | true =>
    rw [fpT_true rfl]
    have hn8 : n ≤ 1000 := by have := keys_len h; have := hr.len1; omega
    have hmem := keys_mem h
    go_enter Try.func16, Try.ntmps16
    go_wp2_with (first | (go_at_call 51; refine (tfKeys_any _ _ _ xs _ hn hr).mono ?_; rintro e w' ⟨rfl, rfl⟩) | (go_at_call 52; refine (tfMix_any _ _ _ xs _ hn8 hr hmem).mono ?_; rintro e w1 ⟨rfl, hb1⟩))
    go_ret2
    exact ⟨rfl, hb1⟩

set_option maxHeartbeats 400000 in
theorem implMixOf_any (A : Option Addr) (n c : Nat) (xs : List Int) (w : World) (hn : n ≤ 1048576) (hr : Rd w 1 A n (xs.map (Value.int .i64))) :
    Calls Try.prog 18 #[.slice A n c] w fun e w' => e = .returned (.tuple #[.int .i64 (fp (keysB xs) (mixR xs)), .bool (keysB xs)]) ∧ Below w.heap.size w w' := by
  cases h : keysB xs with
  | false =>
    rw [fpT_false rfl]
    go_enter Try.func18, Try.ntmps18
    go_wp2_with (go_at_call 53; refine (isKeyList_any _ _ _ xs _ hn hr).mono ?_; rintro e w' ⟨rfl, rfl⟩)
    go_ret2
    exact ⟨rfl, ext_refl w⟩
  | true =>
    rw [fpT_true rfl]
    have hn8 : n ≤ 1000 := by have := keys_len h; have := hr.len1; omega
    have hmem := keys_mem h
    go_enter Try.func18, Try.ntmps18
    go_wp2_with (first | (go_at_call 53; refine (isKeyList_any _ _ _ xs _ hn hr).mono ?_; rintro e w' ⟨rfl, rfl⟩) | (go_at_call 54; refine (mixOf_any _ _ _ xs _ hn8 hr hmem).mono ?_; rintro e w1 ⟨rfl, hb1⟩))
    go_ret2
    exact ⟨rfl, hb1⟩

set_option maxHeartbeats 1000000 in
theorem tfBelow_any (A : Option Addr) (n c : Nat) (xs : List Int) (m : Int) (w : World) (hn : n ≤ 100) (hm : 1 ≤ m ∧ m ≤ 100000) (hr : Rd w 1 A n (xs.map (Value.int .i64))) (hk : ∀ x ∈ xs, 0 ≤ x ∧ x ≤ 1000000000) :
    Calls Try.prog 56 #[.slice A n c, .int .i64 m] w fun e w' => e = .returned (.int .i64 (numR xs m)) ∧ Below w.heap.size w w' := by
  obtain ⟨i0, hi, hz0, hz1, hz2⟩ := info_parts infoIntT
  have hl := hr.len1
  have HL := Lib.hid hl
  have hk2 : ∀ x ∈ xs ++ [m], 0 ≤ x ∧ x ≤ 1000000000 := by
    intro x hx
    simp only [List.mem_append, List.mem_cons, List.not_mem_nil, or_false] at hx
    rcases hx with h | h
    · exact hk x h
    · omega
  have HK := Lib.hid hk2
  clear hk2 hk hl
  have hbd := mixR_bd (xs ++ [m])
  have HN := Lib.hid (show numR xs m = mixR (xs ++ [m]) % m from rfl)
  generalize hmx : mixR (xs ++ [m]) = mx at *
  have HM := Lib.hid hmx
  clear hmx
  go_enter Try.func56, Try.ntmps56
  go_wp2_with fail
  refine (l1Own_any A n c xs _ (by omega) hr).mono ?_; rintro e w1 ⟨A1, c1, rfl, ow1, hb1⟩
  rw [HL.out] at ow1
  rw [HL.out]
  have hs1 : w.heap.size ≤ w1.heap.size := hb1.size
  go_wp2_with (at_builtin; refine wpList_append_rd (size := 1) (bytes := 8) (base := w.heap.size) rfl (.tmp 6) (.tmp 8) rfl Try.underlying28 hi hz0 hz1 hz2 rfl (by decide) rfl (ow1.alloc _) (some ⟨w1.heap.size, 0, none⟩) 1 1 [.int .i64 m] rfl (Rd.of_blk (Blk.new w1 _ _) rfl) (by intro u hu; simp at hu; subst hu; rfl) ?a1 ?a2 ?a3 ?_)
  case a1 => unfold maxLen; omega
  case a2 => omega
  case a3 => simp; omega
  intro v2 w2 ow2 hg2
  obtain ⟨A2, c2, rfl⟩ := own_shape ow2
  have z2 : Below w.heap.size w w2 := own_grown (ext_alloc hb1 _) (ow1.alloc _) (by simp; omega) hg2
  have e2 : xs.map (Value.int .i64) ++ [.int .i64 m] = (xs ++ [m]).map (Value.int .i64) := by simp
  rw [e2] at ow2
  have hr2 := Rd.of_own ow2
  clear e2 ow2 hg2 ow1 hb1 hr
  go_wp2_with fail
  refine (tfMix_any A2 (n + 1) c2 (xs ++ [m]) _ (by omega) hr2 HK.out).mono ?_; rintro e w3 ⟨rfl, hb3⟩
  rw [HM.out]
  go_wp2_with fail
  go_ret
  exact ⟨ret_int (by rw [HN.out]), ext_trans z2 hb3⟩

set_option maxHeartbeats 2000000 in
theorem specNumberFor_any (A : Option Addr) (n c : Nat) (xs : List Int) (m : Int) (w : World) (hn : n ≤ 1048576) (hr : Rd w 1 A n (xs.map (Value.int .i64))) :
    Calls Try.prog 20 #[.slice A n c, .int .i64 m] w fun e w' => e = .returned (.tuple #[.int .i64 (fp (numB xs m) (numR xs m)), .bool (numB xs m)]) ∧ Below w.heap.size w w' := by
  have hl := hr.len1
  cases h : numB xs m with
  | false =>
    rw [fpT_false rfl]
    cases h1 : keysB xs with
    | false =>
      clear h hl
      go_enter Try.func20, Try.ntmps20
      go_wp2_with (first | (go_at_call 51; refine (tfKeys_any _ _ _ xs _ hn hr).mono ?_; rintro e w' ⟨rfl, rfl⟩) | (go_at_call 55; refine (l1In_any _ _ _ _).mono ?_; rintro e w' ⟨rfl, rfl⟩))
      all_goals first | exact (show False by omega).elim | (go_ret2; exact ⟨rfl, ext_refl w⟩)

    | true =>
      by_cases h2 : n ≤ 7
      · have h3 : inB m 1 100000 = false := by simpa [numB, h1, hl, h2] using h
        have h4 := inB_not h3
        clear h hl
        by_cases h5 : m < 1
        · skip
          go_enter Try.func20, Try.ntmps20
          go_wp2_with (first | (go_at_call 51; refine (tfKeys_any _ _ _ xs _ hn hr).mono ?_; rintro e w' ⟨rfl, rfl⟩) | (go_at_call 55; refine (l1In_any _ _ _ _).mono ?_; rintro e w' ⟨rfl, rfl⟩))
          all_goals first | exact (show False by omega).elim | (go_ret2; exact ⟨rfl, ext_refl w⟩)

        · skip
          go_enter Try.func20, Try.ntmps20
          go_wp2_with (first | (go_at_call 51; refine (tfKeys_any _ _ _ xs _ hn hr).mono ?_; rintro e w' ⟨rfl, rfl⟩) | (go_at_call 55; refine (l1In_any _ _ _ _).mono ?_; rintro e w' ⟨rfl, rfl⟩))
          all_goals first | exact (show False by omega).elim | (go_ret2; exact ⟨rfl, ext_refl w⟩)

      · have h6 : 7 < n := by omega
        clear h hl
        go_enter Try.func20, Try.ntmps20
        go_wp2_with (first | (go_at_call 51; refine (tfKeys_any _ _ _ xs _ hn hr).mono ?_; rintro e w' ⟨rfl, rfl⟩) | (go_at_call 55; refine (l1In_any _ _ _ _).mono ?_; rintro e w' ⟨rfl, rfl⟩))
        all_goals first | exact (show False by omega).elim | (go_ret2; exact ⟨rfl, ext_refl w⟩)

  | true =>
    rw [fpT_true rfl]
    have h0 := h
    simp only [numB, Bool.and_eq_true, decide_eq_true_eq] at h0
    have h1 := h0.1.1
    have h7 : n ≤ 7 := by omega
    have h3 := h0.2
    have hm := inB_iff.1 h3
    have hmem := keys_mem h1
    clear h0 h
    have q1 : n ≤ 100 := by omega
    go_enter Try.func20, Try.ntmps20
    go_wp2_with (first | (go_at_call 51; refine (tfKeys_any _ _ _ xs _ hn hr).mono ?_; rintro e w' ⟨rfl, rfl⟩) | (go_at_call 55; refine (l1In_any _ _ _ _).mono ?_; rintro e w' ⟨rfl, rfl⟩) | (go_at_call 56; refine (tfBelow_any _ _ _ xs _ _ q1 hm hr hmem).mono ?_; rintro e w1 ⟨rfl, hb1⟩))
    go_ret2
    exact ⟨rfl, hb1⟩

set_option maxHeartbeats 2000000 in
theorem implNumberFor_any (A : Option Addr) (n c : Nat) (xs : List Int) (m : Int) (w : World) (hn : n ≤ 1048576) (hr : Rd w 1 A n (xs.map (Value.int .i64))) :
    Calls Try.prog 21 #[.slice A n c, .int .i64 m] w fun e w' => e = .returned (.tuple #[.int .i64 (fp (numB xs m) (numR xs m)), .bool (numB xs m)]) ∧ Below w.heap.size w w' := by
  have hl := hr.len1
  cases h : numB xs m with
  | false =>
    rw [fpT_false rfl]
    cases h1 : keysB xs with
    | false =>
      clear h hl
      go_enter Try.func21, Try.ntmps21
      go_wp2_with (go_at_call 53; refine (isKeyList_any _ _ _ xs _ hn hr).mono ?_; rintro e w' ⟨rfl, rfl⟩)
      all_goals first | exact (show False by omega).elim | (go_ret2; exact ⟨rfl, ext_refl w⟩)

    | true =>
      by_cases h2 : n ≤ 7
      · have h3 : inB m 1 100000 = false := by simpa [numB, h1, hl, h2] using h
        have h4 := inB_not h3
        clear h hl
        by_cases h5 : m < 1
        · skip
          go_enter Try.func21, Try.ntmps21
          go_wp2_with (go_at_call 53; refine (isKeyList_any _ _ _ xs _ hn hr).mono ?_; rintro e w' ⟨rfl, rfl⟩)
          all_goals first | exact (show False by omega).elim | (go_ret2; exact ⟨rfl, ext_refl w⟩)

        · skip
          go_enter Try.func21, Try.ntmps21
          go_wp2_with (go_at_call 53; refine (isKeyList_any _ _ _ xs _ hn hr).mono ?_; rintro e w' ⟨rfl, rfl⟩)
          all_goals first | exact (show False by omega).elim | (go_ret2; exact ⟨rfl, ext_refl w⟩)

      · have h6 : 7 < n := by omega
        clear h hl
        go_enter Try.func21, Try.ntmps21
        go_wp2_with (go_at_call 53; refine (isKeyList_any _ _ _ xs _ hn hr).mono ?_; rintro e w' ⟨rfl, rfl⟩)
        all_goals first | exact (show False by omega).elim | (go_ret2; exact ⟨rfl, ext_refl w⟩)

  | true =>
    rw [fpT_true rfl]
    have h0 := h
    simp only [numB, Bool.and_eq_true, decide_eq_true_eq] at h0
    have h1 := h0.1.1
    have h7 : n ≤ 7 := by omega
    have h3 := h0.2
    have hm := inB_iff.1 h3
    have hmem := keys_mem h1
    clear h0 h
    obtain ⟨i0, hi, hz0, hz1, hz2⟩ := info_parts infoIntT
    have hk2 : ∀ x ∈ xs ++ [m], 0 ≤ x ∧ x ≤ 1000000000 := by
      intro x hx
      simp only [List.mem_append, List.mem_cons, List.not_mem_nil, or_false] at hx
      rcases hx with h | h
      · exact hmem x h
      · omega
    have HK := Lib.hid hk2
    clear hk2 hmem
    have hbd := mixR_bd (xs ++ [m])
    have HN := Lib.hid (show numR xs m = mixR (xs ++ [m]) % m from rfl)
    generalize hmx : mixR (xs ++ [m]) = mx at *
    have HM := Lib.hid hmx
    have HL := Lib.hid hl
    clear hmx hl
    go_enter Try.func21, Try.ntmps21
    go_wp2_with (go_at_call 53; refine (isKeyList_any _ _ _ xs _ hn hr).mono ?_; rintro e w' ⟨rfl, rfl⟩)
    refine (clone_any A n c xs _ (by omega) hr).mono ?_; rintro e w1 ⟨A1, c1, rfl, ow1, hb1⟩
    rw [HL.out] at ow1
    rw [HL.out]
    have hs1 : w.heap.size ≤ w1.heap.size := hb1.size
    go_wp2_with (at_builtin; refine wpList_append_rd (size := 1) (bytes := 8) (base := w.heap.size) rfl (.tmp 23) (.tmp 25) rfl Try.underlying28 hi hz0 hz1 hz2 rfl (by decide) rfl (ow1.alloc _) (some ⟨w1.heap.size, 0, none⟩) 1 1 [.int .i64 m] rfl (Rd.of_blk (Blk.new w1 _ _) rfl) (by intro u hu; simp at hu; subst hu; rfl) ?a1 ?a2 ?a3 ?_)
    case a1 => unfold maxLen; omega
    case a2 => omega
    case a3 => simp; omega
    intro v2 w2 ow2 hg2
    obtain ⟨A2, c2, rfl⟩ := own_shape ow2
    have z2 : Below w.heap.size w w2 := own_grown (ext_alloc hb1 _) (ow1.alloc _) (by simp; omega) hg2
    have e2 : xs.map (Value.int .i64) ++ [.int .i64 m] = (xs ++ [m]).map (Value.int .i64) := by simp
    rw [e2] at ow2
    have hr2 := Rd.of_own ow2
    clear e2 ow2 hg2 ow1 hb1 hr
    go_wp2_with fail
    refine (mixOf_any A2 (n + 1) c2 (xs ++ [m]) _ (by omega) hr2 HK.out).mono ?_; rintro e w3 ⟨rfl, hb3⟩
    rw [HM.out]
    go_wp2_with fail
    go_ret2
    exact ⟨by rw [HN.out]; rfl, ext_trans z2 hb3⟩

set_option maxHeartbeats 4000000 in
theorem walkMixOf (Axs : Option Addr) (nxs cxs : Nat) (xs : List Int) (hnxs : nxs ≤ 9223372036854775807) (w : World) (hrxs : Rd w 1 Axs nxs (xs.flatMap encInt)) :
    Calls Try.prog 4 #[.slice Axs nxs cxs] w fun e w' => e = .returned (.bool true) ∧ Below w.heap.size w w' := by
  rw [map_flat] at hrxs
  by_cases hbigxs : 1048576 < nxs
  · go_enter Try.func4, Try.ntmps4
    go_wp2_with (first | fail)
    go_ret
    exact ⟨rfl, ext_refl w⟩
  have hmxs : nxs ≤ 1048576 := by omega
  have z0 : Below w.heap.size w w := ext_refl w
  go_enter Try.func4, Try.ntmps4
  go_wp2_with fail
  refine (toIntS_any Axs nxs cxs xs _ hmxs (hrxs.below z0)).mono ?_; rintro e w1 ⟨gt1, rfl, owt1, hb1⟩
  have ot11 := own_base owt1 z0.size
  have z1 := ext_trans z0 hb1
  go_wp2_with fail
  refine (specMixOf_any _ nxs _ xs _ hmxs (Rd.of_own ot11)).mono ?_; rintro e w2 ⟨rfl, hb2⟩
  have ot12 := own_ext ot11 hb2
  have z2 := ext_trans z1 hb2
  go_wp2_with fail
  refine (toIntS_any Axs nxs cxs xs _ hmxs (hrxs.below z2)).mono ?_; rintro e w3 ⟨gxxs, rfl, owxxs, hb3⟩
  have apxxst1 := apart_before ot12.lt owxxs.lt
  have ot13 := own_ext ot12 hb3
  have oxxs3 := own_base owxxs z2.size
  have z3 := ext_trans z2 hb3
  go_wp2_with fail
  refine (implMixOf_any _ nxs _ xs _ hmxs (Rd.of_own oxxs3)).mono ?_; rintro e w4 ⟨rfl, hb4⟩
  have ot14 := own_ext ot13 hb4
  have oxxs4 := own_ext oxxs3 hb4
  have z4 := ext_trans z3 hb4
  go_wp2_with fail
  refine (toIntS_any Axs nxs cxs xs _ hmxs (hrxs.below z4)).mono ?_; rintro e w5 ⟨gt3, rfl, owt3, hb5⟩
  have apt3t1 := apart_before ot14.lt owt3.lt
  have ot15 := own_ext ot14 hb5
  have apt3xxs := apart_before oxxs4.lt owt3.lt
  have oxxs5 := own_ext oxxs4 hb5
  have ot35 := own_base owt3 z4.size
  have z5 := ext_trans z4 hb5
  go_wp2_with fail
  refine (eqIntS_same _ _ nxs _ _ xs _ hmxs (Rd.of_own oxxs5) (Rd.of_own ot35)).mono ?_; rintro e w6 ⟨rfl, hb6⟩
  have ot16 := own_ext ot15 hb6
  have oxxs6 := own_ext oxxs5 hb6
  have ot36 := own_ext ot35 hb6
  have z6 := ext_trans z5 hb6
  go_wp2_with fail
  go_ret
  exact ⟨rfl, z6⟩

set_option maxHeartbeats 4000000 in
theorem walkNumberFor (Axs : Option Addr) (nxs cxs : Nat) (xs : List Int) (hnxs : nxs ≤ 9223372036854775807) (m : Int) (w : World) (hrxs : Rd w 1 Axs nxs (xs.flatMap encInt)) :
    Calls Try.prog 5 #[.slice Axs nxs cxs, .int .i64 m] w fun e w' => e = .returned (.bool true) ∧ Below w.heap.size w w' := by
  rw [map_flat] at hrxs
  by_cases hbigxs : 1048576 < nxs
  · go_enter Try.func5, Try.ntmps5
    go_wp2_with (first | fail)
    go_ret
    exact ⟨rfl, ext_refl w⟩
  have hmxs : nxs ≤ 1048576 := by omega
  have z0 : Below w.heap.size w w := ext_refl w
  go_enter Try.func5, Try.ntmps5
  go_wp2_with fail
  refine (toIntS_any Axs nxs cxs xs _ hmxs (hrxs.below z0)).mono ?_; rintro e w1 ⟨gt1, rfl, owt1, hb1⟩
  have ot11 := own_base owt1 z0.size
  have z1 := ext_trans z0 hb1
  go_wp2_with fail
  refine (specNumberFor_any _ nxs _ xs m _ hmxs (Rd.of_own ot11)).mono ?_; rintro e w2 ⟨rfl, hb2⟩
  have ot12 := own_ext ot11 hb2
  have z2 := ext_trans z1 hb2
  go_wp2_with fail
  refine (toIntS_any Axs nxs cxs xs _ hmxs (hrxs.below z2)).mono ?_; rintro e w3 ⟨gxxs, rfl, owxxs, hb3⟩
  have apxxst1 := apart_before ot12.lt owxxs.lt
  have ot13 := own_ext ot12 hb3
  have oxxs3 := own_base owxxs z2.size
  have z3 := ext_trans z2 hb3
  go_wp2_with fail
  refine (implNumberFor_any _ nxs _ xs m _ hmxs (Rd.of_own oxxs3)).mono ?_; rintro e w4 ⟨rfl, hb4⟩
  have ot14 := own_ext ot13 hb4
  have oxxs4 := own_ext oxxs3 hb4
  have z4 := ext_trans z3 hb4
  go_wp2_with fail
  refine (toIntS_any Axs nxs cxs xs _ hmxs (hrxs.below z4)).mono ?_; rintro e w5 ⟨gt3, rfl, owt3, hb5⟩
  have apt3t1 := apart_before ot14.lt owt3.lt
  have ot15 := own_ext ot14 hb5
  have apt3xxs := apart_before oxxs4.lt owt3.lt
  have oxxs5 := own_ext oxxs4 hb5
  have ot35 := own_base owt3 z4.size
  have z5 := ext_trans z4 hb5
  go_wp2_with fail
  refine (eqIntS_same _ _ nxs _ _ xs _ hmxs (Rd.of_own oxxs5) (Rd.of_own ot35)).mono ?_; rintro e w6 ⟨rfl, hb6⟩
  have ot16 := own_ext ot15 hb6
  have oxxs6 := own_ext oxxs5 hb6
  have ot36 := own_ext ot35 hb6
  have z6 := ext_trans z5 hb6
  go_wp2_with fail
  go_ret
  exact ⟨rfl, z6⟩

end Go.Proofs.Ytnnihiajggdplaa