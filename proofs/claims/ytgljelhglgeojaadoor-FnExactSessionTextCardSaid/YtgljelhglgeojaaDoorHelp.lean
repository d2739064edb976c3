/- Contracts of the laws' own helpers: copiers, comparers (at equal arguments), counters, markers. Each says what the call returns and that nothing that was there has changed (markers: but the marked row). -/
import Derived.Test.YtgljelhglgeojaaDoorBase
import Derived.StillTailTactics
import Derived.Deep.QuietTactic
import Derived.BigQuiet
namespace Go.Proofs.YtgljelhglgeojaaDoor
open Go.RowKit
structure Curve where
  (first length second : Int)
def encCurve (x : Curve) : List Value := [.int .i64 x.first, .int .i64 x.length, .int .i64 x.second]
theorem encCurve_len (x : Curve) : (encCurve x).length = 3 := rfl

set_option maxRecDepth 100000 in
set_option maxHeartbeats 1000000 in
theorem toCurve_any (x0 x1 x2 : Int) (w : World) :
    Calls Tryd.prog 13 #[.agg #[.int .i64 x0, .int .i64 x1, .int .i64 x2]] w fun e w' => e = .returned (.agg #[.int .i64 x0, .int .i64 x1, .int .i64 x2]) ∧ Below w.heap.size w w' := by
  go_enter Tryd.func13, Tryd.ntmps13
  go_wp2
  refine bodyPost_ret (v := .agg #[.int .i64 x0, .int .i64 x1, .int .i64 x2]) (by simp [results, Tryd.results13, go_sem]) rfl ⟨rfl, ?_⟩
  exact ext_alloc (ext_alloc (ext_alloc (ext_refl w) _) _) _

set_option maxRecDepth 100000 in
theorem openCurve {W : World} {r : Reach} {b : Nat} {v : Value} (h : Value.okWide Tryd.prog W r b 23 v) : ∃ x0 x1 x2 : Int, v = .agg #[.int .i64 x0, .int .i64 x1, .int .i64 x2] := by
  obtain ⟨cs0, rfl, hl0, hc0⟩ := okWide_cells Tryd.underlying23 (ts := [3, 3, 3]) (by kernel_rfl) (by kernel_rfl) h
  match cs0, hl0 with
  | [a0, a1, a2], _ =>
    obtain ⟨x0, rfl, _⟩ := cell_int Tryd.underlying3 (hc0 0 3 a0 rfl rfl)
    obtain ⟨x1, rfl, _⟩ := cell_int Tryd.underlying3 (hc0 1 3 a1 rfl rfl)
    obtain ⟨x2, rfl, _⟩ := cell_int Tryd.underlying3 (hc0 2 3 a2 rfl rfl)
    exact ⟨x0, x1, x2, rfl⟩

set_option maxRecDepth 100000 in
set_option maxHeartbeats 1000000 in
theorem eqCurve_same (x0 x1 x2 : Int) (w : World) :
    Calls Tryd.prog 18 #[.agg #[.int .i64 x0, .int .i64 x1, .int .i64 x2], .agg #[.int .i64 x0, .int .i64 x1, .int .i64 x2]] w fun e w' => e = .returned (.bool true) ∧ Below w.heap.size w w' := by
  go_enter Tryd.func18, Tryd.ntmps18
  go_wp2
  go_ret
  exact ⟨rfl, ext_alloc (ext_alloc (ext_refl w) _) _⟩

set_option maxRecDepth 100000 in
set_option maxHeartbeats 1000000 in
theorem szIntS_any (A : Option Addr) (n c : Nat) (left : Int) (w : World) (hn : n ≤ 9223372036854775807) (h1 : 0 ≤ left) (h2 : left ≤ 1048576) :
    Calls Tryd.prog 9 #[.slice A n c, .int .i64 left] w fun e w' => e = .returned (.int .i64 (if left < (n : Int) then -1 else left - n)) ∧ w = w' := by
  by_cases h : left < (n : Int)
  · go_enter Tryd.func9, Tryd.ntmps9
    go_wp2
    go_ret
    simp
  · go_enter Tryd.func9, Tryd.ntmps9
    go_wp2
    go_ret
    simp

set_option maxRecDepth 100000 in
theorem openIntS {H : Type} {enc : TypeId × Value → H} {W : World} {base b0 : Nat} {sp : Nat → Bool} {hd : Bool} {r : Reach} {v : Value} {d : DataW H} {q : List MemPlace} (hv : Value.okWide Tryd.prog W r b0 24 v) (h : DataW.Trod enc Tryd.prog W base sp hd 24 v d q) :
    ∃ (A : Option Addr) (n c : Nat) (xs : List Int), v = .slice A n c ∧ n ≤ 9223372036854775807 ∧ Rd W 1 A n (xs.flatMap encInt) :=
  open_rows encInt 1 (by omega) encInt_len (fun f => ⟨f 0, fun j hj => by rcases j with _ | j <;> first | rfl | omega⟩) Tryd.underlying24 (by kernel_rfl) (by kernel_rfl) hv h

theorem infoInt : (Tryd.prog.info? 3).map (fun i => (i.zero, i.size, i.bytes)) = some (some (.int .i64 0), 1, 8) := by kernel_rfl
set_option maxRecDepth 100000 in
set_option maxHeartbeats 1000000 in
theorem toIntS_any (A : Option Addr) (n c : Nat) (xs : List Int) (w : World) (hn : n ≤ 1048576) (hr : Rd w 1 A n (xs.map (Value.int .i64))) :
    Calls Tryd.prog 14 #[.slice A n c] w fun e w' => ∃ g, e = .returned (.slice (some ⟨g, 0, none⟩) n n) ∧ w'.ownsRow w.heap.size 3 1 (.slice (some ⟨g, 0, none⟩) n n) n (xs.map (Value.int .i64)) ∧ Below w.heap.size w w' := by
  rw [← map_flat] at hr ⊢
  obtain ⟨i0, hi, hz0, hz1, hz2⟩ := info_parts infoInt
  have hmk := fun W => run_make (P := Tryd.prog) W 24 3 i0 _ Tryd.underlying24 hi hz0 .i64 .i64 (n : Int) (n : Int) (by omega) (by omega) (by rw [hz2]; omega) (by omega)
  rw [hz1] at hmk
  go_enter Tryd.func14, Tryd.ntmps14
  go_wp2_with fail
  clear hmk
  go_loopw [4] (ToRel w w.heap.size 3 n 1 (xs.flatMap encInt)) (fun i _ => n - (intOf i).toNat)
  case atStart => exact toRel_start1
  case round =>
    obtain ⟨k, hk, rfl, cs, hB, hl, hcs, hb⟩ := hrel
    by_cases hlt : k < n
    · obtain ⟨b, o, rfl, hbl, hcell⟩ := hr.2 (by omega)
      have hlx : k < xs.length := by have h1 := hr.1; rw [flat_len encInt 1 encInt_len] at h1; omega
      have hx : xs[k]? = some xs[k] := List.getElem?_eq_getElem hlx
      generalize xs[k] = x at hx
      have c0 : wr.cell? ⟨b, o + k, none⟩ = some (.int .i64 x) := (hb.cell (p := ⟨b, o + k, none⟩) hbl).trans (hcell _ _ (int_get xs k x hx))
      have HX := Lib.hid hx
      have HC := Lib.hid hcs
      have q0 : wr.cell? ⟨w.heap.size, k, none⟩ = some (cs[k]'(by omega)) := by rw [hB.cell, List.getElem?_eq_getElem (by omega)]
      have f0 := hB.frozen k
      clear hx hcell hcs
      go_wp2_with fail
      try (go_region; try go_wp2_with fail)
      go_roundw
      case rel => exact toRel_step1 HX.out hlt hl HC.out (hB.set_ _ _) (hb.setCell (Nat.le_refl _) _)
      case measure => simp [intOf]; omega
    · go_wp2_with fail
      go_ret
      exact ⟨_, rfl, own_of_blk (toRel_done (by omega) hB hl hr.1 hcs) hr.1 hn (Nat.le_refl _), hb⟩

set_option maxRecDepth 100000 in
set_option maxHeartbeats 1000000 in
theorem eqIntS_same (A B : Option Addr) (n c d : Nat) (xs : List Int) (w : World) (hn : n ≤ 1048576) (hr : Rd w 1 A n (xs.map (Value.int .i64))) (hr2 : Rd w 1 B n (xs.map (Value.int .i64))) :
    Calls Tryd.prog 19 #[.slice A n c, .slice B n d] w fun e w' => e = .returned (.bool true) ∧ Below w.heap.size w w' := by
  go_enter Tryd.func19, Tryd.ntmps19
  go_wp2_with fail
  go_loopw [5] (EqRel w n) (fun i _ => n - (intOf i).toNat)
  case atStart => exact ⟨0, Nat.zero_le _, rfl, ext_refl w⟩
  case round =>
    obtain ⟨k, hk, rfl, hb⟩ := hrel
    by_cases hlt : k < n
    · obtain ⟨b, o, x, rfl, hbl, hx, hcell⟩ := hr.int k hlt
      obtain ⟨b2, o2, x2, rfl, hbl2, hx2, hcell2⟩ := hr2.int k hlt
      rw [hx] at hx2
      obtain rfl := Option.some.inj hx2
      have c0 : wr.cell? ⟨b, o + k, none⟩ = some (.int .i64 x) := (hb.cell (p := ⟨b, o + k, none⟩) hbl).trans hcell
      have d0 : wr.cell? ⟨b2, o2 + k, none⟩ = some (.int .i64 x) := (hb.cell (p := ⟨b2, o2 + k, none⟩) hbl2).trans hcell2
      clear hx hx2 hcell hcell2
      go_wp2_with fail
      go_quiet (fail)
      go_wp2_with fail
      go_roundw
      case rel => exact ⟨k + 1, by omega, by go_num, ext_drewN hb _⟩
      case measure => simp [intOf]; omega
    · go_wp2_with fail
      go_ret
      exact ⟨rfl, hb⟩

def inB (n a b : Int) : Bool := decide (a ≤ n) && decide (n ≤ b)
theorem inB_iff {n a b : Int} : inB n a b = true ↔ a ≤ n ∧ n ≤ b := by simp [inB]
theorem inB_not {n a b : Int} (h : inB n a b = false) : n < a ∨ b < n := by
  rcases Int.lt_or_le n a with h1 | h1
  · exact .inl h1
  · rcases Int.lt_or_le b n with h2 | h2
    · exact .inr h2
    · rw [inB_iff.2 ⟨h1, h2⟩] at h; cases h
theorem mul_bd {a b A B : Int} (h1 : 0 ≤ a) (h2 : a ≤ A) (h3 : 0 ≤ b) (h4 : b ≤ B) : 0 ≤ a * b ∧ a * b ≤ A * B :=
  ⟨Int.mul_nonneg h1 h3, Int.mul_le_mul h2 h4 h3 (by omega)⟩

set_option maxHeartbeats 400000 in
theorem l1In_any (n a b : Int) (w : World) :
    Calls Tryd.prog 22 #[.int .i64 n, .int .i64 a, .int .i64 b] w fun e w' => e = .returned (.bool (inB n a b)) ∧ w = w' := by
  go_enter Tryd.func22, Tryd.ntmps22
  go_wp2
  all_goals (go_ret; simp [inB, *] <;> omega)

def AllRel (n : Nat) (xs : List Int) (lo hi : Int) (i : Value) : Prop := ∃ k : Nat, k ≤ n ∧ i = .int .i64 k ∧ (xs.take k).all (fun x => inB x lo hi) = true
theorem take_snoc {α : Type} {xs : List α} {k : Nat} {x : α} (h : xs[k]? = some x) : xs.take (k + 1) = xs.take k ++ [x] := by rw [List.take_add_one, h]; rfl
theorem all_false {α : Type} {xs : List α} {k : Nat} {x : α} {f : α → Bool} (h : xs[k]? = some x) (hf : f x = false) : xs.all f = false := by
  rw [List.all_eq_false]
  exact ⟨x, List.mem_of_getElem? h, by simp [hf]⟩
set_option maxHeartbeats 400000 in
theorem l1All_any (A : Option Addr) (n c : Nat) (xs : List Int) (lo hi : Int) (w : World) (hn : n ≤ 1048576) (hr : Rd w 1 A n (xs.map (Value.int .i64))) :
    Calls Tryd.prog 23 #[.slice A n c, .int .i64 lo, .int .i64 hi] w fun e w' => e = .returned (.bool (xs.all fun x => inB x lo hi)) ∧ w = w' := by
  go_enter Tryd.func23, Tryd.ntmps23
  go_wp2_with fail
  go_loop [11] (AllRel n xs lo hi) (fun i => n - (intOf i).toNat)
  case atStart => exact ⟨0, Nat.zero_le _, rfl, by simp⟩
  case round =>
    obtain ⟨k, hk, rfl, ha⟩ := hrel
    by_cases hlt : k < n
    · obtain ⟨b, o, x, rfl, hbl, hx, hc⟩ := hr.int k hlt
      have HX := Lib.hid hx
      have HA := Lib.hid ha
      clear hx ha
      cases hin : inB x lo hi with
      | false =>
        go_wp2_with (go_at_call 22; refine (l1In_any _ _ _ _).mono ?_; rintro e w' ⟨rfl, rfl⟩)
        go_ret
        exact ⟨by rw [all_false HX.out hin]; rfl, rfl⟩
      | true =>
        go_wp2_with (go_at_call 22; refine (l1In_any _ _ _ _).mono ?_; rintro e w' ⟨rfl, rfl⟩)
        go_round
        case rel => exact ⟨k + 1, by omega, by go_num, by rw [take_snoc HX.out, List.all_append, HA.out]; simp [hin]⟩
        case measure => simp [intOf]; omega
    · have hl := hr.len1
      have HA := Lib.hid ha
      clear ha
      go_wp2_with fail
      go_ret
      have h2 := HA.out
      rw [List.take_of_length_le (by omega)] at h2
      exact ⟨by rw [h2]; rfl, rfl⟩

end Go.Proofs.YtgljelhglgeojaaDoor
