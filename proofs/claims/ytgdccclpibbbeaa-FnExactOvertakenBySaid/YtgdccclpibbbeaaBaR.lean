/- slices.Repeat of one int, few times: contract of the library's text. -/
import Derived.Test.YtgdccclpibbbeaaBaP
import Derived.Laws.CopyOwn
import Derived.Deep.RegionLaw
namespace Go.Proofs.Ytgdccclpibbbeaa
open Go.RowKit

set_option maxRecDepth 100000 in
set_option maxHeartbeats 8000000 in
theorem mul64_any (n : Nat) (w : World) (hn : n ≤ 40) : Calls Try.prog 61 #[.int .u64 1, .int .u64 n] w fun e w' => e = .returned (.tuple #[.int .u64 0, .int .u64 n]) ∧ w = w' := by
  have hc : n = 0 ∨ n = 1 ∨ n = 2 ∨ n = 3 ∨ n = 4 ∨ n = 5 ∨ n = 6 ∨ n = 7 ∨ n = 8 ∨ n = 9 ∨ n = 10 ∨ n = 11 ∨ n = 12 ∨ n = 13 ∨ n = 14 ∨ n = 15 ∨ n = 16 ∨ n = 17 ∨ n = 18 ∨ n = 19 ∨ n = 20 ∨ n = 21 ∨ n = 22 ∨ n = 23 ∨ n = 24 ∨ n = 25 ∨ n = 26 ∨ n = 27 ∨ n = 28 ∨ n = 29 ∨ n = 30 ∨ n = 31 ∨ n = 32 ∨ n = 33 ∨ n = 34 ∨ n = 35 ∨ n = 36 ∨ n = 37 ∨ n = 38 ∨ n = 39 ∨ n = 40 := by omega
  rcases hc with rfl | rfl | rfl | rfl | rfl | rfl | rfl | rfl | rfl | rfl | rfl | rfl | rfl | rfl | rfl | rfl | rfl | rfl | rfl | rfl | rfl | rfl | rfl | rfl | rfl | rfl | rfl | rfl | rfl | rfl | rfl | rfl | rfl | rfl | rfl | rfl | rfl | rfl | rfl | rfl | rfl
  all_goals
    go_enter Try.func61, Try.ntmps61
    go_wp2
    go_ret2
    exact ⟨rfl, rfl⟩

set_option maxHeartbeats 2000000 in
theorem mul_any (n : Nat) (w : World) (hn : n ≤ 40) : Calls Try.prog 59 #[.int .u64 1, .int .u64 n] w fun e w' => e = .returned (.tuple #[.int .u64 0, .int .u64 n]) ∧ w = w' := by
  go_enter Try.func59, Try.ntmps59
  go_wp2_with (go_at_call 61; refine (mul64_any n _ hn).mono ?_; rintro e w' ⟨rfl, rfl⟩)
  go_ret2
  exact ⟨rfl, rfl⟩

def RpRel (w : World) (n : Nat) (v : Int) (i : Value) (wr : World) : Prop :=
  ∃ (k : Nat) (cs : List Value), 1 ≤ k ∧ k ≤ n ∧ i = .int .i64 k ∧ Blk wr w.heap.size 3 cs ∧ cs.length = n ∧ (∀ j, j < k → cs[j]? = some (.int .i64 v)) ∧ Below w.heap.size w wr
theorem splice_get {cur cs : List Value} {off j : Nat} (h : off + cs.length ≤ cur.length) : (splice cur off cs)[j]? = if off ≤ j ∧ j < off + cs.length then cs[j - off]? else cur[j]? := by
  unfold splice
  by_cases h1 : j < off
  · rw [List.getElem?_append_left (by rw [List.length_take]; omega), List.getElem?_take, if_pos h1, if_neg (by omega)]
  · rw [List.getElem?_append_right (by rw [List.length_take]; omega), List.length_take, Nat.min_eq_left (by omega)]
    by_cases h2 : j < off + cs.length
    · rw [List.getElem?_append_left (by omega), if_pos (by omega)]
    · rw [List.getElem?_append_right (by omega), List.getElem?_drop, if_neg (by omega)]
      congr 1; omega
set_option maxRecDepth 100000 in
set_option maxHeartbeats 1000000 in
theorem repeat_any (v : Int) (n c b o : Nat) (w : World) (hn : n ≤ 40) (hn0 : 0 < n) (hr : Rd w 1 (some ⟨b, o, none⟩) 1 [.int .i64 v]) :
    Calls Try.prog 58 #[.slice (some ⟨b, o, none⟩) 1 c, .int .i64 n] w fun e w' => e = .returned (.slice (some ⟨w.heap.size, 0, none⟩) n n) ∧ Blk w' w.heap.size 3 (List.replicate n (.int .i64 v)) ∧ Below w.heap.size w w' := by
  obtain ⟨i0, hi, hz0, hz1, hz2⟩ := info_parts infoInt
  have hsz1 : (Try.prog.info? 3).map (·.size) = some 1 := by rw [hi]; simp [hz1]
  have hmk := fun W => run_make (P := Try.prog) W 22 3 i0 _ Try.underlying22 hi hz0 .i64 .i64 (n : Int) (n : Int) (by omega) (by omega) (by rw [hz2]; omega) (by omega)
  rw [hz1] at hmk
  have HR := Lib.hid hr
  clear hr
  go_enter Try.func58, Try.ntmps58
  go_wp2_with fail
  refine (mul_any n _ hn).mono ?_; rintro e w' ⟨rfl, rfl⟩
  have hrd := HR.out.alloc
  obtain ⟨b', o', he, hbl, hcv⟩ := HR.out.2 (by omega)
  injection he with he
  injection he with he1 he2
  subst he1; subst he2
  have HB := Lib.hid hbl
  clear hbl
  have hml : (madeCells #[Value.int IntKind.i64 0] n).toList.length = n := by simp [madeCells]
  obtain ⟨cur0, hcur0⟩ : ∃ cur0, cur0 = (madeCells #[Value.int IntKind.i64 0] n).toList := ⟨_, rfl⟩
  have hg0 : (w.alloc (.cells (madeCells #[Value.int IntKind.i64 0] n) 3)).heap[w.heap.size]? = some (.cells cur0.toArray 3 (0, 0)) := by rw [hcur0]; simpa using heap_alloc_new w _
  have hl0 : cur0.length = n := by rw [hcur0]; exact hml
  clear hml
  have HC := Lib.hid hcur0
  clear hcur0
  have HG0 := Lib.hid hg0
  clear hg0
  have hmin : Nat.min 1 n = 1 := by show min 1 n = 1; omega
  go_wp2_with (with_reducible refine wpList_copy_splice rfl (.tmp 31) (.tmp 32) 22 22 rfl 3 Try.underlying22 hsz1 (some ⟨w.heap.size, 0, none⟩) (some ⟨b, o, none⟩) n n 1 c rfl rfl w.heap.size 0 cur0 3 HG0.out [.int .i64 v] ?c1 ?c2 ?c3 ?c4 w.heap.size w ?c5 (Nat.le_refl _) ?c6)
  case c1 => exact hmin.symm
  case c2 =>
    intro j u hj
    obtain ⟨b1, o1, he1, _, hc1⟩ := (hrd (.cells (madeCells #[Value.int IntKind.i64 0] n) 3)).2 (by omega)
    injection he1 with he1
    injection he1 with he2 he3
    subst he2; subst he3
    exact hc1 j u hj
  case c3 => rw [hl0]; exact hn0
  case c4 => intro u hu; simp at hu; subst hu; rfl
  case c5 => exact (Below.refl _ w).alloc (Nat.le_refl _) _
  case c6 =>
    intro w2 HG2 hB2
    have hRel : RpRel w n v (.int .i64 (1 : Nat)) w2 := by
      refine ⟨1, splice cur0 0 [.int .i64 v], Nat.le_refl _, hn0, rfl, HG2.out, by rw [length_splice _ _ _ (by simp [hl0]; omega), hl0], ?_, hB2⟩
      intro j hj
      obtain rfl : j = 0 := by omega
      rw [splice_get (by simp [hl0]; omega)]; simp
    have HRel := Lib.hid hRel
    clear hRel HG2 hB2
    go_wp2_with fail
    go_loopw [8] (RpRel w n v) (fun i _ => n - (intOf i).toNat)
    case atStart => exact HRel.out
    case round =>
      obtain ⟨k, cs, hk1, hk, rfl, hB, hl, hv, hb⟩ := hrel
      have HB2 := Lib.hid hB
      have HV := Lib.hid hv
      have HL := Lib.hid hl
      have HBL := Lib.hid hb
      clear hB hv hl hb
      by_cases hlt : k < n
      · have hne : n ≠ k := by omega
        have hne2 : k ≠ n := by omega
        go_wp2_with fail
        obtain ⟨X, hX⟩ : ∃ X, X = List.replicate (min k (n - k)) (Value.int .i64 v) := ⟨_, rfl⟩
        have hXl : X.length = min k (n - k) := by rw [hX]; simp
        have hD1 : X.length = Nat.min k (n - k) := hXl
        have hD2 : 0 < X.length → some (⟨w.heap.size, k, none⟩ : Addr) = some ⟨w.heap.size, k, none⟩ ∧ ∃ ad : Addr, some (⟨w.heap.size, 0, none⟩ : Addr) = some ad ∧ ∀ j u, X[j]? = some u → wr.drew.cell? (ad.add j) = some u := by
          intro _
          refine ⟨rfl, _, rfl, ?_⟩
          intro j u hj
          have hj2 := hj
          rw [hX, List.getElem?_replicate] at hj
          split at hj
          · rename_i hlt2
            injection hj with hj
            subst hj
            have := (HB2.out.drew).cell (0 + j)
            have e1 : (⟨w.heap.size, 0, none⟩ : Addr).add j = ⟨w.heap.size, 0 + j, none⟩ := by simp [Addr.add]; intro h; exact h.symm
            rw [e1, this, Nat.zero_add]
            exact HV.out j (by omega)
          · cases hj
        have hD3 : k + X.length ≤ cs.length := by rw [hXl, HL.out]; omega
        have hD4 : ∀ u ∈ X, u.oneCell' = true := by
          intro u hu
          rw [hX] at hu
          rw [List.eq_of_mem_replicate hu]; rfl
        have HX := Lib.hid hX
        have HD1 := Lib.hid hD1
        have HD2 := Lib.hid hD2
        have HD3 := Lib.hid hD3
        have HXL := Lib.hid hXl
        clear hX hD1 hD2 hD3 hXl
        go_region_law (refine step_copy_splice rfl (.tmp 41) (.tmp 44) 22 22 rfl 3 Try.underlying22 hsz1 (some ⟨w.heap.size, k, none⟩) (some ⟨w.heap.size, 0, none⟩) (n - k) (n - k) k n (by simp [Act.eval, Act.put]) (by simp [Act.eval, Act.put]) w.heap.size k cs 3 HB2.out.drew X HD1.out HD2.out HD3.out hD4 w.heap.size w HBL.out.drew (Nat.le_refl _) ?_; intro w4 hg4 hb4)
        · change Exit.inBlock 1 _ Exit.normal (Act.put (Act.put _ (some 46) _) (some 8) _) _
          simp only [Act.put, List.setIfInBounds_toArray, List.set_cons_zero, List.set_cons_succ]
          go_wp2_with fail
          have hxl := HXL.out
          have hXn : k + X.length ≤ n := by rw [hxl]; omega
          have hXp : 1 ≤ X.length := by rw [hxl]; omega
          have hwr : IntKind.i64.wrap ((k : Int) + (X.length : Int)) = ((k + X.length : Nat) : Int) := by rw [IntWalk.i64_in _ (by omega)]; omega
          have HWR := Lib.hid hwr
          clear hwr
          go_roundw
          case rel =>
            rw [HWR.out]
            have hfit : k + X.length ≤ cs.length := HD3.out
            refine ⟨k + X.length, splice cs k X, by omega, hXn, rfl, hg4.out, by rw [length_splice _ _ _ hfit, HL.out], ?_, hb4⟩
            intro j hj
            rw [splice_get hfit]
            by_cases hjk : k ≤ j
            · rw [if_pos ⟨hjk, hj⟩, HX.out, List.getElem?_replicate, if_pos (by omega)]
            · rw [if_neg (by omega)]
              exact HV.out j (by omega)
          case measure =>
            rw [HWR.out]
            show n - (((k + X.length : Nat) : Int)).toNat < n - ((k : Int)).toNat
            omega
      · obtain rfl : k = n := by omega
        go_wp2_with fail
        go_ret
        refine ⟨rfl, ?_, HBL.out⟩
        have he : cs = List.replicate k (.int .i64 v) := by
          apply List.ext_getElem?
          intro j
          by_cases hj : j < k
          · rw [HV.out j hj, List.getElem?_replicate, if_pos hj]
          · rw [List.getElem?_eq_none (by rw [HL.out]; omega), List.getElem?_eq_none (by simp; omega)]
        rw [← he]
        exact HB2.out

end Go.Proofs.Ytgdccclpibbbeaa