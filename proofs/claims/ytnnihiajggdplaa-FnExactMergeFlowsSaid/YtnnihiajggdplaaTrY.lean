/- A row of timed packets that is sorted in place: what one step of the sort does to it. No condition. -/
import Derived.Test.YtnnihiajggdplaaTrX
import Derived.Test.YtnnihiajggdplaaTrU
namespace Go.Proofs.Ytnnihiajggdplaa
open Go.RowKit Go.Sort

instance : Inhabited Timed := ⟨⟨0, ⟨0, 0, 0, 0, 0, 0⟩⟩⟩

/-! ### A row of structs of which one is set -/
theorem take_setRow {α : Type} {enc : α → List Value} {m : Nat} (hm : ∀ a, (enc a).length = m) {xs : List α} {cs : List Value} {n k : Nat} {x : α} (hn : xs.length = n) (hk : k < n) (ht : cs.take (n * m) = xs.flatMap enc) (hl : n * m ≤ cs.length) :
    (SetRow cs (k * m) (enc x)).take (n * m) = (xs.set k x).flatMap enc := by
  have hkm : k * m + m ≤ n * m := by
    have := Nat.mul_le_mul_right m (show k + 1 ≤ n by omega)
    rw [Nat.add_mul] at this; omega
  apply List.ext_getElem?
  intro j
  rw [List.getElem?_take]
  split
  · rename_i hj
    have hm0 : 0 < m := by
      rcases Nat.eq_zero_or_pos m with h | h
      · subst h; simp at hj
      · exact h
    rw [setRow_get _ _ _ _ (by rw [hm]; omega), hm]
    have hq : j / m < n := Nat.div_lt_of_lt_mul (by rw [Nat.mul_comm]; exact hj)
    have hdm : j / m * m + j % m = j := by rw [Nat.mul_comm]; exact Nat.div_add_mod j m
    have hmod := Nat.mod_lt j hm0
    by_cases he : j / m = k
    · have h1 : k * m ≤ j ∧ j < k * m + m := by rw [he] at hdm; omega
      rw [if_pos h1]
      have hx : (xs.set k x)[k]? = some x := by rw [List.getElem?_set]; simp [hn, hk]
      have := flat_get enc m hm (xs.set k x) k (j - k * m) x hx (by omega)
      rw [← this]
      congr 1; omega
    · have h1 : ¬ (k * m ≤ j ∧ j < k * m + m) := by
        intro ⟨ha, hb⟩
        apply he
        rw [Nat.div_eq_of_lt_le (by omega) (by rw [Nat.add_mul]; omega)]
      rw [if_neg h1]
      have hxq : xs[j / m]? = some (xs[j / m]'(by omega)) := List.getElem?_eq_getElem _
      have hxs : (xs.set k x)[j / m]? = some (xs[j / m]'(by omega)) := by rw [List.getElem?_set, if_neg (fun e => he e.symm)]; exact hxq
      have h2 := flat_get enc m hm (xs.set k x) (j / m) (j % m) _ hxs hmod
      have h3 := flat_get enc m hm xs (j / m) (j % m) _ hxq hmod
      rw [hdm] at h2 h3
      rw [h2, ← h3, ← ht, List.getElem?_take, if_pos hj]
  · rename_i hj
    rw [List.getElem?_eq_none]
    rw [flat_len enc m hm, List.length_set, hn]
    omega

/-- The block g holds the row d, n of its c places, and all below base lies as in w0. -/
structure RowW (w0 : World) (base g n c : Nat) (d : Array Timed) (W : World) : Prop where
  blk : ∃ cs, Blk W g 58 cs ∧ cs.length = c * 7 ∧ cs.take (n * 7) = d.toList.flatMap encTimed
  len : d.size = n
  hnc : n ≤ c
  hcm : c ≤ maxLen
  hbg : base ≤ g
  ext : Below base w0 W
def put7 (W : World) (g p : Nat) (x : Timed) : World :=
  ((((((W.setCell ⟨g, p, none⟩ (.int .i64 x.tick)).setCell ⟨g, p + 1, none⟩ (.int .i64 x.packet.id)).setCell ⟨g, p + 2, none⟩ (.int .i64 x.packet.source)).setCell ⟨g, p + 3, none⟩ (.int .i64 x.packet.dest)).setCell ⟨g, p + 4, none⟩ (.int .i64 x.packet.port)).setCell ⟨g, p + 5, none⟩ (.int .i64 x.packet.mark)).setCell ⟨g, p + 6, none⟩ (.int .i64 x.packet.size)
section
variable {w0 W W' : World} {base g n c : Nat} {d : Array Timed}
theorem RowW.of_own {A : Option Addr} (h : W.ownsRow base 58 7 (.slice A n c) n (d.toList.flatMap encTimed)) (hn : 0 < n) (hd : d.size = n) (he : Below base w0 W) : ∃ g, A = some ⟨g, 0, none⟩ ∧ RowW w0 base g n c d W := by
  rcases h.2 with ⟨_, hno⟩ | ⟨g, cap, cur, hv, hgb, hgc, hnc, hml, hsz, hval⟩
  · omega
  · injection hv with h1 h2 h3
    subst h1; subst h3
    exact ⟨g, rfl, ⟨cur.toList, hgc, by simpa using hsz, hval⟩, hd, hnc, hml, hgb, he⟩
theorem RowW.own (h : RowW w0 base g n c d W) : W.ownsRow base 58 7 (.slice (some ⟨g, 0, none⟩) n c) n (d.toList.flatMap encTimed) := by
  obtain ⟨cs, hB, hl, ht⟩ := h.blk
  refine ⟨by rw [flat_len encTimed 7 encTimed_len, Array.length_toList, h.len], .inr ⟨g, c, cs.toArray, rfl, h.hbg, hB, h.hnc, h.hcm, by simp [hl], ht⟩⟩
theorem RowW.lt (h : RowW w0 base g n c d W) : g < W.heap.size := by obtain ⟨cs, hB, _⟩ := h.blk; exact hB.lt
theorem RowW.below (h : RowW w0 base g n c d W) (hb : Below W.heap.size W W') : RowW w0 base g n c d W' := by
  obtain ⟨cs, hB, hl, ht⟩ := h.blk
  exact ⟨⟨cs, hB.below hb, hl, ht⟩, h.len, h.hnc, h.hcm, h.hbg, h.ext.trans (hb.mono (Nat.le_of_lt (Nat.lt_of_le_of_lt h.hbg h.lt)))⟩
theorem RowW.drew (h : RowW w0 base g n c d W) : RowW w0 base g n c d W.drew := h.below (ext_drew (ext_refl W))
theorem RowW.frozen (h : RowW w0 base g n c d W) (p : Nat) : W.frozen? ⟨g, p, none⟩ = false := by obtain ⟨cs, hB, _⟩ := h.blk; exact hB.frozen p
theorem RowW.cell (h : RowW w0 base g n c d W) {i : Nat} (hi : i < n) (r : Nat) (hr : r < 7) : W.cell? ⟨g, i * 7 + r, none⟩ = (encTimed d[i]!)[r]? := by
  obtain ⟨cs, hB, hl, ht⟩ := h.blk
  have hi2 : i < d.size := by rw [h.len]; exact hi
  have hx : d.toList[i]? = some d[i]! := by rw [getElem!_pos d i hi2, ← Array.getElem_toList hi2]; exact List.getElem?_eq_getElem _
  rw [hB.cell, ← flat_get encTimed 7 encTimed_len d.toList i r _ hx hr, ← ht, List.getElem?_take, if_pos (by omega)]
theorem RowW.seven (h : RowW w0 base g n c d W) {i : Nat} (hi : i < n) {x : Timed} (hx : d[i]! = x) :
    W.cell? ⟨g, i * 7, none⟩ = some (.int .i64 x.tick) ∧ W.cell? ⟨g, i * 7 + 1, none⟩ = some (.int .i64 x.packet.id) ∧ W.cell? ⟨g, i * 7 + 2, none⟩ = some (.int .i64 x.packet.source) ∧ W.cell? ⟨g, i * 7 + 3, none⟩ = some (.int .i64 x.packet.dest) ∧
    W.cell? ⟨g, i * 7 + 4, none⟩ = some (.int .i64 x.packet.port) ∧ W.cell? ⟨g, i * 7 + 5, none⟩ = some (.int .i64 x.packet.mark) ∧ W.cell? ⟨g, i * 7 + 6, none⟩ = some (.int .i64 x.packet.size) := by
  subst hx
  exact ⟨h.cell hi 0 (by omega), h.cell hi 1 (by omega), h.cell hi 2 (by omega), h.cell hi 3 (by omega), h.cell hi 4 (by omega), h.cell hi 5 (by omega), h.cell hi 6 (by omega)⟩
theorem RowW.froz (h : RowW w0 base g n c d W) (i : Nat) : W.frozen? ⟨g, i * 7, none⟩ = false ∧ W.frozen? ⟨g, i * 7 + 1, none⟩ = false ∧ W.frozen? ⟨g, i * 7 + 2, none⟩ = false ∧ W.frozen? ⟨g, i * 7 + 3, none⟩ = false ∧ W.frozen? ⟨g, i * 7 + 4, none⟩ = false ∧ W.frozen? ⟨g, i * 7 + 5, none⟩ = false ∧ W.frozen? ⟨g, i * 7 + 6, none⟩ = false :=
  ⟨h.frozen _, h.frozen _, h.frozen _, h.frozen _, h.frozen _, h.frozen _, h.frozen _⟩
theorem RowW.put (h : RowW w0 base g n c d W) {i : Nat} (hi : i < n) (x : Timed) : RowW w0 base g n c (d.setIfInBounds i x) (put7 W g (i * 7) x) := by
  obtain ⟨cs, hB, hl, ht⟩ := h.blk
  have hle := h.hnc
  have hB2 : Blk (put7 W g (i * 7) x) g 58 (SetRow cs (i * 7) (encTimed x)) :=
    (((((((hB.set_ (i * 7) (.int .i64 x.tick)).set_ (i * 7 + 1) (.int .i64 x.packet.id)).set_ (i * 7 + 2) (.int .i64 x.packet.source)).set_ (i * 7 + 3) (.int .i64 x.packet.dest)).set_ (i * 7 + 4) (.int .i64 x.packet.port)).set_ (i * 7 + 5) (.int .i64 x.packet.mark)).set_ (i * 7 + 6) (.int .i64 x.packet.size))
  have hbg := h.hbg
  refine ⟨⟨_, hB2, by rw [setRow_length, hl], ?_⟩, by rw [Array.size_setIfInBounds, h.len], h.hnc, h.hcm, h.hbg,
    (((((((h.ext.setCell (p := ⟨g, i * 7, none⟩) hbg _).setCell (p := ⟨g, i * 7 + 1, none⟩) hbg _).setCell (p := ⟨g, i * 7 + 2, none⟩) hbg _).setCell (p := ⟨g, i * 7 + 3, none⟩) hbg _).setCell (p := ⟨g, i * 7 + 4, none⟩) hbg _).setCell (p := ⟨g, i * 7 + 5, none⟩) hbg _).setCell (p := ⟨g, i * 7 + 6, none⟩) hbg _)⟩
  rw [Array.toList_setIfInBounds]
  exact take_setRow encTimed_len (by rw [Array.length_toList, h.len]) hi ht (by rw [hl]; exact Nat.mul_le_mul_right 7 h.hnc)
theorem RowW.swap (h : RowW w0 base g n c d W) {i j : Nat} (hi : i < n) (hj : j < n) {x y : Timed} (hx : d[i]! = x) (hy : d[j]! = y) : RowW w0 base g n c (swp d i j) (put7 (put7 W g (i * 7) y) g (j * 7) x) := by
  subst hx; subst hy
  exact (h.put hi _).put hj _
end

/-! ### The comparison -/
def cmpZ (a b : Int) : Int := if a < b then -1 else if b < a then 1 else 0
theorem cmpZ_lt {a b : Int} : decide (cmpZ a b < 0) = decide (a < b) := by
  unfold cmpZ
  by_cases h : a < b
  · simp [h]
  · by_cases h2 : b < a <;> simp [h, h2]
theorem compareInts_any (a b : Int) (w : World) : Calls Try.prog 64 #[.int .i64 a, .int .i64 b] w fun e w' => e = .returned (.int .i64 (cmpZ a b)) ∧ w = w' := by
  unfold cmpZ
  by_cases h : a < b
  · go_enter Try.func64, Try.ntmps64
    go_wp2_with fail
    go_ret
    exact ⟨rfl, rfl⟩
  · by_cases h2 : b < a
    · go_enter Try.func64, Try.ntmps64
      go_wp2_with fail
      go_ret
      exact ⟨rfl, rfl⟩
    · go_enter Try.func64, Try.ntmps64
      go_wp2_with fail
      go_ret
      exact ⟨rfl, rfl⟩
theorem cmpT_any (x y : Timed) (w : World) : Calls Try.prog 63 #[.agg #[.int .i64 x.tick, .int .i64 x.packet.id, .int .i64 x.packet.source, .int .i64 x.packet.dest, .int .i64 x.packet.port, .int .i64 x.packet.mark, .int .i64 x.packet.size], .agg #[.int .i64 y.tick, .int .i64 y.packet.id, .int .i64 y.packet.source, .int .i64 y.packet.dest, .int .i64 y.packet.port, .int .i64 y.packet.mark, .int .i64 y.packet.size]] w fun e w' => e = .returned (.int .i64 (cmpZ x.tick y.tick)) ∧ Below w.heap.size w w' := by
  go_enter Try.func63, Try.ntmps63
  go_wp2_with (go_at_call 64; refine (compareInts_any _ _ _).mono ?_; rintro e w1 ⟨rfl, rfl⟩)
  go_ret
  exact ⟨rfl, ext_alloc (ext_alloc (ext_refl w) _) _⟩
end Go.Proofs.Ytnnihiajggdplaa
