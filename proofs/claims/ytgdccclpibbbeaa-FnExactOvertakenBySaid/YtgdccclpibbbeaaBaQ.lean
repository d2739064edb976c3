/- A queue of ints: a slice of the call's own at some offset; append of one; the first taken off. -/
import Derived.Test.YtgdccclpibbbeaaBaR
import Derived.Test.YtgdccclpibbbeaaApp
import Derived.ArgAppend
namespace Go.Proofs.Ytgdccclpibbbeaa
open Go.RowKit

def QRow (w : World) (base : Nat) (v : Value) (xs : List Value) : Prop :=
  (v = .slice none 0 0 ∧ xs = []) ∨ ∃ (g o cap : Nat) (cur : List Value), v = .slice (some ⟨g, o, none⟩) xs.length cap ∧ base ≤ g ∧ Blk w g 3 cur ∧ xs.length ≤ cap ∧ o + cap ≤ cur.length ∧ (∀ j, j < xs.length → cur[o + j]? = xs[j]?)

theorem QRow.nil (w : World) (base : Nat) : QRow w base (.slice none 0 0) [] := .inl ⟨rfl, rfl⟩
theorem QRow.later {w w' : World} {base : Nat} {v : Value} {xs : List Value} {row : Option Nat} (h : QRow w base v xs) (hg : w.grownBy w' row) (hne : ∀ g, v.ownBlock = some g → some g ≠ row) : QRow w' base v xs := by
  rcases h with h | ⟨g, o, cap, cur, rfl, hb, hB, hc, hf, hv⟩
  · exact .inl h
  · exact .inr ⟨g, o, cap, cur, rfl, hb, hB.grown hg (hne g rfl), hc, hf, hv⟩
theorem QRow.tail {w : World} {base g o cap : Nat} {x : Value} {xs : List Value} (h : QRow w base (.slice (some ⟨g, o, none⟩) (xs.length + 1) cap) (x :: xs)) :
    QRow w base (.slice (some ⟨g, if cap = 1 then o else o + 1, none⟩) xs.length (cap - 1)) xs := by
  rcases h with ⟨h, _⟩ | ⟨g1, o1, cap1, cur, he, hb, hB, hc, hf, hv⟩
  · cases h
  · injection he with h1 h2 h3
    injection h1 with h1
    injection h1 with h1 h4
    subst h1; subst h4; subst h3
    simp only [List.length_cons] at hc hv
    refine .inr ⟨g, _, cap - 1, cur, rfl, hb, hB, by omega, by split <;> omega, ?_⟩
    intro j hj
    rw [if_neg (by omega)]
    have := hv (j + 1) (by omega)
    rw [List.getElem?_cons_succ] at this
    rw [← this]
    congr 1
    omega

theorem qrow_append (w : World) (base : Nat) (v : Value) (xs : List Value) (u : Value) (ad : Addr) (c : Nat) (h : QRow w base v xs) (hb : base ≤ w.heap.size) (hl : xs.length ≤ 1000) (hu : w.cell? ad = some u) (h1 : u.oneCell' = true) :
    ∃ v' w', (Builtin.append_ #[22, 22] 22 #[v, .slice (some ad) 1 c]).run Try.prog w = .ok v' w' ∧ QRow w' base v' (xs ++ [u]) ∧ w.grownBy w' v.ownBlock ∧ (v'.ownBlock = v.ownBlock ∨ v'.ownBlock = some w.heap.size) := by
  obtain ⟨i0, hi, hz0, hz1, hz2⟩ := info_parts infoInt
  have hnews : ∀ j x, [u][j]? = some x → w.cell? (ad.add j) = some x := by
    intro j x hj
    cases j with
    | zero => 
      have e : ad.add 0 = ad := by simp [Addr.add]
      rw [e]; simpa [hu] using hj
    | succ j => simp at hj
  rcases h with ⟨rfl, rfl⟩ | ⟨g, o, cap, cur, rfl, hg, hB, hc, hf, hv⟩
  · have hr := run_append_nil (P := Try.prog) w 22 22 3 i0 _ Try.underlying22 hi hz0 ad 1 c [u] (by rw [hz1]; rfl) hnews (by omega) (by omega) (by rw [hz2]; omega)
    have hge := grownCap_ge w 1 0 3
    refine ⟨_, _, hr, .inr ⟨w.heap.size, 0, _, ([u].toArray ++ Builtin.zeroCells (Value.int .i64 0).cells (grownCap w 1 0 3 - 1)).toList, rfl, hb, ?_, hge, ?_, ?_⟩, ⟨rfl, rfl, rfl, by simp, fun k hk _ => heap_alloc_old w.drew _ hk⟩, .inr rfl⟩
    · unfold Blk; rw [Array.toArray_toList]; exact heap_alloc_new w.drew _
    · simp only [Array.toList_append, List.length_append, Array.length_toList, size_zeroCells]
      have : (Value.int .i64 0).cells.size = 1 := rfl
      rw [this]; simp; omega
    · intro j hj
      obtain rfl : j = 0 := by simpa using hj
      simp
  · by_cases hroom : xs.length + 1 ≤ cap
    · have hlt : o + xs.length < cur.length := by omega
      have hr := run_append_room_cells (P := Try.prog) (w := w) 22 22 3 i0 Try.underlying22 hi g o xs.length cap ad 1 c [u] (by rw [hz1]; rfl) hnews (by intro x hx; simp at hx; subst hx; exact h1) hroom
        (by intro j hj; obtain rfl : j = 0 := by simpa using hj
            rw [hz1, hB.cell]; simp; omega) (by intro j hj; exact hB.frozen _)
      rw [hz1] at hr
      simp only [World.setCells, Nat.mul_one] at hr
      refine ⟨_, _, hr, .inr ⟨g, o, cap, cur.set (o + xs.length) u, by simp, hg, hB.set_ _ _, by simpa using hroom, by simpa using hf, ?_⟩, ?_, .inl rfl⟩
      · intro j hj
        rw [List.getElem?_set]
        by_cases hjx : j = xs.length
        · subst hjx; simp [hlt]
        · have hj2 : j < xs.length := by simp at hj; omega
          rw [if_neg (by omega), hv j hj2, List.getElem?_append_left hj2]
      · exact ⟨rfl, rfl, rfl, by simp [World.setCell], fun k _ hk => Below.heap_setCell w _ u k (fun e => hk (by simp [Value.ownBlock, e]))⟩
    · have hold : ∀ j x, xs[j]? = some x → w.cell? ((⟨g, o, none⟩ : Addr).add j) = some x := by
        intro j x hj
        have hjl : j < xs.length := by
          rcases Nat.lt_or_ge j xs.length with h | h
          · exact h
          · rw [List.getElem?_eq_none h] at hj; cases hj
        rw [Go.WideShapes.add_plain, hB.cell, hv j hjl]; exact hj
      have hr := run_append_grow (P := Try.prog) w 22 22 3 i0 _ Try.underlying22 hi hz0 ⟨g, o, none⟩ xs.length cap xs (by rw [hz1]; omega) hold ad 1 c [u] (by rw [hz1]; rfl) hnews (by omega) (by omega) (growslice_fits (by omega) (by rw [hz2]; omega))
      have hge := grownCap_ge w (xs.length + 1) cap 3
      refine ⟨_, _, hr, .inr ⟨w.heap.size, 0, grownCap w (xs.length + 1) cap 3, (xs.toArray ++ [u].toArray ++ Builtin.zeroCells (Value.int .i64 0).cells (grownCap w (xs.length + 1) cap 3 - (xs.length + 1))).toList, by simp, hb, ?_, by simpa using hge, ?_, ?_⟩, ⟨rfl, rfl, rfl, by simp, fun k hk _ => heap_alloc_old w.drew _ hk⟩, .inr rfl⟩
      · unfold Blk; rw [Array.toArray_toList]; exact heap_alloc_new w.drew _
      · simp only [Array.toList_append, List.length_append, Array.length_toList, size_zeroCells]
        have : (Value.int .i64 0).cells.size = 1 := rfl
        rw [this]; simp; omega
      · intro j hj
        simp only [Nat.zero_add, Array.toList_append]
        rw [List.getElem?_append_left (by simpa using hj)]

end Go.Proofs.Ytgdccclpibbbeaa
