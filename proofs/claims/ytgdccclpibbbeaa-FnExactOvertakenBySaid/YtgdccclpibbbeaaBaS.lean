/- The eight queues in memory: a block of eight slices, each a queue of its own. -/
import Derived.Test.YtgdccclpibbbeaaBaQ
namespace Go.Proofs.Ytgdccclpibbbeaa
open Go.RowKit

def nq (q : List Nat) : List Value := q.map fun i : Nat => Value.int .i64 (i : Int)
structure QsV (w : World) (base g8 : Nat) (t : TypeId) (qs : Qs) (vs : List Value) : Prop where
  lo : g8 < base
  hi : base ≤ w.heap.size
  ql : qs.length = 8
  vl : vs.length = 8
  blk : Blk w g8 t vs
  row : ∀ b v, vs[b]? = some v → QRow w base v (nq (qAt qs b))
  apart : ∀ (b c : Nat) (v v' : Value) (g : Nat), b ≠ c → vs[b]? = some v → vs[c]? = some v' → v.ownBlock = some g → v'.ownBlock ≠ some g

theorem QRow.own {w : World} {base : Nat} {v : Value} {xs : List Value} (h : QRow w base v xs) {g : Nat} (hg : v.ownBlock = some g) : base ≤ g ∧ g < w.heap.size := by
  rcases h with ⟨rfl, _⟩ | ⟨g1, o, cap, cur, rfl, hb, hB, _⟩
  · cases hg
  · injection hg with hg
    subst hg
    exact ⟨hb, hB.lt⟩
theorem QsV.grown {w w' : World} {base g8 : Nat} {t : TypeId} {qs : Qs} {vs : List Value} (h : QsV w base g8 t qs vs) {row : Option Nat} (hg : w.grownBy w' row) (hr : ∀ g, row = some g → g < base ∧ g ≠ g8) : QsV w' base g8 t qs vs :=
  ⟨h.lo, Nat.le_trans h.hi hg.size, h.ql, h.vl, h.blk.grown hg (fun e => (hr _ e.symm).2 rfl), fun b v hv => (h.row b v hv).later hg (fun g ho e => by have := (hr g e.symm).1; have := ((h.row b v hv).own ho).1; omega), h.apart⟩
theorem QsV.set {w w2 : World} {base g8 : Nat} {t : TypeId} {qs : Qs} {vs : List Value} (h : QsV w base g8 t qs vs) {b : Nat} {v v' : Value} {q' : List Nat} (hb : b < 8) (hv : vs[b]? = some v) (hg : w.grownBy w2 v.ownBlock)
    (hq : QRow w2 base v' (nq q')) (ho : v'.ownBlock = v.ownBlock ∨ ∃ k, w.heap.size ≤ k ∧ v'.ownBlock = some k) : QsV (w2.setCell ⟨g8, b, none⟩ v') base g8 t (qs.set b q') (vs.set b v') := by
  have hlo := h.lo
  have hhi := h.hi
  have hg8 : some g8 ≠ v.ownBlock := fun e => by have := ((h.row b v hv).own e.symm).1; omega
  have hst : w2.grownBy (w2.setCell ⟨g8, b, none⟩ v') (some g8) := ⟨rfl, rfl, rfl, by simp [World.setCell], fun k _ hk => Below.heap_setCell w2 _ v' k (fun e => hk (by simp [e]))⟩
  refine ⟨hlo, Nat.le_trans hhi (Nat.le_trans hg.size hst.size), by simp [h.ql], by simp [h.vl], (h.blk.grown hg hg8).set_ _ _, ?_, ?_⟩
  · intro c u hu
    rw [List.getElem?_set] at hu
    rw [qAt_set _ _ _ _ (by rw [h.ql]; exact hb)]
    by_cases hc : b = c
    · subst hc
      rw [if_pos rfl, if_pos (by rw [h.vl]; exact hb)] at hu
      injection hu with hu
      subst hu
      rw [if_pos rfl]
      exact hq.later hst (fun g ho e => by have := (hq.own ho).1; injection e with e; omega)
    · rw [if_neg hc] at hu
      rw [if_neg (Ne.symm hc)]
      refine ((h.row c u hu).later hg (fun g ho e => ?_)).later hst (fun g ho e => by have := ((h.row c u hu).own ho).1; injection e with e; omega)
      exact h.apart c b u v g (Ne.symm hc) hu hv ho e.symm
  · have key : ∀ c u g, c ≠ b → vs[c]? = some u → u.ownBlock = some g → v'.ownBlock ≠ some g := by
      intro c u g hc hu hog e
      rcases ho with ho | ⟨k, hk, ho⟩
      · exact h.apart c b u v g hc hu hv hog (ho ▸ e)
      · rw [ho] at e
        injection e with e
        have := ((h.row c u hu).own hog).2
        omega
    intro c d u u' g hcd hu hu' hog
    rw [List.getElem?_set] at hu hu'
    by_cases hc : b = c
    · have hd : ¬ b = d := fun e => hcd (hc.symm.trans e)
      rw [if_pos hc, if_pos (by rw [h.vl]; omega)] at hu
      rw [if_neg hd] at hu'
      injection hu with hu
      subst hu
      exact fun e => key d u' g (Ne.symm hd) hu' e hog
    · rw [if_neg hc] at hu
      by_cases hd : b = d
      · rw [if_pos hd, if_pos (by rw [h.vl]; omega)] at hu'
        injection hu' with hu'
        subst hu'
        exact key c u g (Ne.symm hc) hu hog
      · rw [if_neg hd] at hu'
        exact h.apart c d u u' g hcd hu hu' hog
theorem QsV.start {w : World} {base g8 : Nat} {t : TypeId} (h1 : g8 < base) (h2 : base ≤ w.heap.size) (hB : Blk w g8 t (List.replicate 8 (.slice none 0 0))) : QsV w base g8 t (List.replicate 8 []) (List.replicate 8 (.slice none 0 0)) := by
  refine ⟨h1, h2, rfl, rfl, hB, fun b v hv => ?_, fun b c v v' g _ hv hv' ho => ?_⟩
  · rw [List.getElem?_replicate] at hv
    split at hv
    · injection hv with hv
      subst hv
      have : qAt (List.replicate 8 []) b = [] := by
        unfold qAt
        rw [List.getD_eq_getElem?_getD, List.getElem?_replicate]
        split <;> rfl
      rw [this]
      exact QRow.nil _ _
    · cases hv
  · rw [List.getElem?_replicate] at hv
    split at hv
    · injection hv with hv
      subst hv
      cases ho
    · cases hv

end Go.Proofs.Ytgdccclpibbbeaa
