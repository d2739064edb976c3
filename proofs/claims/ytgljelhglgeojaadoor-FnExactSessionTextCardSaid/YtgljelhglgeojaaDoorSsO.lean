/- Sessions as arguments: what a value of the type looks like, and a row of such. -/
import Derived.Test.YtgljelhglgeojaaDoorDeP
import Derived.Deep.RegionHeld3
namespace Go.Proofs.YtgljelhglgeojaaDoor
open Go.RowKit Go.ChangeShapes Go.WideShapes Go.ChangeAt Go.Deep

/-- A session in memory: its data, and where its sizes lie (address, length, capacity). -/
structure SesV extends Ses where
  A : Option Addr
  (m c : Nat)
def encSes (x : SesV) : List Value := [.int .i64 x.f, .int .i64 x.l, .int .i64 x.s, .int .i64 x.st, .int .i64 x.ba, .int .i64 x.se, .slice x.A x.m x.c]
theorem encSes_len (x : SesV) : (encSes x).length = 7 := rfl
def SRd (w : World) (x : SesV) : Prop := x.m ≤ 9223372036854775807 ∧ Rd w 1 x.A x.m (x.zs.map (Value.int .i64))
theorem SRd.below {w w' : World} {x : SesV} (h : SRd w x) (hb : Below w.heap.size w w') : SRd w' x := ⟨h.1, h.2.below hb⟩

section
variable {H : Type} {enc : TypeId × Value → H} {P : Program} {w : World} {base : Nat} {spare : Nat → Bool} {held : Bool}
/-- A slice whose elements' cells read each as some x. -/
theorem open_cells {α : Type} (encX : α → List Value) (m : Nat) (hm0 : 0 < m) (hm : ∀ a, (encX a).length = m) {Q : α → Prop}
    {t e : TypeId} {fuel : Nat} {cs : List Value} {z : DataW H × List MemPlace} (ht : P.underlying t = some (.slice e)) (hC : P.cellsOf e = m)
    (hmk : ∀ (fuel : Nat) (cs : List Value) (z : DataW H × List MemPlace), DataW.trod enc P w base spare held fuel e cs = some z → cs.length = m → ∃ x : α, cs = encX x ∧ Q x)
    (hf : DataW.trod enc P w base spare held fuel t cs = some z) :
    ∃ (A : Option Addr) (n c : Nat) (xs : List α), cs = [.slice A n c] ∧ n ≤ 9223372036854775807 ∧ Rd w m A n (xs.flatMap encX) ∧ ∀ x ∈ xs, Q x := by
  rcases open_slice ht hf with ⟨hcs, _⟩ | ⟨a, n, c, mm, nn, D, Pl, hcs, hb, hl, hcm, hmm, hx, hi⟩
  · exact ⟨none, 0, 0, [], hcs, by omega, ⟨by simp, fun h => absurd h (by omega)⟩, by simp⟩
  · have hnm : n ≤ mm := by rw [hmm]; split <;> omega
    have hone : ∀ i, i < n → ∃ x : α, (∀ j, j < m → w.cell? (a.add (i * m + j)) = (encX x)[j]?) ∧ Q x := by
      intro i hin
      obtain ⟨cs', hc, htr⟩ := hi i (by omega)
      obtain ⟨_, hcl, hat⟩ := World.cells?_some hc
      rw [hC] at hcl hat
      obtain ⟨x, rfl, hq⟩ := hmk nn cs' _ htr hcl
      refine ⟨x, fun j hj => ?_, hq⟩
      rw [← hat j hj, Go.Deep.add_add]
    obtain ⟨xs, hxl, hxs⟩ := exists_list n hone
    refine ⟨some a, n, c, xs, hcs, by simp only [maxLen] at hcm; omega, ⟨by rw [flat_len encX m hm, hxl], fun hn => ?_⟩, fun x hx => ?_⟩
    · have hx0 : xs[0]? = some (xs[0]'(by omega)) := List.getElem?_eq_getElem _
      have hc0 := (hxs 0 _ hx0).1 0 (by omega)
      simp only [Nat.zero_mul, Nat.zero_add] at hc0
      have he0 : (encX (xs[0]'(by omega)))[0]? = some ((encX (xs[0]'(by omega)))[0]'(by rw [hm]; omega)) := List.getElem?_eq_getElem _
      rw [he0] at hc0
      obtain ⟨b, off, spot⟩ := a
      have hspot : spot = none := by simpa [Addr.add] using World.cell?_spot hc0
      subst hspot
      refine ⟨b, off, rfl, by simpa [Addr.add] using World.block_lt_of_cell? w _ hc0, fun j u hu => ?_⟩
      have hjl : j < n * m := by
        have := (List.getElem?_eq_some_iff.1 hu).1
        rwa [flat_len encX m hm, hxl] at this
      have hq : j / m < n := Nat.div_lt_of_lt_mul (by rw [Nat.mul_comm]; exact hjl)
      have hxq : xs[j / m]? = some (xs[j / m]'(by omega)) := List.getElem?_eq_getElem _
      have hcell := (hxs _ _ hxq).1 (j % m) (Nat.mod_lt _ (by omega))
      have hg := flat_get encX m hm xs (j / m) (j % m) _ hxq (Nat.mod_lt _ (by omega))
      have hdm : j / m * m + j % m = j := by rw [Nat.mul_comm]; exact Nat.div_add_mod j m
      rw [hdm] at hcell hg
      rw [← Go.WideShapes.add_plain, hcell, ← hg, hu]
    · obtain ⟨i, hi⟩ := List.getElem?_of_mem hx
      exact (hxs i x hi).2
theorem open_ints_cells {t e : TypeId} {fuel : Nat} {cs : List Value} {z : DataW H × List MemPlace} (ht : P.underlying t = some (.slice e)) (hint : allInt P 5 e = true) (hC : P.cellsOf e = 1) (hf : DataW.trod enc P w base spare held fuel t cs = some z) :
    ∃ (A : Option Addr) (n c : Nat) (xs : List Int), cs = [.slice A n c] ∧ n ≤ 9223372036854775807 ∧ Rd w 1 A n (xs.map (Value.int .i64)) := by
  obtain ⟨A, n, c, xs, h1, h2, h3, _⟩ := open_cells encInt 1 (by omega) encInt_len (Q := fun _ => True) ht hC (fun fuel cs z h hl => by
    match cs, hl with
    | [a], _ =>
      obtain ⟨k, rfl⟩ := trod_allInt 5 e fuel [a] z hint h 0 a rfl
      exact ⟨k, rfl, trivial⟩) hf
  exact ⟨A, n, c, xs, h1, h2, by rw [← map_flat]; exact h3⟩
end
section
variable {H : Type} {enc : TypeId × Value → H} {w : World} {base : Nat} {spare : Nat → Bool} {held : Bool}
set_option maxRecDepth 100000 in
theorem ses_cells (fuel : Nat) (cs : List Value) (z : DataW H × List MemPlace) (h : DataW.trod enc Tryd.prog w base spare held fuel 26 cs = some z) (hl : cs.length = 7) : ∃ y : SesV, cs = encSes y ∧ SRd w y := by
  obtain ⟨ys, n', _, _, hlen, hyl, hf⟩ := DataW.trod_struct Tryd.underlying26 h
  have hs : ∀ i, i < 5 → ∃ y, ys[i]? = some y := fun i hi => ⟨ys[i]'(by rw [hyl]; exact hi), List.getElem?_eq_getElem _⟩
  have k3 : Tryd.prog.cellsOf 23 = 3 := by kernel_rfl
  have k1 : Tryd.prog.cellsOf 3 = 1 := by kernel_rfl
  have ks : Tryd.prog.cellsOf 24 = 1 := by kernel_rfl
  match cs, hl with
  | [c0, c1, c2, c3, c4, c5, c6], _ =>
    obtain ⟨y0, e0⟩ := hs 0 (by omega)
    obtain ⟨y1, e1⟩ := hs 1 (by omega)
    obtain ⟨y2, e2⟩ := hs 2 (by omega)
    obtain ⟨y3, e3⟩ := hs 3 (by omega)
    obtain ⟨y4, e4⟩ := hs 4 (by omega)
    have h0 : DataW.trod enc Tryd.prog w base spare held n' 23 [c0, c1, c2] = some y0 := by
      have q : DataW.trod enc Tryd.prog w base spare held n' 23 (([c0, c1, c2, c3, c4, c5, c6].drop 0).take (Tryd.prog.cellsOf 23)) = ys[0]? := hf 0 _ rfl
      rw [k3, e0] at q
      exact q
    have h1 : DataW.trod enc Tryd.prog w base spare held n' 3 [c3] = some y1 := by
      have q : DataW.trod enc Tryd.prog w base spare held n' 3 (([c0, c1, c2, c3, c4, c5, c6].drop 3).take (Tryd.prog.cellsOf 3)) = ys[1]? := hf 1 _ rfl
      rw [k1, e1] at q
      exact q
    have h2 : DataW.trod enc Tryd.prog w base spare held n' 3 [c4] = some y2 := by
      have q : DataW.trod enc Tryd.prog w base spare held n' 3 (([c0, c1, c2, c3, c4, c5, c6].drop 4).take (Tryd.prog.cellsOf 3)) = ys[2]? := hf 2 _ rfl
      rw [k1, e2] at q
      exact q
    have h3 : DataW.trod enc Tryd.prog w base spare held n' 3 [c5] = some y3 := by
      have q : DataW.trod enc Tryd.prog w base spare held n' 3 (([c0, c1, c2, c3, c4, c5, c6].drop 5).take (Tryd.prog.cellsOf 3)) = ys[3]? := hf 3 _ rfl
      rw [k1, e3] at q
      exact q
    have h4 : DataW.trod enc Tryd.prog w base spare held n' 24 [c6] = some y4 := by
      have q : DataW.trod enc Tryd.prog w base spare held n' 24 (([c0, c1, c2, c3, c4, c5, c6].drop 6).take (Tryd.prog.cellsOf 24)) = ys[4]? := hf 4 _ rfl
      rw [ks, e4] at q
      exact q
    obtain ⟨f, hf0⟩ := trod_allInt 5 23 n' [c0, c1, c2] y0 (by kernel_rfl) h0 0 c0 rfl
    obtain ⟨l, hl0⟩ := trod_allInt 5 23 n' [c0, c1, c2] y0 (by kernel_rfl) h0 1 c1 rfl
    obtain ⟨s, hs0⟩ := trod_allInt 5 23 n' [c0, c1, c2] y0 (by kernel_rfl) h0 2 c2 rfl
    obtain ⟨st, h5⟩ := trod_allInt 5 3 n' [c3] y1 (by kernel_rfl) h1 0 c3 rfl
    obtain ⟨ba, h6⟩ := trod_allInt 5 3 n' [c4] y2 (by kernel_rfl) h2 0 c4 rfl
    obtain ⟨se, h7⟩ := trod_allInt 5 3 n' [c5] y3 (by kernel_rfl) h3 0 c5 rfl
    obtain ⟨A, m, c, zs, h8, h9, h10⟩ := open_ints_cells Tryd.underlying24 (by kernel_rfl) k1 h4
    injection h8 with h8 _
    subst hf0; subst hl0; subst hs0; subst h5; subst h6; subst h7; subst h8
    exact ⟨⟨⟨f, l, s, st, ba, se, zs⟩, A, m, c⟩, rfl, h9, h10⟩
set_option maxRecDepth 100000 in
theorem openSes {r : Reach} {b0 : Nat} {v : Value} {d : DataW H} {q : List MemPlace} (hv : Value.okWide Tryd.prog w r b0 26 v) (h : DataW.Trod enc Tryd.prog w base spare held 26 v d q) :
    ∃ y : SesV, v = .agg (encSes y).toArray ∧ SRd w y := by
  obtain ⟨cs0, rfl, hl0, _⟩ := okWide_cells Tryd.underlying26 (ts := [3, 3, 3, 3, 3, 3, 24]) (by kernel_rfl) (by kernel_rfl) hv
  obtain ⟨fuel, hf⟩ := h
  obtain ⟨y, rfl, hy⟩ := ses_cells fuel cs0 _ hf hl0
  exact ⟨y, rfl, hy⟩
end
end Go.Proofs.YtgljelhglgeojaaDoor
