/- Plain lemmas on worlds, blocks and readings: what the walks and the laws of this seat use. No condition. -/
import Derived.Test.YtnnihiajggdplaaRows
import Derived.WalkKit
import Derived.WalkSpells
import Derived.WalkLawsBesides
import Derived.Lib.Hide
import Derived.BigGuardPart
import Derived.ProofKit
import Derived.Lib.SmallJoins
import Derived.Deep.Slices
import Derived.Deep.Fields
import Derived.Deep.Draws
import Derived.Laws.MakeOwn
import Derived.Laws.OwnMore
import Derived.Deep.QuietTactic
import Derived.BigQuiet
namespace Go.Proofs.Ytnnihiajggdplaa
open Go.RowKit Go.ChangeShapes Go.WideShapes Go.ChangeAt Go.Deep

/-! ### Blocks -/

/-- Block g is just these cells, none frozen. -/
def Blk (w : World) (g : Nat) (t : TypeId) (cs : List Value) : Prop := w.heap[g]? = some (.cells cs.toArray t (0, 0))

section
variable {w w' : World} {g : Nat} {t : TypeId} {cs : List Value}
theorem Blk.lt (h : Blk w g t cs) : g < w.heap.size := by
  rcases Nat.lt_or_ge g w.heap.size with hlt | hge
  · exact hlt
  · unfold Blk at h; rw [Array.getElem?_eq_none hge] at h; cases h
theorem Blk.cell (h : Blk w g t cs) (i : Nat) : w.cell? ⟨g, i, none⟩ = cs[i]? := by
  rw [cell_of_row w g i cs.toArray t (0, 0) h]; simp
theorem Blk.frozen (h : Blk w g t cs) (i : Nat) : w.frozen? ⟨g, i, none⟩ = false := by
  unfold Blk at h
  simp [World.frozen?, h]
theorem Blk.new (w : World) (t : TypeId) (cs : List Value) : Blk (w.alloc (.cells cs.toArray t)) w.heap.size t cs := heap_alloc_new w _
theorem Blk.drew (h : Blk w g t cs) : Blk w.drew g t cs := h
theorem Blk.drewN (h : Blk w g t cs) (n : Nat) : Blk (w.drewN n) g t cs := h
theorem Blk.alloc (h : Blk w g t cs) (o : Obj) : Blk (w.alloc o) g t cs := (Below.heap_alloc w o g h.lt).trans h
theorem Blk.set_ (h : Blk w g t cs) (i : Nat) (u : Value) : Blk (w.setCell ⟨g, i, none⟩ u) g t (cs.set i u) := by
  unfold Blk at h ⊢
  simp [World.setCell, Array.getElem?_modify, h]
theorem Blk.far (h : Blk w g t cs) {p : Addr} (hp : g ≠ p.block) (u : Value) : Blk (w.setCell p u) g t cs := (Below.heap_setCell w p u g hp).trans h
theorem Blk.later {B : Nat} (h : Blk w g t cs) (hb : Below B w w') (hg : g < B) : Blk w' g t cs := (hb.block g hg).trans h
theorem Blk.below (h : Blk w g t cs) (hb : Below w.heap.size w w') : Blk w' g t cs := h.later hb h.lt
theorem Blk.grown {row : Option Nat} (h : Blk w g t cs) (hb : w.grownBy w' row) (hg : some g ≠ row) : Blk w' g t cs := (hb.block g h.lt hg).trans h
theorem Blk.one {a : Value} (h : Blk w g t [a]) : g < w.heap.size ∧ (∀ i, g < w.heap.size + i) ∧ w.cell? ⟨g, 0, none⟩ = some a ∧ w.frozen? ⟨g, 0, none⟩ = false :=
  ⟨h.lt, fun i => by have := h.lt; omega, h.cell 0, h.frozen 0⟩
theorem Blk.two {a b : Value} (h : Blk w g t [a, b]) : g < w.heap.size ∧ (∀ i, g < w.heap.size + i) ∧ (w.cell? ⟨g, 0, none⟩ = some a ∧ w.cell? ⟨g, 1, none⟩ = some b) ∧ (w.frozen? ⟨g, 0, none⟩ = false ∧ w.frozen? ⟨g, 1, none⟩ = false) :=
  ⟨h.lt, fun i => by have := h.lt; omega, ⟨h.cell 0, h.cell 1⟩, ⟨h.frozen 0, h.frozen 1⟩⟩
theorem Blk.three {a b c : Value} (h : Blk w g t [a, b, c]) : g < w.heap.size ∧ (∀ i, g < w.heap.size + i) ∧ (w.cell? ⟨g, 0, none⟩ = some a ∧ w.cell? ⟨g, 1, none⟩ = some b ∧ w.cell? ⟨g, 2, none⟩ = some c) ∧ (w.frozen? ⟨g, 0, none⟩ = false ∧ w.frozen? ⟨g, 1, none⟩ = false ∧ w.frozen? ⟨g, 2, none⟩ = false) :=
  ⟨h.lt, fun i => by have := h.lt; omega, ⟨h.cell 0, h.cell 1, h.cell 2⟩, ⟨h.frozen 0, h.frozen 1, h.frozen 2⟩⟩
theorem Blk.four {a b c d : Value} (h : Blk w g t [a, b, c, d]) : g < w.heap.size ∧ (∀ i, g < w.heap.size + i) ∧ (w.cell? ⟨g, 0, none⟩ = some a ∧ w.cell? ⟨g, 1, none⟩ = some b ∧ w.cell? ⟨g, 2, none⟩ = some c ∧ w.cell? ⟨g, 3, none⟩ = some d) ∧ (w.frozen? ⟨g, 0, none⟩ = false ∧ w.frozen? ⟨g, 1, none⟩ = false ∧ w.frozen? ⟨g, 2, none⟩ = false ∧ w.frozen? ⟨g, 3, none⟩ = false) :=
  ⟨h.lt, fun i => by have := h.lt; omega, ⟨h.cell 0, h.cell 1, h.cell 2, h.cell 3⟩, ⟨h.frozen 0, h.frozen 1, h.frozen 2, h.frozen 3⟩⟩
theorem Blk.five {a b c d e : Value} (h : Blk w g t [a, b, c, d, e]) : g < w.heap.size ∧ (∀ i, g < w.heap.size + i) ∧ (w.cell? ⟨g, 0, none⟩ = some a ∧ w.cell? ⟨g, 1, none⟩ = some b ∧ w.cell? ⟨g, 2, none⟩ = some c ∧ w.cell? ⟨g, 3, none⟩ = some d ∧ w.cell? ⟨g, 4, none⟩ = some e) ∧ (w.frozen? ⟨g, 0, none⟩ = false ∧ w.frozen? ⟨g, 1, none⟩ = false ∧ w.frozen? ⟨g, 2, none⟩ = false ∧ w.frozen? ⟨g, 3, none⟩ = false ∧ w.frozen? ⟨g, 4, none⟩ = false) :=
  ⟨h.lt, fun i => by have := h.lt; omega, ⟨h.cell 0, h.cell 1, h.cell 2, h.cell 3, h.cell 4⟩, ⟨h.frozen 0, h.frozen 1, h.frozen 2, h.frozen 3, h.frozen 4⟩⟩
theorem Blk.six {a b c d e f : Value} (h : Blk w g t [a, b, c, d, e, f]) : g < w.heap.size ∧ (∀ i, g < w.heap.size + i) ∧
    (w.cell? ⟨g, 0, none⟩ = some a ∧ w.cell? ⟨g, 1, none⟩ = some b ∧ w.cell? ⟨g, 2, none⟩ = some c ∧ w.cell? ⟨g, 3, none⟩ = some d ∧ w.cell? ⟨g, 4, none⟩ = some e ∧ w.cell? ⟨g, 5, none⟩ = some f) ∧
    (w.frozen? ⟨g, 0, none⟩ = false ∧ w.frozen? ⟨g, 1, none⟩ = false ∧ w.frozen? ⟨g, 2, none⟩ = false ∧ w.frozen? ⟨g, 3, none⟩ = false ∧ w.frozen? ⟨g, 4, none⟩ = false ∧ w.frozen? ⟨g, 5, none⟩ = false) :=
  ⟨h.lt, fun i => by have := h.lt; omega, ⟨h.cell 0, h.cell 1, h.cell 2, h.cell 3, h.cell 4, h.cell 5⟩, ⟨h.frozen 0, h.frozen 1, h.frozen 2, h.frozen 3, h.frozen 4, h.frozen 5⟩⟩
theorem Blk.seven {a b c d e f k : Value} (h : Blk w g t [a, b, c, d, e, f, k]) : g < w.heap.size ∧ (∀ i, g < w.heap.size + i) ∧
    (w.cell? ⟨g, 0, none⟩ = some a ∧ w.cell? ⟨g, 1, none⟩ = some b ∧ w.cell? ⟨g, 2, none⟩ = some c ∧ w.cell? ⟨g, 3, none⟩ = some d ∧ w.cell? ⟨g, 4, none⟩ = some e ∧ w.cell? ⟨g, 5, none⟩ = some f ∧ w.cell? ⟨g, 6, none⟩ = some k) ∧
    (w.frozen? ⟨g, 0, none⟩ = false ∧ w.frozen? ⟨g, 1, none⟩ = false ∧ w.frozen? ⟨g, 2, none⟩ = false ∧ w.frozen? ⟨g, 3, none⟩ = false ∧ w.frozen? ⟨g, 4, none⟩ = false ∧ w.frozen? ⟨g, 5, none⟩ = false ∧ w.frozen? ⟨g, 6, none⟩ = false) :=
  ⟨h.lt, fun i => by have := h.lt; omega, ⟨h.cell 0, h.cell 1, h.cell 2, h.cell 3, h.cell 4, h.cell 5, h.cell 6⟩, ⟨h.frozen 0, h.frozen 1, h.frozen 2, h.frozen 3, h.frozen 4, h.frozen 5, h.frozen 6⟩⟩
theorem Blk.nine {a b c d e f k l m : Value} (h : Blk w g t [a, b, c, d, e, f, k, l, m]) : g < w.heap.size ∧ (∀ i, g < w.heap.size + i) ∧
    (w.cell? ⟨g, 0, none⟩ = some a ∧ w.cell? ⟨g, 1, none⟩ = some b ∧ w.cell? ⟨g, 2, none⟩ = some c ∧ w.cell? ⟨g, 3, none⟩ = some d ∧ w.cell? ⟨g, 4, none⟩ = some e ∧ w.cell? ⟨g, 5, none⟩ = some f ∧ w.cell? ⟨g, 6, none⟩ = some k ∧ w.cell? ⟨g, 7, none⟩ = some l ∧ w.cell? ⟨g, 8, none⟩ = some m) ∧
    (w.frozen? ⟨g, 0, none⟩ = false ∧ w.frozen? ⟨g, 1, none⟩ = false ∧ w.frozen? ⟨g, 2, none⟩ = false ∧ w.frozen? ⟨g, 3, none⟩ = false ∧ w.frozen? ⟨g, 4, none⟩ = false ∧ w.frozen? ⟨g, 5, none⟩ = false ∧ w.frozen? ⟨g, 6, none⟩ = false ∧ w.frozen? ⟨g, 7, none⟩ = false ∧ w.frozen? ⟨g, 8, none⟩ = false) :=
  ⟨h.lt, fun i => by have := h.lt; omega, ⟨h.cell 0, h.cell 1, h.cell 2, h.cell 3, h.cell 4, h.cell 5, h.cell 6, h.cell 7, h.cell 8⟩, ⟨h.frozen 0, h.frozen 1, h.frozen 2, h.frozen 3, h.frozen 4, h.frozen 5, h.frozen 6, h.frozen 7, h.frozen 8⟩⟩
end

/-- What a call that makes memory leaves: the world has only grown. -/
theorem ext_trans {a b c : World} (h : Below a.heap.size a b) (k : Below b.heap.size b c) : Below a.heap.size a c := h.trans (k.mono h.size)
theorem ext_alloc {a b : World} (h : Below a.heap.size a b) (o : Obj) : Below a.heap.size a (b.alloc o) := h.alloc h.size o
theorem ext_refl (a : World) : Below a.heap.size a a := Below.refl _ _
theorem ext_drew {a b : World} (h : Below a.heap.size a b) : Below a.heap.size a b.drew := h.drew
theorem below_drewN {B : Nat} {a w : World} (h : Below B a w) (n : Nat) : Below B a (w.drewN n) := ⟨h.os, h.tape, h.output, h.size, h.block⟩
theorem ext_drewN {a b : World} (h : Below a.heap.size a b) (n : Nat) : Below a.heap.size a (b.drewN n) := below_drewN h n

/-! ### A slice that reads as a list of cells, n elements of so many cells; wherever it lies -/
def Rd (w : World) (size : Nat) (A : Option Addr) (n : Nat) (cs : List Value) : Prop :=
  cs.length = n * size ∧ (0 < n → ∃ b o, A = some ⟨b, o, none⟩ ∧ b < w.heap.size ∧ ∀ j u, cs[j]? = some u → w.cell? ⟨b, o + j, none⟩ = some u)

section
variable {w w' : World} {size n : Nat} {A : Option Addr} {cs : List Value}
theorem Rd.keep (h : Rd w size A n cs) (hs : w.heap.size ≤ w'.heap.size) (hk : ∀ p : Addr, p.block < w.heap.size → w'.cell? p = w.cell? p) : Rd w' size A n cs :=
  ⟨h.1, fun hn => by
    obtain ⟨b, o, e, hb, hc⟩ := h.2 hn
    exact ⟨b, o, e, by omega, fun j u hu => (hk _ hb).trans (hc j u hu)⟩⟩
theorem Rd.below (h : Rd w size A n cs) (hb : Below w.heap.size w w') : Rd w' size A n cs := h.keep hb.size fun _ hp => hb.cell hp
theorem Rd.alloc (h : Rd w size A n cs) (o : Obj) : Rd (w.alloc o) size A n cs := h.keep (by simp) fun p hp => World.cell?_alloc_lt w o p hp
theorem Rd.drew (h : Rd w size A n cs) : Rd w.drew size A n cs := h
theorem Rd.drewN (h : Rd w size A n cs) (k : Nat) : Rd (w.drewN k) size A n cs := h
theorem Rd.of_blk {g : Nat} {t : TypeId} (h : Blk w g t cs) (hl : cs.length = n * size) : Rd w size (some ⟨g, 0, none⟩) n cs :=
  ⟨hl, fun _ => ⟨g, 0, rfl, h.lt, fun j u hu => by rw [Nat.zero_add, h.cell, hu]⟩⟩
theorem Rd.of_own {base : Nat} {e : TypeId} {c : Nat} (h : w.ownsRow base e size (.slice A n c) n cs) : Rd w size A n cs := by
  refine ⟨h.1, fun hn => ?_⟩
  rcases h.2 with ⟨_, h0⟩ | ⟨g, cap, cur, hv, _, hg, _, _, _, htake⟩
  · omega
  · have hA : A = some ⟨g, 0, none⟩ := by injection hv
    subst hA
    refine ⟨g, 0, rfl, (Array.getElem?_eq_some_iff.1 hg).1, fun j u hu => ?_⟩
    rw [Nat.zero_add, cell_of_row w g j cur e (0, 0) hg]
    rw [← htake, List.getElem?_take] at hu
    split at hu
    · simpa using hu
    · cases hu
/-- What is known at index k of an int slice. -/
theorem Rd.int {xs : List Int} (h : Rd w 1 A n (xs.map (Value.int .i64))) (k : Nat) (hk : k < n) :
    ∃ (b o : Nat) (x : Int), A = some ⟨b, o, none⟩ ∧ b < w.heap.size ∧ xs[k]? = some x ∧ w.cell? ⟨b, o + k, none⟩ = some (.int .i64 x) := by
  obtain ⟨b, o, e, hb, hc⟩ := h.2 (by omega)
  have hl : k < xs.length := by have := h.1; simp at this; omega
  exact ⟨b, o, xs[k], e, hb, List.getElem?_eq_getElem hl, hc k _ (by simp [hl])⟩
theorem Rd.len1 {xs : List Int} (h : Rd w 1 A n (xs.map (Value.int .i64))) : xs.length = n := by have := h.1; simpa using this
end

/-! ### Rows of structs, flat -/
theorem flat_len {α : Type} (enc : α → List Value) (m : Nat) (hm : ∀ a, (enc a).length = m) (xs : List α) : (xs.flatMap enc).length = xs.length * m := by
  induction xs with
  | nil => simp
  | cons x xs ih => simp [hm, ih, Nat.add_mul, Nat.add_comm]
theorem flat_get {α : Type} (enc : α → List Value) (m : Nat) (hm : ∀ a, (enc a).length = m) : ∀ (xs : List α) (k j : Nat) (a : α), xs[k]? = some a → j < m → (xs.flatMap enc)[k * m + j]? = (enc a)[j]?
  | [], k, j, a, h, _ => by simp at h
  | x :: xs, 0, j, a, h, hj => by
    simp at h; subst h
    simp [List.getElem?_append, hm, hj]
  | x :: xs, k + 1, j, a, h, hj => by
    simp at h
    have := flat_get enc m hm xs k j a h hj
    rw [List.flatMap_cons, List.getElem?_append_right (by rw [hm, Nat.add_mul]; omega), hm, ← this]
    congr 1
    rw [Nat.add_mul]; omega

/-! ### Cells written one behind the other -/
def SetRow : List Value → Nat → List Value → List Value
  | cs, _, [] => cs
  | cs, p, v :: vs => SetRow (cs.set p v) (p + 1) vs
theorem setRow_length : ∀ (vs cs : List Value) (p : Nat), (SetRow cs p vs).length = cs.length
  | [], _, _ => rfl
  | v :: vs, cs, p => by rw [SetRow, setRow_length vs]; simp
theorem setRow_get : ∀ (vs cs : List Value) (p j : Nat), p + vs.length ≤ cs.length → (SetRow cs p vs)[j]? = if p ≤ j ∧ j < p + vs.length then vs[j - p]? else cs[j]?
  | [], cs, p, j, _ => by rw [SetRow, if_neg (by simp)]
  | v :: vs, cs, p, j, h => by
    simp only [List.length_cons] at h
    rw [SetRow, setRow_get vs (cs.set p v) (p + 1) j (by simp; omega)]
    simp only [List.length_cons]
    by_cases h1 : p + 1 ≤ j ∧ j < p + 1 + vs.length
    · rw [if_pos h1, if_pos (by omega), show j - p = (j - (p + 1)) + 1 by omega, List.getElem?_cons_succ]
    · rw [if_neg h1, List.getElem?_set]
      by_cases h2 : p = j
      · subst h2
        simp; omega
      · rw [if_neg h2, if_neg (by omega)]

/-- The loop of a copier: block g, so far. -/
def ToRel (w : World) (g : Nat) (t : TypeId) (n m : Nat) (F : List Value) (i : Value) (wr : World) : Prop :=
  ∃ k : Nat, k ≤ n ∧ i = .int .i64 k ∧ ∃ cs, Blk wr g t cs ∧ cs.length = n * m ∧ (∀ j, j < k * m → cs[j]? = F[j]?) ∧ Below g w wr
theorem toRel_start {w : World} {t : TypeId} {n m : Nat} {z : Array Value} {F : List Value} : ToRel w w.heap.size t n m F (.int .i64 0) (w.alloc (.cells (madeCells z (n * m)) t)) :=
  ⟨0, Nat.zero_le _, rfl, (madeCells z (n * m)).toList, heap_alloc_new w _, by rw [Array.length_toList, size_madeCells], fun j hj => by omega, ext_alloc (ext_refl w) _⟩
theorem toRel_step {α : Type} {enc : α → List Value} {m : Nat} (hm : ∀ a, (enc a).length = m) {w w2 : World} {g : Nat} {t : TypeId} {n k : Nat} {xs : List α} {x : α} {cs : List Value}
    (hx : xs[k]? = some x) (hk : k < n) (hl : cs.length = n * m) (hcs : ∀ j, j < k * m → cs[j]? = (xs.flatMap enc)[j]?) (hB : Blk w2 g t (SetRow cs (k * m) (enc x))) (hb : Below g w w2) :
    ToRel w g t n m (xs.flatMap enc) (.int .i64 ((k : Int) + 1)) w2 := by
  have hkm : k * m + m ≤ n * m := by
    have := Nat.mul_le_mul_right m (show k + 1 ≤ n by omega)
    rw [Nat.add_mul] at this; omega
  refine ⟨k + 1, by omega, by simp, _, hB, by rw [setRow_length, hl], fun j hj => ?_, hb⟩
  rw [setRow_get _ _ _ _ (by rw [hm, hl]; exact hkm), hm]
  rw [Nat.add_mul] at hj
  by_cases h1 : k * m ≤ j ∧ j < k * m + m
  · rw [if_pos h1, ← flat_get enc m hm xs k (j - k * m) x hx (by omega)]
    congr 1; omega
  · rw [if_neg h1]
    exact hcs j (by omega)
theorem own_of_blk {w : World} {g base : Nat} {t : TypeId} {n m : Nat} {F : List Value} (h : Blk w g t F) (hF : F.length = n * m) (hn : n ≤ 1048576) (hb : base ≤ g) : w.ownsRow base t m (.slice (some ⟨g, 0, none⟩) n n) n F :=
  ⟨hF, .inr ⟨g, n, F.toArray, rfl, hb, h, Nat.le_refl _, by unfold maxLen; omega, by simpa using hF, by rw [← hF]; simp⟩⟩
theorem toRel_done {wr : World} {g : Nat} {t : TypeId} {n m k : Nat} {F cs : List Value} (hk : k = n) (hB : Blk wr g t cs) (hl : cs.length = n * m) (hF : F.length = n * m) (hcs : ∀ j, j < k * m → cs[j]? = F[j]?) : Blk wr g t F := by
  subst hk
  have : cs = F := by
    apply List.ext_getElem?
    intro j
    by_cases hj : j < k * m
    · exact hcs j hj
    · rw [List.getElem?_eq_none (by omega), List.getElem?_eq_none (by omega)]
  rwa [← this]

/-- The loop of a comparer. -/
def EqRel (w : World) (n : Nat) (i : Value) (wr : World) : Prop := ∃ k : Nat, k ≤ n ∧ i = .int .i64 k ∧ Below w.heap.size w wr

/-! ### Marks -/
def marks (k : Int) (N : Nat) : List Value := (List.range N).map fun (j : Nat) => Value.int .i64 (k + (j : Int))
theorem marks_len (k : Int) (N : Nat) : (marks k N).length = N := by simp [marks]
theorem marks_get (k : Int) (N j : Nat) (h : j < N) : (marks k N)[j]? = some (.int .i64 (k + j)) := by simp [marks, h]
/-- The loop of a marker over block g. -/
def MarkRel (w : World) (g : Nat) (t : TypeId) (n m : Nat) (cs0 : List Value) (k0 : Int) (kk i : Value) (wr : World) : Prop :=
  ∃ k : Nat, k ≤ n ∧ i = .int .i64 k ∧ kk = .int .i64 (k0 + (k : Int) * (m : Int)) ∧ w.grownBy wr (some g) ∧ ∃ cs, Blk wr g t cs ∧ cs.length = cs0.length ∧ (∀ j, cs[j]? = if j < k * m then some (.int .i64 (k0 + (j : Int))) else cs0[j]?)
theorem markRel_start {w : World} {g : Nat} {t : TypeId} {n m : Nat} {cs0 : List Value} {k0 : Int} (h : Blk w g t cs0) : MarkRel w g t n m cs0 k0 (.int .i64 k0) (.int .i64 0) w :=
  ⟨0, Nat.zero_le _, rfl, by simp, World.grownBy.refl w _, cs0, h, rfl, fun j => by simp⟩
theorem markRel_step {w w2 : World} {g : Nat} {t : TypeId} {n m k : Nat} {cs0 cs : List Value} {k0 q : Int} (hk : k < n) (hl : n * m ≤ cs0.length) (hl2 : cs.length = cs0.length)
    (hcs : ∀ j, cs[j]? = if j < k * m then some (.int .i64 (k0 + (j : Int))) else cs0[j]?) (hB : Blk w2 g t (SetRow cs (k * m) (marks (k0 + (k : Int) * (m : Int)) m))) (hg : w.grownBy w2 (some g)) (hq : q = k0 + ((k + 1 : Nat) : Int) * (m : Int)) :
    MarkRel w g t n m cs0 k0 (.int .i64 q) (.int .i64 ((k : Int) + 1)) w2 := by
  have hkm : k * m + m ≤ n * m := by
    have := Nat.mul_le_mul_right m (show k + 1 ≤ n by omega)
    rw [Nat.add_mul] at this; omega
  refine ⟨k + 1, by omega, by simp, by rw [hq], hg, _, hB, by rw [setRow_length, hl2], fun j => ?_⟩
  rw [setRow_get _ _ _ _ (by rw [marks_len, hl2]; omega), marks_len, Nat.add_mul]
  by_cases h1 : k * m ≤ j ∧ j < k * m + m
  · rw [if_pos h1, if_pos (by omega), marks_get _ _ _ (by omega)]
    have : ((j - k * m : Nat) : Int) = (j : Int) - (k : Int) * (m : Int) := by rw [Int.ofNat_sub h1.1]; simp
    rw [this]; congr 2; omega
  · rw [if_neg h1, hcs]
    by_cases h2 : j < k * m
    · rw [if_pos h2, if_pos (by omega)]
    · rw [if_neg h2, if_neg (by omega)]
theorem grownBy_setCell {a w : World} {g : Nat} (h : a.grownBy w (some g)) (i : Nat) (u : Value) : a.grownBy (w.setCell ⟨g, i, none⟩ u) (some g) :=
  ⟨h.os, h.tape, h.output, by simpa [World.setCell] using h.size, fun k hk hne => (Below.heap_setCell w ⟨g, i, none⟩ u k (by rintro rfl; exact hne rfl)).trans (h.block k hk hne)⟩
/-- What a marker leaves of an owned row. -/
theorem own_marked {w' : World} {g base : Nat} {t : TypeId} {n m c k : Nat} {cs0 cs : List Value} {k0 : Int} (hk : k = n) (hc : cs0.length = c * m) (hnc : n ≤ c) (hcm : c ≤ maxLen) (hb : base ≤ g) (hB : Blk w' g t cs) (hl2 : cs.length = cs0.length)
    (hcs : ∀ j, cs[j]? = if j < k * m then some (.int .i64 (k0 + (j : Int))) else cs0[j]?) : w'.ownsRow base t m (.slice (some ⟨g, 0, none⟩) n c) n (marks k0 (n * m)) := by
  subst hk
  refine ⟨marks_len _ _, .inr ⟨g, c, cs.toArray, rfl, hb, hB, hnc, hcm, by simp [hl2, hc], ?_⟩⟩
  have hle : k * m ≤ c * m := Nat.mul_le_mul_right m hnc
  apply List.ext_getElem?
  intro j
  rw [List.getElem?_take]
  by_cases hj : j < k * m
  · rw [if_pos hj, marks_get _ _ _ hj]; simp only []; rw [hcs, if_pos hj]
  · rw [if_neg hj, List.getElem?_eq_none (by rw [marks_len]; omega)]
/-- The loop of a reader that counts. -/
def HeldRel (n m : Nat) (k0 : Int) (kk i : Value) : Prop := ∃ k : Nat, k ≤ n ∧ i = .int .i64 k ∧ kk = .int .i64 (k0 + (k : Int) * (m : Int))

section
variable {w : World} {base : Nat} {e : TypeId} {m : Nat} {v : Value} {n : Nat} {xs : List Value}
theorem own_shape (h : w.ownsRow base e m v n xs) : ∃ A c, v = .slice A n c := by
  rcases h.2 with ⟨rfl, rfl⟩ | ⟨g, cap, cur, rfl, _⟩
  · exact ⟨none, 0, rfl⟩
  · exact ⟨some ⟨g, 0, none⟩, cap, rfl⟩
theorem own_blk {A : Option Addr} {c : Nat} (h : w.ownsRow base e m (.slice A n c) n xs) (hn : 0 < n) : ∃ g cs, A = some ⟨g, 0, none⟩ ∧ base ≤ g ∧ Blk w g e cs ∧ cs.length = c * m ∧ n ≤ c ∧ c ≤ maxLen ∧ cs.take (n * m) = xs := by
  rcases h.2 with ⟨_, h0⟩ | ⟨g, cap, cur, hv, hb, hg, hnc, hcm, hcs, htake⟩
  · omega
  · injection hv with hA _ hc
    subst hA; subst hc
    exact ⟨g, cur.toList, rfl, hb, hg, by simpa using hcs, hnc, hcm, htake⟩
theorem own_ext {w' : World} (h : w.ownsRow base e m v n xs) (hb : Below w.heap.size w w') : w'.ownsRow base e m v n xs := by
  refine ⟨h.1, ?_⟩
  rcases h.2 with h0 | ⟨g, cap, cur, hv, hbg, hg, r⟩
  · exact .inl h0
  · exact .inr ⟨g, cap, cur, hv, hbg, (hb.block g (Array.getElem?_eq_some_iff.1 hg).1).trans hg, r⟩
theorem own_base {b' : Nat} (h : w.ownsRow base e m v n xs) (hb : b' ≤ base) : w.ownsRow b' e m v n xs := by
  refine ⟨h.1, ?_⟩
  rcases h.2 with h0 | ⟨g, cap, cur, hv, hbg, r⟩
  · exact .inl h0
  · exact .inr ⟨g, cap, cur, hv, by omega, r⟩
end

/-! ### Rows of ints, as rows of one cell -/
def encInt (x : Int) : List Value := [.int .i64 x]
theorem encInt_len (x : Int) : (encInt x).length = 1 := rfl
theorem map_flat (xs : List Int) : xs.flatMap encInt = xs.map (Value.int .i64) := by
  induction xs with
  | nil => rfl
  | cons x xs ih => rw [List.flatMap_cons, ih]; rfl
theorem int_get (xs : List Int) (k : Nat) (x : Int) (h : xs[k]? = some x) : (xs.flatMap encInt)[k]? = some (.int .i64 x) := by
  rw [map_flat, List.getElem?_map, h]; rfl
theorem toRel_start1 {w : World} {t : TypeId} {n : Nat} {z : Array Value} {F : List Value} : ToRel w w.heap.size t n 1 F (.int .i64 0) (w.alloc (.cells (madeCells z n) t)) := by
  have h := toRel_start (w := w) (t := t) (n := n) (m := 1) (z := z) (F := F)
  rwa [Nat.mul_one] at h
theorem toRel_step1 {w w2 : World} {g : Nat} {t : TypeId} {n k : Nat} {xs : List Int} {x : Int} {cs : List Value} (hx : xs[k]? = some x) (hk : k < n) (hl : cs.length = n * 1) (hcs : ∀ j, j < k * 1 → cs[j]? = (xs.flatMap encInt)[j]?)
    (hB : Blk w2 g t (cs.set k (.int .i64 x))) (hb : Below g w w2) : ToRel w g t n 1 (xs.flatMap encInt) (.int .i64 ((k : Int) + 1)) w2 :=
  toRel_step encInt_len hx hk hl hcs (by rw [Nat.mul_one]; exact hB) hb
theorem markRel_step1 {w w2 : World} {g : Nat} {t : TypeId} {n k : Nat} {cs0 cs : List Value} {k0 q r : Int} (hk : k < n) (hl : n * 1 ≤ cs0.length) (hl2 : cs.length = cs0.length)
    (hcs : ∀ j, cs[j]? = if j < k * 1 then some (.int .i64 (k0 + (j : Int))) else cs0[j]?) (hB : Blk w2 g t (cs.set k (.int .i64 r))) (hr : r = k0 + (k : Int)) (hg : w.grownBy w2 (some g)) (hq : q = k0 + ((k + 1 : Nat) : Int) * ((1 : Nat) : Int)) :
    MarkRel w g t n 1 cs0 k0 (.int .i64 q) (.int .i64 ((k : Int) + 1)) w2 :=
  markRel_step hk hl hl2 hcs (by subst hr; simpa [SetRow, marks, List.range_succ] using hB) hg hq

theorem bcell {W w1 : World} (hb : Below W.heap.size W w1) : (∀ b o, b < W.heap.size → w1.cell? ⟨b, o, none⟩ = W.cell? ⟨b, o, none⟩) ∧ (∀ b o, b < W.heap.size → w1.frozen? ⟨b, o, none⟩ = W.frozen? ⟨b, o, none⟩) :=
  ⟨fun b o h => hb.cell (p := ⟨b, o, none⟩) h, fun b o h => hb.frozen (p := ⟨b, o, none⟩) h⟩

/-! ### The row's last step, for a law -/
section
variable {H : Type} {enc : TypeId × Value → H}
theorem trodAll_stays {P : Program} (hl : laidOutB P = true) {W W' : World} (hb : Below W.heap.size W W') {sp : Nat → Bool} :
    ∀ (ts : List TypeId) (vs : List Value) (ds : List (DataW H)) (ps : List MemPlace), (∀ t ∈ ts, P.readableRec t = true ∧ t < P.types.size) →
      DataW.TrodAll enc P W 0 (fun _ => true) true ts vs ds ps → (∀ x ∈ ps, x.block < W.heap.size) → (∀ p ∈ ps, sp p.block = true) → DataW.TrodAll enc P W' 0 sp true ts vs ds ps
  | [], [], [], _, _, h, _, _ => h
  | [], [], _ :: _, _, _, h, _, _ => h.elim
  | [], _ :: _, _, _, _, h, _, _ => h.elim
  | _ :: _, [], _, _, _, h, _, _ => h.elim
  | _ :: _, _ :: _, [], _, _, h, _, _ => h.elim
  | t :: ts, v :: vs, d :: ds, ps, hr, h, hlt, hsp => by
    obtain ⟨p, q, h1, h2, rfl⟩ := h
    exact ⟨p, q, WideElems.Trod_stays hl (hr t (by simp)).1 (hr t (by simp)).2 h1 (fun x hx => hb.same (hlt x (by simp [hx]))) (fun x hx => hsp x (by simp [hx])),
      trodAll_stays hl hb ts vs ds q (fun t ht => hr t (by simp [ht])) h2 (fun x hx => hlt x (by simp [hx])) (fun x hx => hsp x (by simp [hx])), rfl⟩

theorem trodAll_length {P : Program} {W : World} {b : Nat} {sp : Nat → Bool} {hd : Bool} : ∀ (ts : List TypeId) (vs : List Value) (ds : List (DataW H)) (ps : List MemPlace), DataW.TrodAll enc P W b sp hd ts vs ds ps → ds.length = ts.length
  | [], [], [], _, _ => rfl
  | [], [], _ :: _, _, h => h.elim
  | [], _ :: _, _, _, h => h.elim
  | _ :: _, [], _, _, h => h.elim
  | _ :: _, _ :: _, [], _, h => h.elim
  | t :: ts, v :: vs, d :: ds, ps, h => by
    obtain ⟨p, q, _, h2, _⟩ := h
    simp [trodAll_length ts vs ds q h2]

theorem law_post (P : Program) (f : Func) (s : ChangeSpec) (tb : TypeId) (np : Nat) {W W' : World} {args : Array Value} {ds gs : List (DataW H)} {before : List MemPlace}
    (hvars : s.vars = []) (hres : f.resultTypes = #[tb]) (htb : P.underlying tb = some .bool) (hl : laidOutB P = true) (hr0 : f.params.toList.all (fun t => P.readableRec t && decide (t < P.types.size)) = true)
    (hnp : f.params.size = np) (hs : ∀ ds : List (DataW H), ds.length = np → s.fn H (ds ++ []) = { results := [.lit (.bool true)], args := ds })
    (hW : DataW.Whole enc P f.params.toList s.vars false W args.toList ds gs before) (hb : Below W.heap.size W W') :
    s.post enc P f false true false false W args (.bool true) W' := by
  have hr : ∀ t ∈ f.params.toList, P.readableRec t = true ∧ t < P.types.size := by
    intro t ht
    have := List.all_eq_true.1 hr0 t ht
    simpa using this
  have hW' := hW
  have hlt : ∀ p ∈ before, p.block < W.heap.size := fun p hp => hW.lt p hp
  obtain ⟨p, q, hA, hV, rfl, hz, hn⟩ := hW
  rw [hvars] at hV
  obtain ⟨rfl, rfl⟩ := trodVars_none hV
  simp only [List.append_nil] at hlt
  have hlen : ds.length = np := by rw [trodAll_length _ _ _ _ hA, Array.length_toList, hnp]
  have e := hs ds hlen
  refine ⟨ds, [], p ++ [], [], p, [], hW', ?_, ?_, ?_, World.keptBut_mono (fun x hx => ⟨hx, .inr (.inl (by simpa using hx))⟩) (hb.frame (· ∈ p ++ [])), fun h => by cases h⟩
  · rw [e, hres]
    exact trodAll_mk1 (shut_bool htb true)
  · rw [e]
    exact trodAll_stays hl hb _ _ _ _ hr hA hlt (fun x hx => by simpa using hlt x hx)
  · rw [e, hvars]
    rfl
end

/-! ### Arguments: what a value of its type looks like -/
theorem okWide_cells {P : Program} {W : World} {r : Reach} {b : Nat} {t : TypeId} {fs : Array Field} {ts : List TypeId} {v : Value} (hu : P.underlying t = some (.struct fs)) (hts : P.cellTypes P.depth t = some ts) (hn : P.cellsOf t = ts.length)
    (h : Value.okWide P W r b t v) : ∃ cs : List Value, v = .agg cs.toArray ∧ cs.length = ts.length ∧ ∀ (i : Nat) (u : TypeId) (x : Value), ts[i]? = some u → cs[i]? = some x → Cell.okWide P W r b u x := by
  unfold Value.okWide at h
  rw [hu] at h
  obtain ⟨⟨cs⟩, rfl, hsz, ts', hts', _, hi⟩ := h
  rw [hts] at hts'
  obtain rfl := Option.some.inj hts'
  refine ⟨cs, rfl, by simpa [hn] using hsz, fun i u x hu hx => ?_⟩
  obtain ⟨u', hu', hok⟩ := hi i x (by simpa using hx)
  have hlt : i < ts.length := (List.getElem?_eq_some_iff.1 hu).1
  rw [Nat.mod_eq_of_lt hlt, hu] at hu'
  obtain rfl := Option.some.inj hu'
  exact hok

theorem cell_int {P : Program} {W : World} {r : Reach} {b : Nat} {t : TypeId} {k : IntKind} {v : Value} (hu : P.underlying t = some (.int k)) (h : Cell.okWide P W r b t v) : ∃ n : Int, v = .int k n ∧ k.has n := by
  unfold Cell.okWide at h
  rw [hu] at h
  unfold Cell.ok at h
  rw [hu] at h
  cases v <;> simp_all

/-- Every cell of a value of this type is an int. -/
def allInt (P : Program) : Nat → TypeId → Bool
  | 0, _ => false
  | n + 1, t => match P.underlying t with
    | some (.int .i64) => true
    | some (.struct fs) => (List.range (P.cellsOf t)).all fun p => fs.toList.any fun f => decide (f.offset ≤ p ∧ p < f.offset + P.cellsOf f.type) && allInt P n f.type
    | _ => false

section
variable {H : Type} {enc : TypeId × Value → H} {P : Program} {w : World} {base : Nat} {spare : Nat → Bool} {held : Bool}
theorem trod_allInt : ∀ (n : Nat) (t : TypeId) (fuel : Nat) (cs : List Value) (x : DataW H × List MemPlace), allInt P n t = true → DataW.trod enc P w base spare held fuel t cs = some x → ∀ (p : Nat) (v : Value), cs[p]? = some v → ∃ k : Int, v = .int .i64 k := by
  intro n
  induction n with
  | zero => intro t fuel cs x h; simp [allInt] at h
  | succ n ih =>
    intro t fuel cs x h ht p v hp
    unfold allInt at h
    split at h
    · rename_i hu
      obtain ⟨k, rfl, _⟩ := DataW.trod_int hu ht
      cases p with
      | zero => simp at hp; exact ⟨k, hp.symm⟩
      | succ p => simp at hp
    · rename_i fs hu
      obtain ⟨ys, n', _, _, hlen, hyl, hf⟩ := DataW.trod_struct hu ht
      have hpl : p < P.cellsOf t := by rw [← hlen]; exact (List.getElem?_eq_some_iff.1 hp).1
      have h1 := List.all_eq_true.1 h p (List.mem_range.2 hpl)
      obtain ⟨f, hfm, h2⟩ := List.any_eq_true.1 h1
      simp only [Bool.and_eq_true, decide_eq_true_eq] at h2
      obtain ⟨i, hi, hif⟩ := List.getElem_of_mem hfm
      have hfi : fs[i]? = some f := by
        rw [← Array.getElem?_toList, List.getElem?_eq_getElem hi, hif]
      have h3 := hf i f hfi
      have hy : ys[i]? = some (ys[i]'(by simp at hi; omega)) := List.getElem?_eq_getElem _
      rw [hy] at h3
      refine ih f.type n' _ _ h2.2 h3 (p - f.offset) v ?_
      rw [List.getElem?_take, if_pos (by omega), List.getElem?_drop, ← hp]
      congr 1; omega
    · cases h

theorem exists_list {α : Type} {Q : Nat → α → Prop} : ∀ n : Nat, (∀ i, i < n → ∃ x, Q i x) → ∃ xs : List α, xs.length = n ∧ ∀ (i : Nat) (x : α), xs[i]? = some x → Q i x
  | 0, _ => ⟨[], rfl, fun i x h => by simp at h⟩
  | n + 1, h => by
    obtain ⟨xs, hl, hx⟩ := exists_list n (fun i hi => h i (by omega))
    obtain ⟨y, hy⟩ := h n (by omega)
    refine ⟨xs ++ [y], by simp [hl], fun i x hi => ?_⟩
    rw [List.getElem?_append] at hi
    split at hi
    · exact hx i x hi
    · have : i = n := by
        rcases Nat.lt_or_ge i (n + 1) with h1 | h1
        · omega
        · rw [List.getElem?_eq_none (by simp; omega)] at hi; cases hi
      subst this
      simp [hl] at hi
      subst hi
      exact hy

/-- A slice whose elements' cells are all ints, m a piece: what it reads as. -/
theorem open_rows {α : Type} (encX : α → List Value) (m : Nat) (hm0 : 0 < m) (hm : ∀ a, (encX a).length = m) (hmk : ∀ f : Nat → Int, ∃ x : α, ∀ j, j < m → (encX x)[j]? = some (.int .i64 (f j)))
    {t e : TypeId} {v : Value} {d : DataW H} {p : List MemPlace} {r : Reach} {b0 : Nat} (ht : P.underlying t = some (.slice e)) (hint : allInt P 5 e = true) (hC : P.cellsOf e = m)
    (hv : Value.okWide P w r b0 t v) (h : DataW.Trod enc P w base spare held t v d p) :
    ∃ (A : Option Addr) (n c : Nat) (xs : List α), v = .slice A n c ∧ n ≤ 9223372036854775807 ∧ Rd w m A n (xs.flatMap encX) := by
  obtain ⟨A, n, c, rfl⟩ := okWide_slice ht hv
  obtain ⟨fuel, hf⟩ := h
  rcases open_slice ht hf with ⟨hcs, _⟩ | ⟨a, len, cap, mm, nn, D, Pl, hcs, hb, hl, hcm, hmm, hx, hi⟩
  · simp only [Value.cells, List.cons.injEq, and_true] at hcs
    injection hcs with h1 h2 h3
    subst h1; subst h2; subst h3
    exact ⟨none, 0, 0, [], rfl, by omega, by simp, fun h => absurd h (by omega)⟩
  · simp only [Value.cells, List.cons.injEq, and_true] at hcs
    injection hcs with h1 h2 h3
    subst h1; subst h2; subst h3
    have hnm : n ≤ mm := by rw [hmm]; split <;> omega
    have hone : ∀ i, i < n → ∃ x : α, ∀ j, j < m → w.cell? (a.add (i * m + j)) = (encX x)[j]? := by
      intro i hin
      obtain ⟨cs', hc, htr⟩ := hi i (by omega)
      obtain ⟨_, hcl, hat⟩ := World.cells?_some hc
      rw [hC] at hcl hat
      have hk : ∀ j, ∃ k : Int, j < m → cs'[j]? = some (.int .i64 k) := by
        intro j
        by_cases hj : j < m
        · obtain ⟨k, hk⟩ := trod_allInt 5 e nn cs' _ hint htr j _ (List.getElem?_eq_getElem (by omega))
          exact ⟨k, fun _ => by rw [List.getElem?_eq_getElem (by omega), hk]⟩
        · exact ⟨0, fun h => absurd h hj⟩
      obtain ⟨f, hf⟩ := Classical.axiomOfChoice hk
      obtain ⟨x, hx⟩ := hmk f
      refine ⟨x, fun j hj => ?_⟩
      rw [hx j hj, ← hf j hj, ← hat j hj, Go.Deep.add_add]
    obtain ⟨xs, hxl, hxs⟩ := exists_list n hone
    refine ⟨some a, n, c, xs, rfl, by simp only [maxLen] at hcm; omega, by rw [flat_len encX m hm, hxl], fun hn => ?_⟩
    · have hx0 : xs[0]? = some (xs[0]'(by omega)) := List.getElem?_eq_getElem _
      have hc0 := hxs 0 _ hx0 0 (by omega)
      simp only [Nat.zero_mul, Nat.zero_add] at hc0
      have he0 : (encX (xs[0]'(by omega)))[0]? = some ((encX (xs[0]'(by omega)))[0]'(by rw [hm]; omega)) := List.getElem?_eq_getElem _
      rw [he0] at hc0
      obtain ⟨b, off, spot⟩ := a
      have hspot : spot = none := by simpa [Addr.add] using World.cell?_spot hc0
      subst hspot
      refine ⟨b, off, rfl, by simpa [Addr.add] using World.block_lt_of_cell? w _ hc0, fun j u hu => ?_⟩
      have hjl : j < n * m := by
        have := (List.getElem?_eq_some_iff.1 hu).1
        rwa [flat_len encX m hm, hxl] at this
      have hq : j / m < n := Nat.div_lt_of_lt_mul (by rw [Nat.mul_comm]; exact hjl)
      have hxq : xs[j / m]? = some (xs[j / m]'(by omega)) := List.getElem?_eq_getElem _
      have hcell := hxs _ _ hxq (j % m) (Nat.mod_lt _ (by omega))
      have hg := flat_get encX m hm xs (j / m) (j % m) _ hxq (Nat.mod_lt _ (by omega))
      have hdm : j / m * m + j % m = j := by rw [Nat.mul_comm]; exact Nat.div_add_mod j m
      rw [hdm] at hcell hg
      rw [← Go.WideShapes.add_plain, hcell, ← hg, hu]
end

/-! ### Two boxes of two cells, and a world that has only grown: what a region that draws its order keeps -/
def St22 (w : World) (g0 g1 : Nat) (t0 t1 : TypeId) (a b c d : Value) (w' : World) : Prop := Blk w' g0 t0 [a, b] ∧ Blk w' g1 t1 [c, d] ∧ Below w.heap.size w w'
theorem st22_all {w w' : World} {g0 g1 : Nat} {t0 t1 : TypeId} {a b c d : Value} (h : St22 w g0 g1 t0 t1 a b c d w') :
    w'.cell? ⟨g0, 0, none⟩ = some a ∧ w'.cell? ⟨g0, 1, none⟩ = some b ∧ w'.cell? ⟨g1, 0, none⟩ = some c ∧ w'.cell? ⟨g1, 1, none⟩ = some d ∧ St22 w g0 g1 t0 t1 a b c d w' :=
  ⟨h.1.cell 0, h.1.cell 1, h.2.1.cell 0, h.2.1.cell 1, h⟩
theorem st22_drew {w w' : World} {g0 g1 : Nat} {t0 t1 : TypeId} {a b c d : Value} (h : St22 w g0 g1 t0 t1 a b c d w') : St22 w g0 g1 t0 t1 a b c d w'.drew := ⟨h.1.drew, h.2.1.drew, h.2.2.drew⟩
theorem st22_alloc {w w' : World} {g0 g1 : Nat} {t0 t1 : TypeId} {a b c d : Value} (h : St22 w g0 g1 t0 t1 a b c d w') (o : Obj) : St22 w g0 g1 t0 t1 a b c d (w'.alloc o) := ⟨h.1.alloc o, h.2.1.alloc o, ext_alloc h.2.2 o⟩
theorem st22_step {w w0 w1 : World} {g0 g1 : Nat} {t0 t1 : TypeId} {a b c d : Value}
    (h : w0.cell? ⟨g0, 0, none⟩ = some a ∧ w0.cell? ⟨g0, 1, none⟩ = some b ∧ w0.cell? ⟨g1, 0, none⟩ = some c ∧ w0.cell? ⟨g1, 1, none⟩ = some d ∧ St22 w g0 g1 t0 t1 a b c d w0) (hb : Below w0.heap.size w0 w1) : St22 w g0 g1 t0 t1 a b c d w1 :=
  ⟨h.2.2.2.2.1.below hb, h.2.2.2.2.2.1.below hb, ext_trans h.2.2.2.2.2.2 hb⟩
theorem st22_new (w : World) (t0 t1 : TypeId) (a b c d : Value) : St22 w w.heap.size (w.heap.size + 1) t0 t1 a b c d ((w.alloc (.cells #[a, b] t0)).alloc (.cells #[c, d] t1)) := by
  refine ⟨(Blk.new w t0 [a, b]).alloc _, ?_, ext_alloc (ext_alloc (ext_refl w) _) _⟩
  have h := Blk.new (w.alloc (.cells #[a, b] t0)) t1 [c, d]
  rwa [World.size_alloc] at h

theorem wrap_in (n : Int) (h0 : -9223372036854775808 ≤ n) (h1 : n ≤ 9223372036854775807) : IntKind.i64.wrap n = n := by rw [IntKind.wrap_i64]; omega
theorem ret_wrap {n m : Int} (h : n = m) (h0 : -9223372036854775808 ≤ n) (h1 : n ≤ 9223372036854775807) : Ending.returned (.int .i64 (IntKind.i64.wrap n)) = .returned (.int .i64 m) := by rw [wrap_in n h0 h1, h]

theorem quiet_left {P : Program} {f : FuncId} {args : Array Value} {w : World} {n : Nat} {v : Value}
    (h : Calls P f args (w.drewN n) fun e w' => e = .returned v ∧ w.drewN n = w') : Calls P f args (w.drewN n) fun e w'' => e = .returned v ∧ ∃ m, w'' = w.drewN m :=
  h.mono fun _ _ ⟨he, hm⟩ => ⟨he, n, hm.symm⟩
theorem quiet_add_left {P : Program} {f : FuncId} {args : Array Value} {w : World} {a n : Nat} {v : Value}
    (h : Calls P f args (w.drewN (a + n)) fun e w' => e = .returned v ∧ w.drewN (a + n) = w') :
    Calls P f args (w.drewN (a + n)) fun e w'' => e = .returned v ∧ ∃ m, w'' = w.drewN (a + m) :=
  h.mono fun _ _ ⟨he, hm⟩ => ⟨he, n, hm.symm⟩

/-! ### Results that lie in a block of their own -/
section
variable {P : Program} {fn : Func} {w : World} {g : Nat} {t : TypeId} {cs : List Value} {d : TypeDesc}
theorem load_blk (ty : TypeId) (h : Blk w g t cs) (hu : P.underlying ty = some d) (hd : (match d with | .struct _ | .array _ _ => true | _ => false) = true) (hi : (P.info? ty).map (·.size) = some cs.length) :
    (loadVar ty ⟨g, 0, none⟩).run P w = .ok (.agg cs.toArray) w := run_loadVar_row w g t ty cs.toArray (0, 0) d h hu hd (by simpa using hi)
theorem res_cell1 {p : Tmp} {ty : TypeId} (hf : fn.results = #[.cell p ty]) (tmps : Array Value) (hp : tmps.getD p undef = .pointer (some ⟨g, 0, none⟩)) (h : Blk w g t cs)
    (hu : P.underlying ty = some d) (hd : (match d with | .struct _ | .array _ _ => true | _ => false) = true) (hi : (P.info? ty).map (·.size) = some cs.length) : (results fn tmps).run P w = .ok (.agg cs.toArray) w :=
  results_cell_row hf tmps w g t cs.toArray (0, 0) d hp h hu hd (by simpa using hi)
theorem res_cell2 {p u : Tmp} {ty : TypeId} (hf : fn.results = #[.cell p ty, .tmp u]) (tmps : Array Value) (hp : tmps.getD p undef = .pointer (some ⟨g, 0, none⟩)) (h : Blk w g t cs)
    (hu : P.underlying ty = some d) (hd : (match d with | .struct _ | .array _ _ => true | _ => false) = true) (hi : (P.info? ty).map (·.size) = some cs.length) : (results fn tmps).run P w = .ok (.tuple #[.agg cs.toArray, tmps.getD u undef]) w := by
  have hp' : tmps[p]?.getD undef = .pointer (some ⟨g, 0, none⟩) := by simpa using hp
  simp [results, hf, hp', asAddr, load_blk ty h hu hd hi]
theorem res_cell3 {p u v : Tmp} {ty : TypeId} (hf : fn.results = #[.cell p ty, .tmp u, .tmp v]) (tmps : Array Value) (hp : tmps.getD p undef = .pointer (some ⟨g, 0, none⟩)) (h : Blk w g t cs)
    (hu : P.underlying ty = some d) (hd : (match d with | .struct _ | .array _ _ => true | _ => false) = true) (hi : (P.info? ty).map (·.size) = some cs.length) : (results fn tmps).run P w = .ok (.tuple #[.agg cs.toArray, tmps.getD u undef, tmps.getD v undef]) w := by
  have hp' : tmps[p]?.getD undef = .pointer (some ⟨g, 0, none⟩) := by simpa using hp
  simp [results, hf, hp', asAddr, load_blk ty h hu hd hi]
end

/-! ### Calls that return a new row and a bool -/
/-- A new row of ints, and a bool. -/
def RetInts (t : TypeId) (w : World) (rs : List Int) (ok : Bool) (e : Ending) (w' : World) : Prop :=
  ∃ A c, e = .returned (.tuple #[.slice A rs.length c, .bool ok]) ∧ w'.ownsRow w.heap.size t 1 (.slice A rs.length c) rs.length (rs.map (Value.int .i64)) ∧ Below w.heap.size w w'
theorem retInts_nil {t : TypeId} {w w' : World} (hb : Below w.heap.size w w') : RetInts t w [] false (.returned (.tuple #[.slice none 0 0, .bool false])) w' :=
  ⟨none, 0, rfl, World.ownsRow_nil _ _ _ _, hb⟩
theorem retInts_own {t : TypeId} {w w' : World} {rs : List Int} {A : Option Addr} {n c : Nat} {ok : Bool} (hn : n = rs.length) (ho : w'.ownsRow w.heap.size t 1 (.slice A n c) n (rs.map (Value.int .i64))) (hb : Below w.heap.size w w') :
    RetInts t w rs ok (.returned (.tuple #[.slice A n c, .bool ok])) w' := by subst hn; exact ⟨A, c, rfl, ho, hb⟩
theorem apart_before {v u : Value} {a b d : Nat} (hv : ∀ k, v.ownBlock = some k → a ≤ k ∧ k < b) (hu : ∀ k, u.ownBlock = some k → b ≤ k ∧ k < d) : (v.ownBlock = none ∨ v.ownBlock ≠ u.ownBlock) ∧ (u.ownBlock = none ∨ u.ownBlock ≠ v.ownBlock) := by
  constructor
  · cases h : v.ownBlock with
    | none => exact .inl rfl
    | some k =>
      refine .inr fun e => ?_
      have h1 := hv k h
      have h2 := hu k e.symm
      omega
  · cases h : u.ownBlock with
    | none => exact .inl rfl
    | some k =>
      refine .inr fun e => ?_
      have h1 := hu k h
      have h2 := hv k e.symm
      omega
theorem below_marked {w w0 w1 : World} {base : Nat} {e : TypeId} {m : Nat} {v : Value} {n : Nat} {xs : List Value} (z : Below w.heap.size w w0) (h : w0.ownsRow base e m v n xs) (hb : w.heap.size ≤ base) (hg : w0.grownBy w1 v.ownBlock) : Below w.heap.size w w1 :=
  z.grown hg z.size (fun k hk => Nat.le_trans hb (h.lt k hk).1)

/-! ### Counting into a row -/
def bump (l : List Int) (j : Nat) (v : Int) : List Int := l.set j (l.getD j 0 + v)
def tally (m : Nat) (ps : List (Nat × Int)) : List Int := ps.foldl (fun acc p => bump acc p.1 p.2) (List.replicate m 0)
theorem tally_snoc (m : Nat) (ps : List (Nat × Int)) (p : Nat × Int) : tally m (ps ++ [p]) = bump (tally m ps) p.1 p.2 := by simp [tally]
theorem bump_len (l : List Int) (j : Nat) (v : Int) : (bump l j v).length = l.length := by simp [bump]
theorem foldl_bump_len (ps : List (Nat × Int)) : ∀ l : List Int, (ps.foldl (fun acc p => bump acc p.1 p.2) l).length = l.length := by
  induction ps with
  | nil => intro l; rfl
  | cons p ps ih => intro l; rw [List.foldl_cons, ih, bump_len]
theorem tally_len (m : Nat) (ps : List (Nat × Int)) : (tally m ps).length = m := by rw [tally, foldl_bump_len]; simp
theorem bump_getD (l : List Int) (j : Nat) (v : Int) (i : Nat) : (bump l j v).getD i 0 = if i = j ∧ j < l.length then l.getD j 0 + v else l.getD i 0 := by
  unfold bump
  simp only [List.getD_eq_getElem?_getD, List.getElem?_set]
  by_cases h : j = i
  · subst h
    by_cases h2 : j < l.length
    · simp [h2]
    · simp [h2]
  · simp [h, Ne.symm h]
theorem tally_bd (m : Nat) (V : Int) (_hV : 0 ≤ V) (ps : List (Nat × Int)) (h : ∀ p ∈ ps, 0 ≤ p.2 ∧ p.2 ≤ V) : ∀ j, 0 ≤ (tally m ps).getD j 0 ∧ (tally m ps).getD j 0 ≤ ps.length * V := by
  have key : ∀ (ps : List (Nat × Int)) (l : List Int) (B : Int), (∀ p ∈ ps, 0 ≤ p.2 ∧ p.2 ≤ V) → 0 ≤ B → (∀ j, 0 ≤ l.getD j 0 ∧ l.getD j 0 ≤ B) → ∀ j, 0 ≤ (ps.foldl (fun acc p => bump acc p.1 p.2) l).getD j 0 ∧ (ps.foldl (fun acc p => bump acc p.1 p.2) l).getD j 0 ≤ B + ps.length * V := by
    intro ps
    induction ps with
    | nil => intro l B _ hB hl j; have := hl j; simp at this ⊢; omega
    | cons p ps ih =>
      intro l B hps hB hl j
      rw [List.foldl_cons]
      have hp := hps p (by simp)
      have h2 := ih (bump l p.1 p.2) (B + V) (fun q hq => hps q (by simp [hq])) (by omega) (fun i => by
        rw [bump_getD]
        have h3 := hl p.1
        have h4 := hl i
        split <;> omega) j
      refine ⟨h2.1, ?_⟩
      have h5 := h2.2
      simp only [List.length_cons, Int.natCast_add, Int.add_mul] at h5 ⊢
      omega
  intro j
  have := key ps (List.replicate m 0) 0 h (Int.le_refl _) (fun i => by
    by_cases hi : i < m <;> simp [List.getD_eq_getElem?_getD, hi]) j
  simpa [tally] using this
theorem map_bump (l : List Int) (j : Nat) (v : Int) : (bump l j v).map (Value.int .i64) = (l.map (Value.int .i64)).set j (.int .i64 (l.getD j 0 + v)) := by simp [bump, List.map_set]
theorem cell_tally {w : World} {g : Nat} {t : TypeId} {l : List Int} (h : Blk w g t (l.map (Value.int .i64))) {j : Nat} (hj : j < l.length) : w.cell? ⟨g, j, none⟩ = some (.int .i64 (l.getD j 0)) := by
  rw [h.cell, List.getElem?_map, List.getElem?_eq_getElem hj]
  simp [List.getD_eq_getElem?_getD, hj]

theorem ret_bool {a b : Bool} (h : a = b) : Ending.returned (.bool a) = .returned (.bool b) := by rw [h]
theorem ret_int {a b : Int} (h : a = b) : Ending.returned (.int .i64 a) = .returned (.int .i64 b) := by rw [h]

/-! ### A row of ints that the call itself makes by append -/
def OwnL (w : World) (t : TypeId) (v : Value) (l : List Int) (wr : World) : Prop := wr.ownsRow w.heap.size t 1 v l.length (l.map (Value.int .i64)) ∧ Below w.heap.size w wr
theorem ownL_nil {w wr : World} {t : TypeId} (hb : Below w.heap.size w wr) : OwnL w t (.slice none 0 0) [] wr := ⟨World.ownsRow_nil _ _ _ _, hb⟩
theorem ownL_empty {w wr : World} {t : TypeId} (hb : Below w.heap.size w wr) : OwnL w t (.slice (some ⟨wr.heap.size, 0, none⟩) 0 0) [] (wr.alloc (.cells #[] t)) :=
  ⟨World.ownsRow_made wr #[] 0 hb.size (by unfold maxLen; omega) (by simp), ext_alloc hb _⟩
theorem ownL_push {w wr w1 : World} {t : TypeId} {v v' : Value} {l : List Int} {x : Int} {o : Obj} (h : OwnL w t v l wr) (h1 : w1.ownsRow w.heap.size t 1 v' (l.length + 1) (l.map (Value.int .i64) ++ [.int .i64 x])) (hg : (wr.alloc o).grownBy w1 v.ownBlock) : OwnL w t v' (l ++ [x]) w1 := by
  refine ⟨by simpa using h1, (ext_alloc h.2 o).grown hg (ext_alloc h.2 o).size (fun k hk => (h.1.lt k hk).1)⟩
theorem ownL_ext {w wr w1 : World} {t : TypeId} {v : Value} {l : List Int} (h : OwnL w t v l wr) (hb : Below wr.heap.size wr w1) : OwnL w t v l w1 := ⟨own_ext h.1 hb, ext_trans h.2 hb⟩
theorem ownL_ret {w w' : World} {t : TypeId} {v : Value} {l : List Int} {ok : Bool} (h : OwnL w t v l w') : RetInts t w l ok (.returned (.tuple #[v, .bool ok])) w' := by
  obtain ⟨A, c, rfl⟩ := own_shape h.1
  exact ⟨A, c, rfl, h.1, h.2⟩

theorem ownP : ownKnob Try.prog.godebug = none := by kernel_rfl
theorem laidOutP : laidOutB Try.prog = true := by kernel_rfl
end Go.Proofs.Ytnnihiajggdplaa
