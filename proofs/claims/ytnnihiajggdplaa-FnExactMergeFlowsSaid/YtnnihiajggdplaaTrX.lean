/- Merging by rotation, in plain words: the search by halves, the parting of two runs, the blocks. No condition. -/
import Derived.Test.YtnnihiajggdplaaTrV
namespace Go.Proofs.Ytnnihiajggdplaa
open Go.Sort
/-! the search by halves -/
structure Bin (p : Nat → Prop) (lo hi i j : Nat) : Prop where
  h1 : lo ≤ i
  h2 : i ≤ j
  h3 : j ≤ hi
  h4 : ∀ c, lo ≤ c → c < i → p c
  h5 : ∀ c, j ≤ c → c < hi → ¬ p c
def Anti (p : Nat → Prop) (lo hi : Nat) : Prop := ∀ c c', lo ≤ c → c ≤ c' → c' < hi → p c' → p c
theorem Bin.start {p : Nat → Prop} {lo hi : Nat} (h : lo ≤ hi) : Bin p lo hi lo hi := ⟨Nat.le_refl _, h, Nat.le_refl _, fun c h1 h2 => by omega, fun c h1 h2 => by omega⟩
theorem Bin.up {p : Nat → Prop} {lo hi i j c : Nat} (h : Bin p lo hi i j) (A : Anti p lo hi) (h1 : i ≤ c) (h2 : c < j) (hp : p c) : Bin p lo hi (c + 1) j :=
  ⟨by have := h.h1; omega, h2, h.h3, fun k k1 k2 => A k c k1 (by omega) (by have := h.h3; omega) hp, h.h5⟩
theorem Bin.down {p : Nat → Prop} {lo hi i j c : Nat} (h : Bin p lo hi i j) (A : Anti p lo hi) (h1 : i ≤ c) (h2 : c < j) (hp : ¬ p c) : Bin p lo hi i c :=
  ⟨h.h1, h1, by have := h.h3; omega, h.h4, fun k k1 k2 e => hp (A c k (by have := h.h1; omega) k1 k2 e)⟩

section
variable {α : Type} [Inhabited α] {key : α → Int}
theorem seg_at {d : Array α} {P X R : List α} (h : d.toList = P ++ (X ++ R)) {i : Nat} (hi : i < X.length) : d[P.length + i]! = X[i] := by
  have e : X = X.take i ++ X[i] :: X.drop (i + 1) := by simp
  have h2 : d.toList = (P ++ X.take i) ++ X[i] :: (X.drop (i + 1) ++ R) := by
    rw [h]
    conv => lhs; rw [e]
    simp only [List.append_assoc, List.cons_append]
  have h3 := at_list h2
  rwa [List.length_append, List.length_take, Nat.min_eq_left (Nat.le_of_lt hi)] at h3
theorem mem_seg {d : Array α} {P X R : List α} (h : d.toList = P ++ (X ++ R)) {x : α} (hx : x ∈ X) : ∃ i, P.length ≤ i ∧ i < P.length + X.length ∧ d[i]! = x := by
  obtain ⟨i, hi, rfl⟩ := List.mem_iff_getElem.1 hx
  exact ⟨P.length + i, by omega, by omega, seg_at h hi⟩
theorem seg_mono {d : Array α} {P X R : List α} (h : d.toList = P ++ (X ++ R)) (o : Ord key X) (i j : Nat) (h1 : P.length ≤ i) (h2 : i ≤ j) (h3 : j < P.length + X.length) : key d[i]! ≤ key d[j]! := by
  obtain ⟨i', rfl⟩ := Nat.exists_eq_add_of_le h1
  obtain ⟨j', rfl⟩ := Nat.exists_eq_add_of_le (Nat.le_trans h1 h2)
  rw [seg_at h (i := i') (by omega), seg_at h (i := j') (by omega)]
  by_cases e : i' = j'
  · subst e; exact Int.le_refl _
  · exact List.pairwise_iff_getElem.1 o i' j' (by omega) (by omega) (by omega)

/-! parting two runs for the rotation -/
structure Sym (a m b s0 r0 p : Nat) : Prop where
  h1 : a ≤ s0
  h2 : s0 ≤ r0
  h3 : r0 ≤ m
  h4 : p < b + s0
  h5 : m + r0 ≤ p + 1
  h6 : s0 = a ∨ p + 1 = b + s0
  h7 : r0 = m ∨ p + 1 = m + r0
theorem Sym.hi {a m b mid : Nat} (h1 : a < m) (h2 : m < b) (e1 : 2 * mid ≤ a + b) (e2 : a + b < 2 * mid + 2) (h : mid < m) : Sym a m b (mid + m - b) mid (mid + m - 1) :=
  ⟨by omega, by omega, by omega, by omega, by omega, by omega, by omega⟩
theorem Sym.lo {a m b mid : Nat} (h1 : a < m) (h2 : m < b) (e1 : 2 * mid ≤ a + b) (e2 : a + b < 2 * mid + 2) (h : m ≤ mid) : Sym a m b a m (mid + m - 1) :=
  ⟨by omega, by omega, by omega, by omega, by omega, by omega, by omega⟩
theorem Sym.anti {a m b s0 r0 p : Nat} (S : Sym a m b s0 r0 p) {d : Array α} {P X Y Q : List α} (hd : d.toList = P ++ (X ++ (Y ++ Q))) (ha : P.length = a) (hm : a + X.length = m) (hb : m + Y.length = b) (oX : Ord key X) (oY : Ord key Y) :
    Anti (fun c => key d[c]! ≤ key d[p - c]!) s0 r0 := by
  intro c c' h1 h2 h3 h
  have hd2 : d.toList = (P ++ X) ++ (Y ++ Q) := by rw [hd]; simp
  have := S.h1; have := S.h3; have := S.h4; have := S.h5
  have k1 := seg_mono (key := key) hd oX c c' (by omega) h2 (by omega)
  have k2 := seg_mono (key := key) hd2 oY (p - c') (p - c) (by simp; omega) (by omega) (by simp; omega)
  exact Int.le_trans k1 (Int.le_trans h k2)
theorem Sym.split {a m b s0 r0 p s : Nat} (S : Sym a m b s0 r0 p) {d : Array α} {P X Y Q : List α} (hd : d.toList = P ++ (X ++ (Y ++ Q))) (ha : P.length = a) (hm : a + X.length = m) (hb : m + Y.length = b) (oX : Ord key X) (oY : Ord key Y)
    (B : Bin (fun c => key d[c]! ≤ key d[p - c]!) s0 r0 s s) :
    ∃ X1 X2 Y1 Y2, X = X1 ++ X2 ∧ Y = Y1 ++ Y2 ∧ a + X1.length = s ∧ m + Y1.length + s = p + 1 ∧ (∀ x ∈ X1, ∀ y ∈ Y2, key x ≤ key y) ∧ (∀ x ∈ X2, ∀ y ∈ Y1, key y < key x) := by
  have b1 := B.h1; have b3 := B.h3
  have q1 := S.h1; have q2 := S.h2; have q3 := S.h3; have q4 := S.h4; have q5 := S.h5; have q6 := S.h6; have q7 := S.h7
  have l1 : (X.take (s - a)).length = s - a := by rw [List.length_take]; omega
  have l2 : (Y.take (p + 1 - s - m)).length = p + 1 - s - m := by rw [List.length_take]; omega
  have hd1 : d.toList = P ++ (X.take (s - a) ++ (X.drop (s - a) ++ (Y ++ Q))) := by rw [hd, ← List.append_assoc (X.take _), List.take_append_drop]
  have hd2 : d.toList = (P ++ X.take (s - a)) ++ (X.drop (s - a) ++ (Y ++ Q)) := by rw [hd1]; simp only [List.append_assoc]
  have hd3 : d.toList = (P ++ X) ++ (Y.take (p + 1 - s - m) ++ (Y.drop (p + 1 - s - m) ++ Q)) := by rw [hd, ← List.append_assoc (Y.take _), List.take_append_drop]; simp
  have hd4 : d.toList = (P ++ X ++ Y.take (p + 1 - s - m)) ++ (Y.drop (p + 1 - s - m) ++ Q) := by rw [hd3]; simp only [List.append_assoc]
  have hdX : d.toList = P ++ (X ++ (Y ++ Q)) := hd
  have hdY : d.toList = (P ++ X) ++ (Y ++ Q) := by rw [hd]; simp
  refine ⟨X.take (s - a), X.drop (s - a), Y.take (p + 1 - s - m), Y.drop (p + 1 - s - m), (List.take_append_drop _ _).symm, (List.take_append_drop _ _).symm, by omega, by omega, ?_, ?_⟩
  · intro x hx y hy
    obtain ⟨i, i1, i2, rfl⟩ := mem_seg hd1 hx
    obtain ⟨j, j1, j2, rfl⟩ := mem_seg hd4 hy
    simp only [List.length_append, List.length_drop, l1, l2] at i2 j1 j2
    have hs : s0 < s := by omega
    have k := B.h4 (s - 1) (by omega) (by omega)
    have k1 := seg_mono (key := key) hdX oX i (s - 1) (by omega) (by omega) (by omega)
    have k2 := seg_mono (key := key) hdY oY (p - (s - 1)) j (by simp; omega) (by omega) (by simp; omega)
    exact Int.le_trans k1 (Int.le_trans k k2)
  · intro x hx y hy
    obtain ⟨i, i1, i2, rfl⟩ := mem_seg hd2 hx
    obtain ⟨j, j1, j2, rfl⟩ := mem_seg hd3 hy
    simp only [List.length_append, List.length_drop, l1, l2] at i1 i2 j1 j2
    have hs : s < r0 := by omega
    have k := B.h5 s (by omega) hs
    have k1 := seg_mono (key := key) hdX oX s i (by omega) (by omega) (by omega)
    have k2 := seg_mono (key := key) hdY oY j (p - s) (by simp; omega) (by omega) (by simp; omega)
    omega

/-! one element against a run -/
theorem left_anti {d : Array α} {P Y Q : List α} {x : α} {a b : Nat} (hd : d.toList = P ++ ([x] ++ (Y ++ Q))) (ha : P.length = a) (hb : a + 1 + Y.length = b) (oY : Ord key Y) : Anti (fun c => key d[c]! < key d[a]!) (a + 1) b := by
  intro c c' h1 h2 h3 h
  have hd2 : d.toList = (P ++ [x]) ++ (Y ++ Q) := by rw [hd]; simp
  have k := seg_mono (key := key) hd2 oY c c' (by simp; omega) h2 (by simp; omega)
  exact Int.lt_of_le_of_lt k h
theorem left_split {d : Array α} {P Y Q : List α} {x : α} {a b i : Nat} (hd : d.toList = P ++ ([x] ++ (Y ++ Q))) (ha : P.length = a) (hb : a + 1 + Y.length = b) (oY : Ord key Y) (B : Bin (fun c => key d[c]! < key d[a]!) (a + 1) b i i) :
    ∃ Y1 Y2, Y = Y1 ++ Y2 ∧ a + 1 + Y1.length = i ∧ Ord key (Y1 ++ x :: Y2) ∧ Stab key (Y1 ++ x :: Y2) (x :: Y) := by
  have b1 := B.h1; have b3 := B.h3
  have l1 : (Y.take (i - (a + 1))).length = i - (a + 1) := by rw [List.length_take]; omega
  have hx : d[a]! = x := by rw [← ha]; exact at_list (B := Y ++ Q) (by rw [hd]; simp)
  have e : Y = Y.take (i - (a + 1)) ++ Y.drop (i - (a + 1)) := (List.take_append_drop _ _).symm
  have hd3 : d.toList = (P ++ [x]) ++ (Y.take (i - (a + 1)) ++ (Y.drop (i - (a + 1)) ++ Q)) := by rw [hd, ← List.append_assoc (Y.take _), List.take_append_drop]; simp
  have hd4 : d.toList = (P ++ [x] ++ Y.take (i - (a + 1))) ++ (Y.drop (i - (a + 1)) ++ Q) := by rw [hd3]; simp only [List.append_assoc]
  have hlt : ∀ y ∈ Y.take (i - (a + 1)), key y < key x := by
    intro y hy
    obtain ⟨j, j1, j2, rfl⟩ := mem_seg hd3 hy
    simp only [List.length_append, List.length_singleton, l1] at j1 j2
    rw [← hx]
    exact B.h4 j (by omega) (by omega)
  have hge : ∀ y ∈ Y.drop (i - (a + 1)), key x ≤ key y := by
    intro y hy
    obtain ⟨j, j1, j2, rfl⟩ := mem_seg hd4 hy
    simp only [List.length_append, List.length_singleton, List.length_drop, l1] at j1 j2
    rw [← hx]
    have := B.h5 j (by omega) (by omega)
    omega
  have o2 := oY
  rw [e] at o2
  obtain ⟨oA, oB, oAB⟩ := o2.split
  refine ⟨Y.take (i - (a + 1)), Y.drop (i - (a + 1)), e, by omega, ?_, ?_⟩
  · refine oA.app (List.pairwise_cons.2 ⟨hge, oB⟩) fun u hu v hv => ?_
    rcases List.mem_cons.1 hv with rfl | hv
    · exact Int.le_of_lt (hlt u hu)
    · exact oAB u hu v hv
  · have s1 : Stab key (Y.take (i - (a + 1)) ++ [x]) ([x] ++ Y.take (i - (a + 1))) := Stab.comm fun u hu v hv => by simp at hv; subst hv; have := hlt u hu; omega
    have s2 := s1.app (Stab.refl (Y.drop (i - (a + 1))))
    simpa using s2
theorem right_anti {d : Array α} {P X Q : List α} {y : α} {a m : Nat} (hd : d.toList = P ++ (X ++ ([y] ++ Q))) (ha : P.length = a) (hm : a + X.length = m) (oX : Ord key X) : Anti (fun c => key d[c]! ≤ key d[m]!) a m := by
  intro c c' h1 h2 h3 h
  have k := seg_mono (key := key) hd oX c c' (by omega) h2 (by omega)
  exact Int.le_trans k h
theorem right_split {d : Array α} {P X Q : List α} {y : α} {a m i : Nat} (hd : d.toList = P ++ (X ++ ([y] ++ Q))) (ha : P.length = a) (hm : a + X.length = m) (oX : Ord key X) (B : Bin (fun c => key d[c]! ≤ key d[m]!) a m i i) :
    ∃ X1 X2, X = X1 ++ X2 ∧ a + X1.length = i ∧ Ord key (X1 ++ y :: X2) ∧ Stab key (X1 ++ y :: X2) (X ++ [y]) := by
  have b1 := B.h1; have b3 := B.h3
  have l1 : (X.take (i - a)).length = i - a := by rw [List.length_take]; omega
  have hy : d[m]! = y := by
    have := at_list (d := d) (A := P ++ X) (x := y) (B := Q) (by rw [hd]; simp)
    rwa [List.length_append, ha, hm] at this
  have e : X = X.take (i - a) ++ X.drop (i - a) := (List.take_append_drop _ _).symm
  have hd3 : d.toList = P ++ (X.take (i - a) ++ (X.drop (i - a) ++ ([y] ++ Q))) := by rw [hd, ← List.append_assoc (X.take _), List.take_append_drop]
  have hd4 : d.toList = (P ++ X.take (i - a)) ++ (X.drop (i - a) ++ ([y] ++ Q)) := by rw [hd3]; simp only [List.append_assoc]
  have hle : ∀ x ∈ X.take (i - a), key x ≤ key y := by
    intro x hx
    obtain ⟨j, j1, j2, rfl⟩ := mem_seg hd3 hx
    simp only [l1] at j1 j2
    rw [← hy]
    exact B.h4 j (by omega) (by omega)
  have hgt : ∀ x ∈ X.drop (i - a), key y < key x := by
    intro x hx
    obtain ⟨j, j1, j2, rfl⟩ := mem_seg hd4 hx
    simp only [List.length_append, List.length_drop, l1] at j1 j2
    rw [← hy]
    have := B.h5 j (by omega) (by omega)
    omega
  have o2 := oX
  rw [e] at o2
  obtain ⟨oA, oB, oAB⟩ := o2.split
  refine ⟨X.take (i - a), X.drop (i - a), e, by omega, ?_, ?_⟩
  · refine oA.app (List.pairwise_cons.2 ⟨fun v hv => Int.le_of_lt (hgt v hv), oB⟩) fun u hu v hv => ?_
    rcases List.mem_cons.1 hv with rfl | hv
    · exact hle u hu
    · exact oAB u hu v hv
  · have s1 : Stab key ([y] ++ X.drop (i - a)) (X.drop (i - a) ++ [y]) := Stab.comm fun u hu v hv => by simp at hu; subst hu; have := hgt v hv; omega
    have s2 := (Stab.refl (key := key) (X.take (i - a))).app s1
    have e3 : X.take (i - a) ++ (X.drop (i - a) ++ [y]) = X ++ [y] := by rw [← List.append_assoc, List.take_append_drop]
    rw [e3] at s2
    simpa using s2
end

/-! blocks -/
section
variable {α : Type} {key : α → Int}
variable (key) in
structure Stg (bs : Nat) (Bs : List (List α)) (T : List α) : Prop where
  bl : ∀ B ∈ Bs, B.length = bs ∧ Ord key B
  ot : Ord key T
  lt : T.length < bs
theorem blks_len {bs : Nat} : ∀ {Bs : List (List α)}, (∀ B ∈ Bs, B.length = bs ∧ Ord key B) → Bs.flatten.length = Bs.length * bs
  | [], _ => by simp
  | B :: r, h => by
    rw [List.flatten_cons, List.length_append, (h B (by simp)).1, blks_len (fun C hC => h C (by simp [hC])), List.length_cons, Nat.add_mul]
    omega
theorem Stg.done {bs : Nat} {Bs : List (List α)} {T : List α} (h : Stg key bs Bs T) (hn : (Bs.flatten ++ T).length ≤ bs) : Ord key (Bs.flatten ++ T) := by
  have hl := blks_len h.bl
  have ht := h.lt
  match Bs, h with
  | [], h => simpa using h.ot
  | [B], h =>
    have := (h.bl B (by simp))
    obtain rfl : T = [] := List.eq_nil_of_length_eq_zero (by simp at hn; omega)
    simpa using this.2
  | B :: C :: r, h =>
    rw [List.length_append, hl] at hn
    simp [Nat.add_mul] at hn
    omega
end
end Go.Proofs.Ytnnihiajggdplaa
