/- The stable order by a key, in plain words: two lists in order whose elements of one key stand alike are equal; what the sorting by insertion and the merging by rotation give. No condition. -/
import Derived.Sort.WalkA
namespace Go.Proofs.Ytnnihiajggdplaa
open Go.Sort
section
variable {α : Type} (key : α → Int)

def Ord (l : List α) : Prop := l.Pairwise (fun a b => key a ≤ key b)
structure Stab (l l' : List α) : Prop where
  len : l.length = l'.length
  fil : ∀ t : Int, l.filter (fun a => key a == t) = l'.filter (fun a => key a == t)
variable {key}
theorem Stab.refl (l : List α) : Stab key l l := ⟨rfl, fun _ => rfl⟩
theorem Stab.symm {l l' : List α} (h : Stab key l l') : Stab key l' l := ⟨h.len.symm, fun t => (h.fil t).symm⟩
theorem Stab.trans {l l' l'' : List α} (h : Stab key l l') (k : Stab key l' l'') : Stab key l l'' := ⟨h.len.trans k.len, fun t => (h.fil t).trans (k.fil t)⟩
theorem Stab.app {a a' b b' : List α} (h : Stab key a a') (k : Stab key b b') : Stab key (a ++ b) (a' ++ b') :=
  ⟨by rw [List.length_append, List.length_append, h.len, k.len], fun t => by rw [List.filter_append, List.filter_append, h.fil t, k.fil t]⟩
theorem Stab.mem {l l' : List α} (h : Stab key l l') {x : α} : x ∈ l ↔ x ∈ l' := by
  have e : ∀ l : List α, x ∈ l ↔ x ∈ l.filter (fun a => key a == key x) := fun l => by simp [List.mem_filter]
  rw [e l, e l', h.fil]
theorem Stab.comm {X Y : List α} (h : ∀ x ∈ X, ∀ y ∈ Y, key x ≠ key y) : Stab key (X ++ Y) (Y ++ X) := ⟨by simp [Nat.add_comm], fun t => by
  rw [List.filter_append, List.filter_append]
  by_cases hx : ∃ x ∈ X, key x = t
  · obtain ⟨x, hx, rfl⟩ := hx
    have hY : Y.filter (fun a => key a == key x) = [] := List.filter_eq_nil_iff.2 (fun y hy => by simpa using fun e => h x hx y hy e.symm)
    rw [hY]; simp
  · have hX : X.filter (fun a => key a == t) = [] := List.filter_eq_nil_iff.2 (fun x hxm => by simpa using fun e => hx ⟨x, hxm, e⟩)
    rw [hX]; simp⟩
theorem stab_unique : ∀ {l l' : List α}, Ord key l → Ord key l' → Stab key l l' → l = l'
  | [], l', _, _, h => (List.eq_nil_of_length_eq_zero (by simpa using h.len.symm)).symm
  | a :: r, [], _, _, h => by have := h.len; simp at this
  | a :: r, b :: r', h1, h2, h => by
    have hb : b ∈ a :: r := h.mem.2 (by simp)
    have ha : a ∈ b :: r' := h.mem.1 (by simp)
    obtain ⟨h1a, h1r⟩ := List.pairwise_cons.1 h1
    obtain ⟨h2b, h2r⟩ := List.pairwise_cons.1 h2
    have x1 : key a ≤ key b := by
      rcases List.mem_cons.1 hb with e | hm
      · rw [e]; exact Int.le_refl _
      · exact h1a b hm
    have x2 : key b ≤ key a := by
      rcases List.mem_cons.1 ha with e | hm
      · rw [e]; exact Int.le_refl _
      · exact h2b a hm
    have e : key a = key b := Int.le_antisymm x1 x2
    have e2 := h.fil (key a)
    rw [List.filter_cons_of_pos (by simp), List.filter_cons_of_pos (by simp [e])] at e2
    injection e2 with e3 e4
    subst e3
    congr 1
    refine stab_unique h1r h2r ⟨by have := h.len; simpa using this, fun t => ?_⟩
    by_cases ht : key a = t
    · subst ht; exact e4
    · have e5 := h.fil t
      rwa [List.filter_cons_of_neg (by simpa using ht), List.filter_cons_of_neg (by simpa using ht)] at e5
theorem Ord.app {X Y : List α} (h : Ord key X) (k : Ord key Y) (hxy : ∀ x ∈ X, ∀ y ∈ Y, key x ≤ key y) : Ord key (X ++ Y) := List.pairwise_append.2 ⟨h, k, hxy⟩
theorem Ord.split {X Y : List α} (h : Ord key (X ++ Y)) : Ord key X ∧ Ord key Y ∧ ∀ x ∈ X, ∀ y ∈ Y, key x ≤ key y := List.pairwise_append.1 h
theorem Ord.one (x : α) : Ord key [x] := List.pairwise_singleton _ _
theorem Ord.none : Ord key ([] : List α) := List.Pairwise.nil

/-! the reference's insertion -/
variable (key) in
def insB (x : α) (l : List α) : List α := l.filter (fun a => decide (key a ≤ key x)) ++ x :: l.filter (fun a => decide (key x < key a))
variable (key) in
def srt (l : List α) : List α := l.foldl (fun s x => insB key x s) []
theorem srt_nil : srt key ([] : List α) = [] := rfl
theorem srt_snoc (l : List α) (x : α) : srt key (l ++ [x]) = insB key x (srt key l) := by unfold srt; rw [List.foldl_append]; rfl
theorem insB_split {x : α} {A B : List α} (hA : ∀ a ∈ A, key a ≤ key x) (hB : ∀ b ∈ B, key x < key b) : insB key x (A ++ B) = A ++ x :: B := by
  unfold insB
  have f1 : A.filter (fun a => decide (key a ≤ key x)) = A := List.filter_eq_self.2 (fun a ha => decide_eq_true (hA a ha))
  have f2 : B.filter (fun a => decide (key a ≤ key x)) = [] := List.filter_eq_nil_iff.2 (fun b hb => by have := hB b hb; simp; omega)
  have f3 : A.filter (fun a => decide (key x < key a)) = [] := List.filter_eq_nil_iff.2 (fun a ha => by have := hA a ha; simp; omega)
  have f4 : B.filter (fun a => decide (key x < key a)) = B := List.filter_eq_self.2 (fun b hb => decide_eq_true (hB b hb))
  rw [List.filter_append, List.filter_append, f1, f2, f3, f4]
  simp
theorem insB_ord {x : α} {l : List α} (h : Ord key l) : Ord key (insB key x l) := by
  unfold insB
  have h1 : Ord key (l.filter (fun a => decide (key a ≤ key x))) := List.Pairwise.filter _ h
  have h2 : Ord key (l.filter (fun a => decide (key x < key a))) := List.Pairwise.filter _ h
  refine Ord.app h1 (List.pairwise_cons.2 ⟨fun b hb => ?_, h2⟩) ?_
  · have := (List.mem_filter.1 hb).2; simp at this; omega
  · intro a ha b hb
    have ha2 := (List.mem_filter.1 ha).2
    simp at ha2
    rcases List.mem_cons.1 hb with rfl | hb
    · exact ha2
    · have := (List.mem_filter.1 hb).2; simp at this; omega
theorem parts_stab (v : Int) : ∀ l : List α, Stab key (l.filter (fun a => decide (key a ≤ v)) ++ l.filter (fun a => decide (v < key a))) l
  | [] => Stab.refl _
  | a :: r => by
    have ih := parts_stab v r
    by_cases h : key a ≤ v
    · rw [List.filter_cons_of_pos (by simpa using h), List.filter_cons_of_neg (by simp; omega)]
      exact Stab.app (Stab.refl [a]) ih
    · rw [List.filter_cons_of_neg (by simpa using h), List.filter_cons_of_pos (by simp; omega)]
      have h1 : Stab key (r.filter (fun a => decide (key a ≤ v)) ++ [a]) ([a] ++ r.filter (fun a => decide (key a ≤ v))) := Stab.comm (fun x hx y hy => by
        have := (List.mem_filter.1 hx).2
        simp at this hy
        subst hy
        omega)
      have h2 := h1.app (Stab.refl (r.filter (fun a => decide (v < key a))))
      simp only [List.append_assoc, List.cons_append, List.nil_append] at h2
      exact h2.trans (Stab.app (Stab.refl [a]) ih)
theorem insB_stab (x : α) (l : List α) : Stab key (insB key x l) (l ++ [x]) := by
  unfold insB
  have h1 : Stab key (x :: l.filter (fun a => decide (key x < key a))) (l.filter (fun a => decide (key x < key a)) ++ [x]) := Stab.comm (X := [x]) (fun y hy b hb => by
    have := (List.mem_filter.1 hb).2
    simp at this hy
    subst hy
    omega)
  have h2 := (Stab.refl (key := key) (l.filter (fun a => decide (key a ≤ key x)))).app h1
  refine h2.trans ?_
  rw [← List.append_assoc]
  exact (parts_stab (key x) l).app (Stab.refl [x])
theorem fold_ok : ∀ (l acc : List α), Ord key acc → Ord key (l.foldl (fun s x => insB key x s) acc) ∧ Stab key (l.foldl (fun s x => insB key x s) acc) (acc ++ l)
  | [], acc, h => ⟨h, by simpa using Stab.refl _⟩
  | x :: r, acc, h => by
    obtain ⟨h1, h2⟩ := fold_ok r (insB key x acc) (insB_ord h)
    refine ⟨h1, h2.trans ?_⟩
    have h3 := (insB_stab (key := key) x acc).app (Stab.refl r)
    simpa using h3
theorem srt_ok (l : List α) : Ord key (srt key l) ∧ Stab key (srt key l) l := fold_ok l [] Ord.none
theorem srt_of {l l' : List α} (h : Ord key l') (s : Stab key l' l) : l' = srt key l := stab_unique h (srt_ok l).1 (s.trans (srt_ok l).2.symm)

/-! merging -/
theorem merge_join {X1 X2 Y1 Y2 Z1 Z2 : List α} (hX : Ord key (X1 ++ X2)) (hY : Ord key (Y1 ++ Y2)) (h12 : ∀ x ∈ X1, ∀ y ∈ Y2, key x ≤ key y) (h21 : ∀ x ∈ X2, ∀ y ∈ Y1, key y < key x)
    (o1 : Ord key Z1) (s1 : Stab key Z1 (X1 ++ Y1)) (o2 : Ord key Z2) (s2 : Stab key Z2 (X2 ++ Y2)) : Ord key (Z1 ++ Z2) ∧ Stab key (Z1 ++ Z2) ((X1 ++ X2) ++ (Y1 ++ Y2)) := by
  refine ⟨o1.app o2 fun x hx y hy => ?_, (s1.app s2).trans ?_⟩
  · have hx' := s1.mem.1 hx
    have hy' := s2.mem.1 hy
    rcases List.mem_append.1 hx' with hx1 | hx1 <;> rcases List.mem_append.1 hy' with hy1 | hy1
    · exact hX.split.2.2 x hx1 y hy1
    · exact h12 x hx1 y hy1
    · have := h21 y hy1 x hx1; omega
    · exact hY.split.2.2 x hx1 y hy1
  · have h1 : Stab key (Y1 ++ X2) (X2 ++ Y1) := Stab.comm (fun y hy x hx => by have := h21 x hx y hy; omega)
    have h2 := ((Stab.refl (key := key) X1).app h1).app (Stab.refl Y2)
    simpa only [List.append_assoc] using h2
end

/-! arrays and lists -/
section
variable {α : Type} [Inhabited α]
theorem at_list {d : Array α} {A B : List α} {x : α} (h : d.toList = A ++ x :: B) : d[A.length]! = x := by
  have hl : A.length < d.size := by rw [← Array.length_toList, h]; simp
  rw [getElem!_pos d _ hl, ← Array.getElem_toList]
  simp [h]
theorem swp_list {d : Array α} {A B C : List α} {x y : α} (h : d.toList = A ++ x :: (B ++ y :: C)) : (swp d A.length (A.length + 1 + B.length)).toList = A ++ y :: (B ++ x :: C) := by
  have hx := at_list h
  have h' : d.toList = (A ++ x :: B) ++ y :: C := by rw [h]; simp
  have hy := at_list h'
  have e : (A ++ x :: B).length = A.length + 1 + B.length := by simp; omega
  rw [e] at hy
  unfold swp
  rw [hx, hy, Array.toList_setIfInBounds, Array.toList_setIfInBounds, h, List.set_append_right _ _ (Nat.le_refl _), Nat.sub_self, List.set_cons_zero, List.set_append_right _ _ (by omega),
    show A.length + 1 + B.length - A.length = B.length + 1 by omega, List.set_cons_succ, List.set_append_right _ _ (Nat.le_refl _), Nat.sub_self, List.set_cons_zero]
theorem swp_list' {d : Array α} {A B C : List α} {x y : α} (h : d.toList = A ++ x :: (B ++ y :: C)) : (swp d (A.length + 1 + B.length) A.length).toList = A ++ y :: (B ++ x :: C) := by
  have hx := at_list h
  have h' : d.toList = (A ++ x :: B) ++ y :: C := by rw [h]; simp
  have hy := at_list h'
  have e : (A ++ x :: B).length = A.length + 1 + B.length := by simp; omega
  rw [e] at hy
  unfold swp
  rw [hx, hy, Array.toList_setIfInBounds, Array.toList_setIfInBounds, h, List.set_append_right _ _ (by omega), show A.length + 1 + B.length - A.length = B.length + 1 by omega, List.set_cons_succ,
    List.set_append_right _ _ (Nat.le_refl _), Nat.sub_self, List.set_cons_zero, List.set_append_right _ _ (Nat.le_refl _), Nat.sub_self, List.set_cons_zero]

/-! sorting by insertion keeps equals in their order -/
variable {key : α → Int} {lt : α → α → Bool}
theorem insInner_list (hlt : ∀ x y, lt x y = decide (key x < key y)) {P : List α} {x : α} (a : Nat) (ha : P.length = a) : ∀ (n : Nat) (A B : List α) (d : Array α), A.length = n → d.toList = P ++ A ++ x :: B → Ord key A →
    ∃ A1 A2, A = A1 ++ A2 ∧ (insInner lt a (a + n) d).toList = P ++ A1 ++ x :: (A2 ++ B) ∧ (∀ y ∈ A2, key x < key y) ∧ (∀ y ∈ A1, key y ≤ key x)
  | 0, A, B, d, hA, hd, _ => by
    obtain rfl := List.eq_nil_of_length_eq_zero hA
    refine ⟨[], [], rfl, ?_, by simp, by simp⟩
    rw [Nat.add_zero, insInner_stop _ _ _ _ (Or.inl (Nat.le_refl _))]
    simpa using hd
  | n + 1, A, B, d, hA, hd, ho => by
    obtain ⟨A', y, rfl⟩ : ∃ A' y, A = A' ++ [y] := ⟨A.dropLast, A.getLast (by intro e; simp [e] at hA), (List.dropLast_concat_getLast _).symm⟩
    have hA' : A'.length = n := by simpa using hA
    have e1 : d.toList = (P ++ A') ++ y :: ([] ++ x :: B) := by rw [hd]; simp
    have hn : (P ++ A').length = a + n := by simp [ha, hA']
    have g1 := at_list e1
    have g2 := at_list (d := d) (A := P ++ (A' ++ [y])) hd
    rw [hn] at g1
    rw [show (P ++ (A' ++ [y])).length = a + n + 1 by simp [ha, hA']; omega] at g2
    obtain ⟨hoA, _, hoy⟩ := ho.split
    by_cases hl : key x < key y
    · rw [insInner_go lt a (a + (n + 1)) d (by omega) (by rw [show a + (n + 1) - 1 = a + n by omega, show a + (n + 1) = a + n + 1 by omega, g1, g2, hlt]; exact decide_eq_true hl)]
      have sw := swp_list' e1
      rw [hn] at sw
      have ix : a + (n + 1) - 1 = a + n := by omega
      have iy : a + (n + 1) = a + n + 1 + ([] : List α).length := by simp; omega
      rw [← iy] at sw
      rw [ix]
      obtain ⟨A1, A2, q1, q2, q3, q4⟩ := insInner_list (x := x) (P := P) hlt a ha n A' (y :: B) (swp d (a + (n + 1)) (a + n)) hA' (by rw [sw]; simp) hoA
      refine ⟨A1, A2 ++ [y], by rw [q1]; simp, by rw [q2]; simp, ?_, q4⟩
      intro z hz
      rcases List.mem_append.1 hz with hz | hz
      · exact q3 z hz
      · simp at hz; subst hz; exact hl
    · rw [insInner_stop lt a (a + (n + 1)) d (Or.inr (by rw [show a + (n + 1) - 1 = a + n by omega, show a + (n + 1) = a + n + 1 by omega, g1, g2, hlt]; exact decide_eq_false hl))]
      refine ⟨A' ++ [y], [], by simp, by rw [hd]; simp, by simp, ?_⟩
      intro z hz
      rcases List.mem_append.1 hz with hz | hz
      · have := hoy z hz y (by simp); omega
      · simp at hz; subst hz; omega
theorem insOuter_list (hlt : ∀ x y, lt x y = decide (key x < key y)) {P Q : List α} (a b : Nat) (ha : P.length = a) (S : List α) : ∀ (k : Nat) (A B : List α) (d : Array α), B.length = k → d.toList = P ++ (A ++ (B ++ Q)) → Ord key A → Stab key (A ++ B) S → a + A.length + k = b →
    ∃ Z, (insOuter lt a b (a + A.length) d).toList = P ++ (Z ++ Q) ∧ Ord key Z ∧ Stab key Z S
  | 0, A, B, d, hB, hd, ho, hs, hb => by
    obtain rfl := List.eq_nil_of_length_eq_zero hB
    rw [insOuter_stop _ _ _ _ _ (by omega)]
    exact ⟨A, by simpa using hd, ho, by simpa using hs⟩
  | k + 1, A, [], d, hB, hd, ho, hs, hb => by simp at hB
  | k + 1, A, x :: B, d, hB, hd, ho, hs, hb => by
    rw [insOuter_go _ _ _ _ _ (by omega)]
    obtain ⟨A1, A2, q1, q2, q3, q4⟩ := insInner_list hlt a ha A.length A (B ++ Q) d rfl (x := x) (P := P) (by rw [hd]; simp) ho
    subst q1
    obtain ⟨o1, o2, o12⟩ := ho.split
    have e : a + (A1 ++ A2).length + 1 = a + (A1 ++ x :: A2).length := by simp; omega
    rw [e]
    refine insOuter_list hlt a b ha S k (A1 ++ x :: A2) B _ (by simpa using hB) (by rw [q2]; simp) ?_ ?_ (by simp at hb ⊢; omega)
    · refine o1.app (List.pairwise_cons.2 ⟨fun y hy => Int.le_of_lt (q3 y hy), o2⟩) ?_
      intro u hu v hv
      rcases List.mem_cons.1 hv with rfl | hv
      · exact q4 u hu
      · exact o12 u hu v hv
    · refine Stab.trans ?_ hs
      have h1 : Stab key ([x] ++ A2) (A2 ++ [x]) := Stab.comm (fun u hu v hv => by simp at hu; subst hu; have := q3 v hv; omega)
      have h2 := ((Stab.refl (key := key) A1).app h1).app (Stab.refl B)
      simpa only [List.append_assoc, List.singleton_append, List.cons_append, List.nil_append] using h2
theorem insertionSort_list (hlt : ∀ x y, lt x y = decide (key x < key y)) {P S Q : List α} {d : Array α} {a b : Nat} (hd : d.toList = P ++ (S ++ Q)) (ha : P.length = a) (hb : a + S.length = b) :
    ∃ Z, (insertionSort lt d a b).toList = P ++ (Z ++ Q) ∧ Ord key Z ∧ Stab key Z S := by
  cases S with
  | nil =>
    unfold insertionSort
    rw [insOuter_stop _ _ _ _ _ (by simp at hb; omega)]
    exact ⟨[], hd, Ord.none, Stab.refl _⟩
  | cons x S =>
    have h := insOuter_list hlt (P := P) (Q := Q) a b ha (x :: S) S.length [x] S d rfl (by rw [hd]; simp) (Ord.one x) (Stab.refl _) (by simp at hb ⊢; omega)
    exact h
end
end Go.Proofs.Ytnnihiajggdplaa
