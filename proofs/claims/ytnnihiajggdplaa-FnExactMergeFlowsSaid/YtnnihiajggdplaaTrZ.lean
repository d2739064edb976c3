/- Sorting timed packets in place: the exchange of two runs, the rotation. No condition. -/
import Derived.Test.YtnnihiajggdplaaTrY
import Derived.BigRegion
import Derived.WalkSpells
namespace Go.Proofs.Ytnnihiajggdplaa
open Go.RowKit Go.Sort

theorem apart7 {p q : Nat} (h : p ≠ q) : (¬ p = q) ∧ (¬ p * 7 = q * 7 + 1) ∧ (¬ p * 7 + 1 = q * 7) ∧ (¬ p * 7 = q * 7 + 2) ∧ (¬ p * 7 + 2 = q * 7) ∧ (¬ p * 7 = q * 7 + 3) ∧ (¬ p * 7 + 3 = q * 7) ∧ (¬ p * 7 = q * 7 + 4) ∧ (¬ p * 7 + 4 = q * 7) ∧ (¬ p * 7 = q * 7 + 5) ∧ (¬ p * 7 + 5 = q * 7) ∧ (¬ p * 7 = q * 7 + 6) ∧ (¬ p * 7 + 6 = q * 7) ∧ (¬ q = p) ∧ (¬ q * 7 = p * 7 + 1) ∧ (¬ q * 7 + 1 = p * 7) ∧ (¬ q * 7 = p * 7 + 2) ∧ (¬ q * 7 + 2 = p * 7) ∧ (¬ q * 7 = p * 7 + 3) ∧ (¬ q * 7 + 3 = p * 7) ∧ (¬ q * 7 = p * 7 + 4) ∧ (¬ q * 7 + 4 = p * 7) ∧ (¬ q * 7 = p * 7 + 5) ∧ (¬ q * 7 + 5 = p * 7) ∧ (¬ q * 7 = p * 7 + 6) ∧ (¬ q * 7 + 6 = p * 7) := by
  refine ⟨?_, ?_, ?_, ?_, ?_, ?_, ?_, ?_, ?_, ?_, ?_, ?_, ?_, ?_, ?_, ?_, ?_, ?_, ?_, ?_, ?_, ?_, ?_, ?_, ?_, ?_⟩ <;> omega
theorem sr_step {α : Type} [Inhabited α] {d : Array α} {P X M Y Q : List α} {a b n i : Nat} (ha : P.length = a) (hb : a + X.length + M.length = b) (hX : X.length = n) (hY : Y.length = n) (hi : i < n)
    (h : d.toList = P ++ ((Y.take i ++ X.drop i) ++ (M ++ ((X.take i ++ Y.drop i) ++ Q)))) :
    (swp d (a + i) (b + i)).toList = P ++ ((Y.take (i + 1) ++ X.drop (i + 1)) ++ (M ++ ((X.take (i + 1) ++ Y.drop (i + 1)) ++ Q))) := by
  have eX : X.drop i = X[i] :: X.drop (i + 1) := List.drop_eq_getElem_cons (by omega)
  have eY : Y.drop i = Y[i] :: Y.drop (i + 1) := List.drop_eq_getElem_cons (by omega)
  have tX : X.take (i + 1) = X.take i ++ [X[i]] := by rw [List.take_add_one, List.getElem?_eq_getElem (by omega)]; rfl
  have tY : Y.take (i + 1) = Y.take i ++ [Y[i]] := by rw [List.take_add_one, List.getElem?_eq_getElem (by omega)]; rfl
  have h1 : d.toList = (P ++ Y.take i) ++ X[i] :: ((X.drop (i + 1) ++ (M ++ X.take i)) ++ Y[i] :: (Y.drop (i + 1) ++ Q)) := by
    rw [h, eX, eY]
    simp only [List.append_assoc, List.cons_append]
  have h2 := swp_list h1
  have l1 : (P ++ Y.take i).length = a + i := by rw [List.length_append, List.length_take, ha]; omega
  have l2 : (P ++ Y.take i).length + 1 + (X.drop (i + 1) ++ (M ++ X.take i)).length = b + i := by rw [l1, List.length_append, List.length_append, List.length_drop, List.length_take]; omega
  rw [l2, l1] at h2
  rw [h2, tX, tY]
  simp only [List.append_assoc, List.cons_append, List.nil_append]
def SrRel (w0 : World) (base g N c : Nat) (P X M Y Q : List Timed) (i : Value) (wr : World) : Prop := ∃ k : Nat, ∃ d : Array Timed, k ≤ X.length ∧ i = .int .i64 k ∧ RowW w0 base g N c d wr ∧ d.toList = P ++ ((Y.take k ++ X.drop k) ++ (M ++ ((X.take k ++ Y.drop k) ++ Q)))

set_option maxRecDepth 100000 in
set_option maxHeartbeats 4000000 in
theorem swapRange_any (w0 : World) (base g N c : Nat) (d : Array Timed) (W : World) (P X M Y Q : List Timed) (a b n : Nat) (cv : Value) (hR : RowW w0 base g N c d W) (hd : d.toList = P ++ (X ++ (M ++ (Y ++ Q)))) (ha : P.length = a) (hb : a + X.length + M.length = b) (hX : X.length = n) (hY : Y.length = n) (hN : N ≤ 1048576) :
    Calls Try.prog 88 #[.slice (some ⟨g, 0, none⟩) N c, .int .i64 a, .int .i64 b, .int .i64 n, cv] W fun e w' => e = .returned (.tuple #[]) ∧ ∃ d', RowW w0 base g N c d' w' ∧ d'.toList = P ++ (Y ++ (M ++ (X ++ Q))) := by
  have hsz : N = P.length + X.length + M.length + Y.length + Q.length := by rw [← hR.len, ← Array.length_toList, hd]; simp; omega
  have HR := Lib.hid hR
  have HD := Lib.hid hd
  clear hR hd
  go_enter Try.func88, Try.ntmps88
  go_wp2_with fail
  go_loopw [10] (SrRel w0 base g N c P X M Y Q) (fun i _ => n - (intOf i).toNat)
  case atStart => exact ⟨0, d, Nat.zero_le _, rfl, HR.out, by simpa using HD.out⟩
  case round =>
    clear HR HD
    obtain ⟨i, dk, hi, rfl, hR, hd⟩ := hrel
    rw [hX] at hi
    by_cases hlt : i < n
    · have hst := sr_step ha hb hX hY hlt hd
      obtain ⟨p, hp⟩ : ∃ p, p = a + i := ⟨_, rfl⟩
      obtain ⟨q, hq⟩ : ∃ q, q = b + i := ⟨_, rfl⟩
      rw [← hp, ← hq] at hst
      have p1 : p < N := by omega
      have q1 : q < N := by omega
      obtain ⟨x, hx⟩ : ∃ u, dk[p]! = u := ⟨_, rfl⟩
      obtain ⟨y, hy⟩ : ∃ u, dk[q]! = u := ⟨_, rfl⟩
      have R2 := Lib.hid (hR.swap p1 q1 hx hy).drew
      have cp := hR.seven p1 hx
      have cq := hR.seven q1 hy
      have fp := hR.froz p
      have fq := hR.froz q
      have HST := Lib.hid hst
      clear hx hy hR hd hst
      have ap : IntKind.i64.wrap ((a : Int) + (i : Int)) = (p : Int) := by rw [IntKind.wrap_i64]; omega
      have aq : IntKind.i64.wrap ((b : Int) + (i : Int)) = (q : Int) := by rw [IntKind.wrap_i64]; omega
      obtain ⟨n0, n1, n2, n3, n4, n5, n6, n7, n8, n9, n10, n11, n12, n13, n14, n15, n16, n17, n18, n19, n20, n21, n22, n23, n24, n25⟩ := apart7 (p := p) (q := q) (by omega)
      have p2 : (p : Int) < (N : Int) := by omega
      have q2 : (q : Int) < (N : Int) := by omega
      have i2 : (i : Int) < (n : Int) := by omega
      have HPQ := Lib.hid (And.intro hp hq)
      clear hp hq
      go_wp2_with fail
      go_region
      go_wp2_with fail
      go_roundw
      case rel =>
        have hr2 : SrRel w0 base g N c P X M Y Q (.int .i64 ((i : Int) + 1)) (put7 (put7 wr g (p * 7) y) g (q * 7) x).drew := ⟨i + 1, _, by omega, by simp, R2.out, HST.out⟩
        first | exact hr2 | ((repeat apply Exists.intro); exact ⟨hr2, rfl⟩)
      case measure => simp [intOf]; omega
    · obtain rfl : i = n := by omega
      go_wp2_with fail
      go_end0
      rw [List.take_of_length_le (by omega), List.drop_eq_nil_of_le (by omega), List.take_of_length_le (by omega), List.drop_eq_nil_of_le (by omega)] at hd
      exact ⟨rfl, dk, hR, by simpa using hd⟩
end Go.Proofs.Ytnnihiajggdplaa
