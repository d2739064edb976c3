/- Sorting timed packets in place: the rotation. No condition. -/
import Derived.Test.YtnnihiajggdplaaTrZ
namespace Go.Proofs.Ytnnihiajggdplaa
open Go.RowKit Go.Sort

def RoRel (w0 : World) (base g N c m : Nat) (F : List Timed) (i j : Value) (wr : World) : Prop := ∃ P X Y Q : List Timed, ∃ d : Array Timed, 0 < X.length ∧ 0 < Y.length ∧ P.length + X.length = m ∧ i = .int .i64 X.length ∧ j = .int .i64 Y.length ∧ RowW w0 base g N c d wr ∧ d.toList = P ++ (X ++ (Y ++ Q)) ∧ F = P ++ (Y ++ (X ++ Q))

set_option maxRecDepth 100000 in
set_option maxHeartbeats 4000000 in
theorem rotate_any (w0 : World) (base g N c : Nat) (d : Array Timed) (W : World) (P X Y Q : List Timed) (a m b : Nat) (cv : Value) (hR : RowW w0 base g N c d W) (hd : d.toList = P ++ (X ++ (Y ++ Q))) (ha : P.length = a) (hm : a + X.length = m) (hb : m + Y.length = b) (hX : 0 < X.length) (hY : 0 < Y.length) (hN : N ≤ 1048576) :
    Calls Try.prog 87 #[.slice (some ⟨g, 0, none⟩) N c, .int .i64 a, .int .i64 m, .int .i64 b, cv] W fun e w' => e = .returned (.tuple #[]) ∧ ∃ d', RowW w0 base g N c d' w' ∧ d'.toList = P ++ (Y ++ (X ++ Q)) := by
  have hsz : N = P.length + X.length + Y.length + Q.length := by rw [← hR.len, ← Array.length_toList, hd]; simp; omega
  have HR := Lib.hid hR
  have HD := Lib.hid hd
  clear hR hd
  have e1 : IntKind.i64.wrap ((m : Int) - (a : Int)) = (X.length : Int) := by rw [IntKind.wrap_i64]; omega
  have e2 : IntKind.i64.wrap ((b : Int) - (m : Int)) = (Y.length : Int) := by rw [IntKind.wrap_i64]; omega
  have HSZ := Lib.hid (And.intro hsz (And.intro ha (And.intro hm hb)))
  clear hsz ha hm hb
  go_enter Try.func87, Try.ntmps87
  go_wp2_with fail
  go_loopw [10, 11] (RoRel w0 base g N c m (P ++ (Y ++ (X ++ Q)))) (fun i j _ => (intOf i).toNat + (intOf j).toNat)
  case atStart => exact ⟨P, X, Y, Q, d, hX, hY, by have := HSZ.out; omega, rfl, rfl, HR.out, HD.out, rfl⟩
  case round =>
    clear HR HD e1 e2
    obtain ⟨P', X', Y', Q', dk, hX', hY', hP', rfl, rfl, hR, hd, hF⟩ := hrel
    have hsz2 : N = P'.length + X'.length + Y'.length + Q'.length := by rw [← hR.len, ← Array.length_toList, hd]; simp; omega
    have HF := Lib.hid hF
    have e3 : IntKind.i64.wrap ((m : Int) - (X'.length : Int)) = (P'.length : Int) := by rw [IntKind.wrap_i64]; omega
    have HSZ2 := Lib.hid (And.intro hsz2 hP')
    have hmN : m + Y'.length ≤ 1048576 := by omega
    clear hF
    by_cases hlt : Y'.length < X'.length
    · have hne : ¬ X'.length = Y'.length := by omega
      have l1 : (X'.take Y'.length).length = Y'.length := by rw [List.length_take]; omega
      have l2 : (X'.drop Y'.length).length = X'.length - Y'.length := by rw [List.length_drop]
      have hd2 : dk.toList = P' ++ (X'.take Y'.length ++ (X'.drop Y'.length ++ (Y' ++ Q'))) := by rw [hd, ← List.append_assoc (X'.take _), List.take_append_drop]
      have hc := fun cv => swapRange_any w0 base g N c dk wr P' (X'.take Y'.length) (X'.drop Y'.length) Y' Q' P'.length m Y'.length cv hR hd2 rfl (by omega) l1 rfl hN
      have e4 : IntKind.i64.wrap ((X'.length : Int) - (Y'.length : Int)) = ((X'.drop Y'.length).length : Int) := by rw [IntKind.wrap_i64]; omega
      have hF2 : P ++ (Y ++ (X ++ Q)) = (P' ++ Y') ++ (X'.take Y'.length ++ (X'.drop Y'.length ++ Q')) := by rw [HF.out, ← List.append_assoc (X'.take _), List.take_append_drop, List.append_assoc]
      generalize X'.take Y'.length = X1 at *
      generalize X'.drop Y'.length = X2 at *
      have HF2 := Lib.hid hF2
      have HL := Lib.hid (And.intro l1 l2)
      clear hR hd hd2 hF2 l1 l2
      have hlz : (Y'.length : Int) < (X'.length : Int) := by omega
      clear hsz2 hP'
      go_wp2_with fail
      refine (hc _).mono ?_; rintro e w1 ⟨rfl, d1, hR1, hd1⟩
      have HR1 := Lib.hid hR1
      have HD1 := Lib.hid hd1
      clear hc hR1 hd1
      go_wp2_with fail
      go_roundw
      case rel =>
        have hl := HL.out
        have hr2 : RoRel w0 base g N c m (P ++ (Y ++ (X ++ Q))) (.int .i64 X2.length) (.int .i64 Y'.length) w1 := ⟨P' ++ Y', X2, X1, Q', d1, by omega, by omega, by have := HSZ2.out; simp; omega, rfl, by rw [hl.1], HR1.out, by rw [HD1.out]; simp, HF2.out⟩
        first | exact hr2 | ((repeat apply Exists.intro); exact ⟨hr2, rfl⟩)
      case measure => have := HL.out; simp [intOf]; omega
    · by_cases heq : X'.length = Y'.length
      · have hc := fun cv => swapRange_any w0 base g N c dk wr P' X' [] Y' Q' P'.length m Y'.length cv hR (by rw [hd]; rfl) rfl (by simp; omega) heq rfl hN
        have e7 : IntKind.i64.wrap ((m : Int) - (Y'.length : Int)) = (P'.length : Int) := by rw [IntKind.wrap_i64]; omega
        clear hR hd hsz2 hP'
        go_wp2_with fail
        refine (hc _).mono ?_; rintro e w1 ⟨rfl, d1, hR1, hd1⟩
        go_wp2_with fail
        go_end0
        exact ⟨rfl, d1, hR1, by rw [HF.out, hd1]; rfl⟩
      · have l0 : X'.length < Y'.length := by omega
        have l1 : (Y'.take (Y'.length - X'.length)).length = Y'.length - X'.length := by rw [List.length_take]; omega
        have l2 : (Y'.drop (Y'.length - X'.length)).length = X'.length := by rw [List.length_drop]; omega
        have hd2 : dk.toList = P' ++ (X' ++ (Y'.take (Y'.length - X'.length) ++ (Y'.drop (Y'.length - X'.length) ++ Q'))) := by rw [hd, ← List.append_assoc (Y'.take _), List.take_append_drop]
        obtain ⟨q, hq⟩ : ∃ q, q = P'.length + X'.length + (Y'.length - X'.length) := ⟨_, rfl⟩
        have hc := fun cv => swapRange_any w0 base g N c dk wr P' X' (Y'.take (Y'.length - X'.length)) (Y'.drop (Y'.length - X'.length)) Q' P'.length q X'.length cv hR hd2 rfl (by omega) rfl l2 hN
        have e4 : IntKind.i64.wrap ((Y'.length : Int) - (X'.length : Int)) = ((Y'.take (Y'.length - X'.length)).length : Int) := by rw [IntKind.wrap_i64]; omega
        have e5 : IntKind.i64.wrap ((m : Int) + (Y'.length : Int)) = ((m + Y'.length : Nat) : Int) := by rw [IntKind.wrap_i64]; omega
        have e5b : IntKind.i64.wrap ((m : Int) + (Y'.length : Int)) = (m : Int) + (Y'.length : Int) := by rw [IntKind.wrap_i64]; omega
        have e6 : IntKind.i64.wrap ((m : Int) + (Y'.length : Int) - (X'.length : Int)) = (q : Int) := by rw [IntKind.wrap_i64]; omega
        have hF2 : P ++ (Y ++ (X ++ Q)) = P' ++ (Y'.take (Y'.length - X'.length) ++ (Y'.drop (Y'.length - X'.length) ++ (X' ++ Q'))) := by rw [HF.out, ← List.append_assoc (Y'.take _), List.take_append_drop]
        generalize Y'.take (Y'.length - X'.length) = Y1 at *
        generalize Y'.drop (Y'.length - X'.length) = Y2 at *
        have HF2 := Lib.hid hF2
        have HL := Lib.hid (And.intro l1 l2)
        clear hR hd hd2 hF2 l1 l2 e5
        have hlz : ¬ (Y'.length : Int) < (X'.length : Int) := by omega
        have HQ := Lib.hid hq
        clear hsz2 hP' hq
        go_wp2_with fail
        refine (hc _).mono ?_; rintro e w1 ⟨rfl, d1, hR1, hd1⟩
        have HR1 := Lib.hid hR1
        have HD1 := Lib.hid hd1
        clear hc hR1 hd1
        go_wp2_with fail
        go_roundw
        case rel =>
          have hl := HL.out
          have hr2 : RoRel w0 base g N c m (P ++ (Y ++ (X ++ Q))) (.int .i64 X'.length) (.int .i64 Y1.length) w1 := ⟨P', Y2, Y1, X' ++ Q', d1, by omega, by omega, by have := HSZ2.out; omega, by rw [hl.2], rfl, HR1.out, by rw [HD1.out], HF2.out⟩
          first | exact hr2 | ((repeat apply Exists.intro); exact ⟨hr2, rfl⟩)
        case measure => have := HL.out; simp [intOf]; omega
end Go.Proofs.Ytnnihiajggdplaa
