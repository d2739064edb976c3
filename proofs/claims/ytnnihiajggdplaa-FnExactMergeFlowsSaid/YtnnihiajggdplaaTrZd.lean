/- Sorting timed packets in place: symMerge where the second run is of one element. No condition. -/
import Derived.Test.YtnnihiajggdplaaTrZc
namespace Go.Proofs.Ytnnihiajggdplaa
open Go.RowKit Go.Sort

def ShR (w0 : World) (base g N c i : Nat) (P X1 X2 Q : List Timed) (y : Timed) (k : Value) (wr : World) : Prop := ∃ t : Nat, ∃ d : Array Timed, t ≤ X2.length ∧ k = .int .i64 ((i + t : Nat) : Int) ∧ RowW w0 base g N c d wr ∧ d.toList = (P ++ X1) ++ (X2.take t ++ y :: (X2.drop t ++ Q))

set_option maxRecDepth 100000 in
set_option maxHeartbeats 4000000 in
theorem symRight_any (w0 : World) (base g N c : Nat) (d : Array Timed) (W : World) (P X Q : List Timed) (y0 : Timed) (a m b : Nat) (hR : RowW w0 base g N c d W) (hd : d.toList = P ++ (X ++ ([y0] ++ Q))) (ha : P.length = a) (hm : a + X.length = m) (hb : m + 1 = b) (hX : 1 < X.length) (oX : Ord tkey X) (hN : N ≤ 1048576) :
    Calls Try.prog 84 #[.slice (some ⟨g, 0, none⟩) N c, .int .i64 a, .int .i64 m, .int .i64 b, .func (.func 63) #[] #[]] W (SymPost w0 base g N c P X [y0] Q) := by
  have hsz : P.length + X.length + 1 + Q.length = N := by rw [← hR.len, ← Array.length_toList, hd]; simp; omega
  have HA := Lib.hid (right_anti (key := tkey) hd ha hm oX)
  have HR := Lib.hid hR
  have hmN : m < N := by omega
  have ham : a ≤ m := by omega
  have e1 : IntKind.i64.wrap ((b : Int) - (m : Int)) = 1 := by rw [IntKind.wrap_i64]; omega
  have e0 : IntKind.i64.wrap ((m : Int) - (a : Int)) = (X.length : Int) := by rw [IntKind.wrap_i64]; omega
  have e2 : ¬ (X.length : Int) = 1 := by omega
  have e3 : ¬ X.length = 1 := by omega
  have e4 : ((X.length : Int) == 1) = false := by simp; omega
  have HE := Lib.hid (And.intro hd (And.intro ha (And.intro hm (And.intro hb hsz))))
  clear hR hd ha hm hb hsz hX
  go_enter Try.func84, Try.ntmps84
  go_wp2_with fail
  go_loopw [14, 15] (BinRel w0 base g N c d (fun c => tkey d[c]! ≤ tkey d[m]!) a m) (fun i j _ => (intOf j).toNat - (intOf i).toNat)
  case atStart => exact ⟨a, m, rfl, rfl, HR.out, Bin.start ham⟩
  case round =>
    clear HR e1 e0 e2 e3 e4
    obtain ⟨i, j, rfl, rfl, hR, hB⟩ := hrel
    have HR := Lib.hid hR
    have q1 := hB.h1
    have q2 := hB.h2
    have q3 := hB.h3
    have HB := Lib.hid hB
    clear hR hB
    by_cases hlt : i < j
    · obtain ⟨h1, h2⟩ := half_in hlt
      obtain ⟨h, hh⟩ : ∃ h, h = (i + j) / 2 := ⟨_, rfl⟩
      rw [← hh] at h1 h2
      have hz : ((i : Int) + (j : Int)) / 2 = (h : Int) := by omega
      obtain ⟨x, hx⟩ : ∃ u, d[m]! = u := ⟨_, rfl⟩
      obtain ⟨y, hy⟩ : ∃ u, d[h]! = u := ⟨_, rfl⟩
      have ijz : (i : Int) < (j : Int) := by omega
      have hN1 : h < N := by omega
      have h3 : (h : Int) < (N : Int) := by omega
      have m3 : (m : Int) < (N : Int) := by omega
      have HH := Lib.hid hh
      clear hh
      by_cases hxy : x.tick < y.tick
      · have hc : cmpZ x.tick y.tick < 0 := by have := cmpZ_lt (a := x.tick) (b := y.tick); simpa [hxy] using this
        have HB2 := Lib.hid (HB.out.down HA.out h1 h2 (show ¬ tkey d[h]! ≤ tkey d[m]! by rw [hx, hy]; exact Int.not_le.2 hxy))
        go_wp2_with fail
        refine wp_region_grow (by kernel_rfl) (by kernel_rfl) ?_
        intro S hne hkS ho
        have u0 : ∀ s : InC S, s.W.cell? ⟨g, m * 7, none⟩ = some (.int .i64 x.tick) := fun s => (HR.out.below (ho s)).at_ hmN hx 0 (by decide)
        have u1 : ∀ s : InC S, s.W.cell? ⟨g, m * 7 + 1, none⟩ = some (.int .i64 x.packet.id) := fun s => (HR.out.below (ho s)).at_ hmN hx 1 (by decide)
        have u2 : ∀ s : InC S, s.W.cell? ⟨g, m * 7 + 2, none⟩ = some (.int .i64 x.packet.source) := fun s => (HR.out.below (ho s)).at_ hmN hx 2 (by decide)
        have u3 : ∀ s : InC S, s.W.cell? ⟨g, m * 7 + 3, none⟩ = some (.int .i64 x.packet.dest) := fun s => (HR.out.below (ho s)).at_ hmN hx 3 (by decide)
        have u4 : ∀ s : InC S, s.W.cell? ⟨g, m * 7 + 4, none⟩ = some (.int .i64 x.packet.port) := fun s => (HR.out.below (ho s)).at_ hmN hx 4 (by decide)
        have u5 : ∀ s : InC S, s.W.cell? ⟨g, m * 7 + 5, none⟩ = some (.int .i64 x.packet.mark) := fun s => (HR.out.below (ho s)).at_ hmN hx 5 (by decide)
        have u6 : ∀ s : InC S, s.W.cell? ⟨g, m * 7 + 6, none⟩ = some (.int .i64 x.packet.size) := fun s => (HR.out.below (ho s)).at_ hmN hx 6 (by decide)
        have v0 : ∀ s : InC S, s.W.cell? ⟨g, h * 7, none⟩ = some (.int .i64 y.tick) := fun s => (HR.out.below (ho s)).at_ hN1 hy 0 (by decide)
        have v1 : ∀ s : InC S, s.W.cell? ⟨g, h * 7 + 1, none⟩ = some (.int .i64 y.packet.id) := fun s => (HR.out.below (ho s)).at_ hN1 hy 1 (by decide)
        have v2 : ∀ s : InC S, s.W.cell? ⟨g, h * 7 + 2, none⟩ = some (.int .i64 y.packet.source) := fun s => (HR.out.below (ho s)).at_ hN1 hy 2 (by decide)
        have v3 : ∀ s : InC S, s.W.cell? ⟨g, h * 7 + 3, none⟩ = some (.int .i64 y.packet.dest) := fun s => (HR.out.below (ho s)).at_ hN1 hy 3 (by decide)
        have v4 : ∀ s : InC S, s.W.cell? ⟨g, h * 7 + 4, none⟩ = some (.int .i64 y.packet.port) := fun s => (HR.out.below (ho s)).at_ hN1 hy 4 (by decide)
        have v5 : ∀ s : InC S, s.W.cell? ⟨g, h * 7 + 5, none⟩ = some (.int .i64 y.packet.mark) := fun s => (HR.out.below (ho s)).at_ hN1 hy 5 (by decide)
        have v6 : ∀ s : InC S, s.W.cell? ⟨g, h * 7 + 6, none⟩ = some (.int .i64 y.packet.size) := fun s => (HR.out.below (ho s)).at_ hN1 hy 6 (by decide)
        repeat (go_big_quiet_step ((go_at_call 63; exact grow_call hkS (cmpT_any x y _) rfl)))
        refine wpQuiet_nil ?_
        rintro _ ⟨s, rfl⟩
        have R3 := HR.out.below (ho s)
        clear u0 u1 u2 u3 u4 u5 u6 v0 v1 v2 v3 v4 v5 v6 ho hkS hne
        generalize s.W = w2 at *
        clear s S
        have R4 := Lib.hid R3
        clear R3 hx hy
        go_wp2_with fail
        go_roundw
        case rel =>
          have hr2 : BinRel w0 base g N c d (fun c => tkey d[c]! ≤ tkey d[m]!) a m (.int .i64 (i : Int)) (.int .i64 (h : Int)) w2 := ⟨i, h, rfl, rfl, R4.out, HB2.out⟩
          first | exact hr2 | ((repeat apply Exists.intro); exact ⟨hr2, rfl⟩)
        case measure => simp [intOf]; omega
      · have hc : ¬ cmpZ x.tick y.tick < 0 := by have := cmpZ_lt (a := x.tick) (b := y.tick); simpa [hxy] using this
        have hc2 : 0 ≤ cmpZ x.tick y.tick := by omega
        have hn : (!decide (cmpZ x.tick y.tick < 0)) = true := by simp; omega
        have HB2 := Lib.hid (HB.out.up HA.out h1 h2 (show tkey d[h]! ≤ tkey d[m]! by rw [hx, hy]; exact Int.not_lt.1 hxy))
        go_wp2_with fail
        refine wp_region_grow (by kernel_rfl) (by kernel_rfl) ?_
        intro S hne hkS ho
        have u0 : ∀ s : InC S, s.W.cell? ⟨g, m * 7, none⟩ = some (.int .i64 x.tick) := fun s => (HR.out.below (ho s)).at_ hmN hx 0 (by decide)
        have u1 : ∀ s : InC S, s.W.cell? ⟨g, m * 7 + 1, none⟩ = some (.int .i64 x.packet.id) := fun s => (HR.out.below (ho s)).at_ hmN hx 1 (by decide)
        have u2 : ∀ s : InC S, s.W.cell? ⟨g, m * 7 + 2, none⟩ = some (.int .i64 x.packet.source) := fun s => (HR.out.below (ho s)).at_ hmN hx 2 (by decide)
        have u3 : ∀ s : InC S, s.W.cell? ⟨g, m * 7 + 3, none⟩ = some (.int .i64 x.packet.dest) := fun s => (HR.out.below (ho s)).at_ hmN hx 3 (by decide)
        have u4 : ∀ s : InC S, s.W.cell? ⟨g, m * 7 + 4, none⟩ = some (.int .i64 x.packet.port) := fun s => (HR.out.below (ho s)).at_ hmN hx 4 (by decide)
        have u5 : ∀ s : InC S, s.W.cell? ⟨g, m * 7 + 5, none⟩ = some (.int .i64 x.packet.mark) := fun s => (HR.out.below (ho s)).at_ hmN hx 5 (by decide)
        have u6 : ∀ s : InC S, s.W.cell? ⟨g, m * 7 + 6, none⟩ = some (.int .i64 x.packet.size) := fun s => (HR.out.below (ho s)).at_ hmN hx 6 (by decide)
        have v0 : ∀ s : InC S, s.W.cell? ⟨g, h * 7, none⟩ = some (.int .i64 y.tick) := fun s => (HR.out.below (ho s)).at_ hN1 hy 0 (by decide)
        have v1 : ∀ s : InC S, s.W.cell? ⟨g, h * 7 + 1, none⟩ = some (.int .i64 y.packet.id) := fun s => (HR.out.below (ho s)).at_ hN1 hy 1 (by decide)
        have v2 : ∀ s : InC S, s.W.cell? ⟨g, h * 7 + 2, none⟩ = some (.int .i64 y.packet.source) := fun s => (HR.out.below (ho s)).at_ hN1 hy 2 (by decide)
        have v3 : ∀ s : InC S, s.W.cell? ⟨g, h * 7 + 3, none⟩ = some (.int .i64 y.packet.dest) := fun s => (HR.out.below (ho s)).at_ hN1 hy 3 (by decide)
        have v4 : ∀ s : InC S, s.W.cell? ⟨g, h * 7 + 4, none⟩ = some (.int .i64 y.packet.port) := fun s => (HR.out.below (ho s)).at_ hN1 hy 4 (by decide)
        have v5 : ∀ s : InC S, s.W.cell? ⟨g, h * 7 + 5, none⟩ = some (.int .i64 y.packet.mark) := fun s => (HR.out.below (ho s)).at_ hN1 hy 5 (by decide)
        have v6 : ∀ s : InC S, s.W.cell? ⟨g, h * 7 + 6, none⟩ = some (.int .i64 y.packet.size) := fun s => (HR.out.below (ho s)).at_ hN1 hy 6 (by decide)
        repeat (go_big_quiet_step ((go_at_call 63; exact grow_call hkS (cmpT_any x y _) rfl)))
        refine wpQuiet_nil ?_
        rintro _ ⟨s, rfl⟩
        have R3 := HR.out.below (ho s)
        clear u0 u1 u2 u3 u4 u5 u6 v0 v1 v2 v3 v4 v5 v6 ho hkS hne
        generalize s.W = w2 at *
        clear s S
        have R4 := Lib.hid R3
        clear R3 hx hy
        go_wp2_with fail
        go_roundw
        case rel =>
          have hr2 : BinRel w0 base g N c d (fun c => tkey d[c]! ≤ tkey d[m]!) a m (.int .i64 ((h : Int) + 1)) (.int .i64 (j : Int)) w2 := ⟨h + 1, j, by simp, rfl, R4.out, HB2.out⟩
          first | exact hr2 | ((repeat apply Exists.intro); exact ⟨hr2, rfl⟩)
        case measure => simp [intOf]; omega
    · obtain rfl : i = j := by omega
      obtain ⟨hd, ha, hm, hb, hsz⟩ := HE.out
      obtain ⟨X1, X2, hXX, hi, hoZ, hsZ⟩ := right_split hd ha hm oX HB.out
      have hXl : X.length = X1.length + X2.length := by rw [hXX]; simp
      have HF := Lib.hid (And.intro hXX (And.intro hoZ hsZ))
      have HX1 := Lib.hid (And.intro hi (And.intro hXl ha))
      have hmi : m = i + X2.length := by omega
      have hbd : i + X2.length + 1 ≤ N := by omega
      have HM := Lib.hid hmi
      clear hd ha hm hb hsz hXX hi hoZ hsZ hXl HA HB q1 q2 q3 ham
      go_wp2_with fail
      go_loopw [17] (ShR w0 base g N c i P X1 X2 Q y0) (fun k _ => (intOf k).toNat)
      case atStart => exact ⟨X2.length, d, Nat.le_refl _, by rw [HM.out], HR.out, by rw [HE.out.1, HF.out.1]; simp⟩
      case round =>
        clear HR hmi
        obtain ⟨t, dk, ht, rfl, hR, hdk⟩ := hrel
        obtain ⟨k, hk⟩ : ∃ k, k = i + t := ⟨_, rfl⟩
        rw [← hk]
        by_cases hlt2 : 0 < t
        · obtain ⟨q, hq⟩ : ∃ q, q + 1 = k := ⟨k - 1, by omega⟩
          obtain ⟨u, hu⟩ : ∃ u, u + 1 = t := ⟨t - 1, by omega⟩
          have hu2 : u < X2.length := by omega
          obtain ⟨x0, hx0⟩ : ∃ v, X2[u] = v := ⟨_, rfl⟩
          have eX : X2.drop u = X2[u] :: X2.drop (u + 1) := List.drop_eq_getElem_cons hu2
          have tX : X2.take (u + 1) = X2.take u ++ [X2[u]] := by rw [List.take_add_one, List.getElem?_eq_getElem hu2]; rfl
          rw [hx0] at eX tX
          have hd2 : dk.toList = ((P ++ X1) ++ X2.take u) ++ x0 :: ([] ++ y0 :: (X2.drop (u + 1) ++ Q)) := by rw [hdk, ← hu, tX]; simp
          have hl2 : ((P ++ X1) ++ X2.take u).length = q := by
            have := HX1.out
            rw [List.length_append, List.length_append, List.length_take]; omega
          have hsw := swp_list' hd2
          have hx := at_list (d := dk) (A := (P ++ X1) ++ X2.take u) (x := x0) (B := y0 :: (X2.drop (u + 1) ++ Q)) (by rw [hd2]; simp)
          have hy := at_list (d := dk) (A := ((P ++ X1) ++ X2.take u) ++ [x0]) (x := y0) (B := X2.drop (u + 1) ++ Q) (by rw [hd2]; simp)
          rw [show (((P ++ X1) ++ X2.take u) ++ [x0]).length = k by rw [List.length_append, hl2, ← hq]; rfl] at hy
          rw [hl2] at hx hsw
          rw [show q + 1 + ([] : List Timed).length = k by rw [← hq]; rfl] at hsw
          have hd3 : (swp dk k q).toList = (P ++ X1) ++ (X2.take u ++ y0 :: (X2.drop u ++ Q)) := by rw [hsw, eX]; simp
          have HD3 := Lib.hid hd3
          have hkN : k < N := by omega
          have hqN : q < N := by omega
          have hkq : k ≠ q := by omega
          have k2 : (k : Int) < (N : Int) := by omega
          have q2 : (q : Int) < (N : Int) := by omega
          have kz : (i : Int) < (k : Int) := by omega
          have kz2 : i < k := by omega
          have wq : IntKind.i64.wrap ((k : Int) - 1) = (q : Int) := by rw [IntKind.wrap_i64]; omega
          have R2 := Lib.hid (hR.swap hkN hqN hy hx).drew
          have cp := hR.seven hkN hy
          have cq := hR.seven hqN hx
          have fp := hR.froz k
          have fq := hR.froz q
          obtain ⟨n0, n1, n2, n3, n4, n5, n6, n7, n8, n9, n10, n11, n12, n13, n14, n15, n16, n17, n18, n19, n20, n21, n22, n23, n24, n25⟩ := apart7 (p := k) (q := q) (by omega)
          have HK := Lib.hid (And.intro hk (And.intro hq hu))
          clear hx hy hd2 hl2 hsw hd3 hdk hR eX tX hx0 hk hq hu
          go_wp2_with fail
          go_region
          go_wp2_with fail
          go_roundw
          case rel =>
            have hr2 : ShR w0 base g N c i P X1 X2 Q y0 (.int .i64 (q : Int)) (put7 (put7 wr g (k * 7) x0) g (q * 7) y0).drew := ⟨u, _, by omega, by have := HK.out; congr 1; omega, R2.out, HD3.out⟩
            first | exact hr2 | ((repeat apply Exists.intro); exact ⟨hr2, rfl⟩)
          case measure => have := HK.out; simp [intOf]; omega
        · obtain rfl : t = 0 := by omega
          obtain rfl : k = i := by omega
          have HR := Lib.hid hR
          have HDK := Lib.hid hdk
          clear hR hdk hk
          go_wp2_with fail
          go_end0
          refine ⟨rfl, dk, HR.out, X1 ++ y0 :: X2, ?_, HF.out.2.1, HF.out.2.2⟩
          rw [HDK.out]
          simp
end Go.Proofs.Ytnnihiajggdplaa
