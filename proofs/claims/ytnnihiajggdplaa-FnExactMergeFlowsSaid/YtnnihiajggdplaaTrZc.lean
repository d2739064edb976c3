/- Sorting timed packets in place: symMerge where the first run is of one element. No condition. -/
import Derived.Test.YtnnihiajggdplaaTrZb
namespace Go.Proofs.Ytnnihiajggdplaa
open Go.RowKit Go.Sort

def SymPost (w0 : World) (base g N c : Nat) (P X Y Q : List Timed) (e : Ending) (w' : World) : Prop := e = .returned (.tuple #[]) ∧ ∃ d', RowW w0 base g N c d' w' ∧ ∃ Z, d'.toList = P ++ (Z ++ Q) ∧ Ord tkey Z ∧ Stab tkey Z (X ++ Y)
def BinRel (w0 : World) (base g N c : Nat) (d : Array Timed) (p : Nat → Prop) (lo hi : Nat) (i j : Value) (wr : World) : Prop := ∃ s r : Nat, i = .int .i64 s ∧ j = .int .i64 r ∧ RowW w0 base g N c d wr ∧ Bin p lo hi s r
def ShL (w0 : World) (base g N c a : Nat) (P Y1 Y2 Q : List Timed) (x : Timed) (k : Value) (wr : World) : Prop := ∃ t : Nat, ∃ d : Array Timed, t ≤ Y1.length ∧ k = .int .i64 ((a + t : Nat) : Int) ∧ RowW w0 base g N c d wr ∧ d.toList = (P ++ Y1.take t) ++ x :: (Y1.drop t ++ (Y2 ++ Q))
theorem half_in {i j : Nat} (h : i < j) : i ≤ (i + j) / 2 ∧ (i + j) / 2 < j := by omega

set_option maxRecDepth 100000 in
set_option maxHeartbeats 4000000 in
theorem symLeft_any (w0 : World) (base g N c : Nat) (d : Array Timed) (W : World) (P Y Q : List Timed) (x0 : Timed) (a m b : Nat) (hR : RowW w0 base g N c d W) (hd : d.toList = P ++ ([x0] ++ (Y ++ Q))) (ha : P.length = a) (hm : a + 1 = m) (hb : m + Y.length = b) (oY : Ord tkey Y) (hN : N ≤ 1048576) :
    Calls Try.prog 84 #[.slice (some ⟨g, 0, none⟩) N c, .int .i64 a, .int .i64 m, .int .i64 b, .func (.func 63) #[] #[]] W (SymPost w0 base g N c P [x0] Y Q) := by
  have hsz : P.length + 1 + Y.length + Q.length = N := by rw [← hR.len, ← Array.length_toList, hd]; simp; omega
  have hA : Anti (fun c => tkey d[c]! < tkey d[a]!) m b := by rw [← hm]; exact left_anti (key := tkey) hd ha (by omega) oY
  have HA := Lib.hid hA
  clear hA
  have HR := Lib.hid hR
  have hbN : b ≤ N := by omega
  have haN : a < N := by omega
  have hmb : m ≤ b := by omega
  have e1 : IntKind.i64.wrap ((m : Int) - (a : Int)) = 1 := by rw [IntKind.wrap_i64]; omega
  have HE := Lib.hid (And.intro hd (And.intro ha (And.intro hm (And.intro hb hsz))))
  clear hR hd ha hm hb hsz
  go_enter Try.func84, Try.ntmps84
  go_wp2_with fail
  go_loopw [10, 11] (BinRel w0 base g N c d (fun c => tkey d[c]! < tkey d[a]!) m b) (fun i j _ => (intOf j).toNat - (intOf i).toNat)
  case atStart => exact ⟨m, b, rfl, rfl, HR.out, Bin.start hmb⟩
  case round =>
    clear HR e1
    obtain ⟨i, j, rfl, rfl, hR, hB⟩ := hrel
    have HR := Lib.hid hR
    have q1 := hB.h1
    have q2 := hB.h2
    have q3 := hB.h3
    have HB := Lib.hid hB
    clear hR hB
    by_cases hlt : i < j
    · obtain ⟨h1, h2⟩ := half_in hlt
      obtain ⟨h, hh⟩ : ∃ h, h = (i + j) / 2 := ⟨_, rfl⟩
      rw [← hh] at h1 h2
      have hz : ((i : Int) + (j : Int)) / 2 = (h : Int) := by omega
      obtain ⟨x, hx⟩ : ∃ u, d[h]! = u := ⟨_, rfl⟩
      obtain ⟨y, hy⟩ : ∃ u, d[a]! = u := ⟨_, rfl⟩
      have ijz : (i : Int) < (j : Int) := by omega
      have hN1 : h < N := by omega
      have h3 : (h : Int) < (N : Int) := by omega
      have a3 : (a : Int) < (N : Int) := by omega
      have HH := Lib.hid hh
      clear hh
      by_cases hxy : x.tick < y.tick
      · have hc : cmpZ x.tick y.tick < 0 := by have := cmpZ_lt (a := x.tick) (b := y.tick); simpa [hxy] using this
        have hB2 := HB.out.up HA.out h1 h2 (show tkey d[h]! < tkey d[a]! by rw [hx, hy]; exact hxy)
        have HB2 := Lib.hid hB2
        clear hB2
        go_wp2_with fail
        refine wp_region_grow (by kernel_rfl) (by kernel_rfl) ?_
        intro S hne hkS ho
        have u0 : ∀ s : InC S, s.W.cell? ⟨g, h * 7, none⟩ = some (.int .i64 x.tick) := fun s => (HR.out.below (ho s)).at_ hN1 hx 0 (by decide)
        have u1 : ∀ s : InC S, s.W.cell? ⟨g, h * 7 + 1, none⟩ = some (.int .i64 x.packet.id) := fun s => (HR.out.below (ho s)).at_ hN1 hx 1 (by decide)
        have u2 : ∀ s : InC S, s.W.cell? ⟨g, h * 7 + 2, none⟩ = some (.int .i64 x.packet.source) := fun s => (HR.out.below (ho s)).at_ hN1 hx 2 (by decide)
        have u3 : ∀ s : InC S, s.W.cell? ⟨g, h * 7 + 3, none⟩ = some (.int .i64 x.packet.dest) := fun s => (HR.out.below (ho s)).at_ hN1 hx 3 (by decide)
        have u4 : ∀ s : InC S, s.W.cell? ⟨g, h * 7 + 4, none⟩ = some (.int .i64 x.packet.port) := fun s => (HR.out.below (ho s)).at_ hN1 hx 4 (by decide)
        have u5 : ∀ s : InC S, s.W.cell? ⟨g, h * 7 + 5, none⟩ = some (.int .i64 x.packet.mark) := fun s => (HR.out.below (ho s)).at_ hN1 hx 5 (by decide)
        have u6 : ∀ s : InC S, s.W.cell? ⟨g, h * 7 + 6, none⟩ = some (.int .i64 x.packet.size) := fun s => (HR.out.below (ho s)).at_ hN1 hx 6 (by decide)
        have v0 : ∀ s : InC S, s.W.cell? ⟨g, a * 7, none⟩ = some (.int .i64 y.tick) := fun s => (HR.out.below (ho s)).at_ haN hy 0 (by decide)
        have v1 : ∀ s : InC S, s.W.cell? ⟨g, a * 7 + 1, none⟩ = some (.int .i64 y.packet.id) := fun s => (HR.out.below (ho s)).at_ haN hy 1 (by decide)
        have v2 : ∀ s : InC S, s.W.cell? ⟨g, a * 7 + 2, none⟩ = some (.int .i64 y.packet.source) := fun s => (HR.out.below (ho s)).at_ haN hy 2 (by decide)
        have v3 : ∀ s : InC S, s.W.cell? ⟨g, a * 7 + 3, none⟩ = some (.int .i64 y.packet.dest) := fun s => (HR.out.below (ho s)).at_ haN hy 3 (by decide)
        have v4 : ∀ s : InC S, s.W.cell? ⟨g, a * 7 + 4, none⟩ = some (.int .i64 y.packet.port) := fun s => (HR.out.below (ho s)).at_ haN hy 4 (by decide)
        have v5 : ∀ s : InC S, s.W.cell? ⟨g, a * 7 + 5, none⟩ = some (.int .i64 y.packet.mark) := fun s => (HR.out.below (ho s)).at_ haN hy 5 (by decide)
        have v6 : ∀ s : InC S, s.W.cell? ⟨g, a * 7 + 6, none⟩ = some (.int .i64 y.packet.size) := fun s => (HR.out.below (ho s)).at_ haN hy 6 (by decide)
        repeat (go_big_quiet_step ((go_at_call 63; exact grow_call hkS (cmpT_any x y _) rfl)))
        refine wpQuiet_nil ?_
        rintro _ ⟨s, rfl⟩
        have R3 := HR.out.below (ho s)
        clear u0 u1 u2 u3 u4 u5 u6 v0 v1 v2 v3 v4 v5 v6 ho hkS hne
        generalize s.W = w2 at *
        clear s S
        have R4 := Lib.hid R3
        clear R3 hx hy
        go_wp2_with fail
        go_roundw
        case rel =>
          have hr2 : BinRel w0 base g N c d (fun c => tkey d[c]! < tkey d[a]!) m b (.int .i64 ((h : Int) + 1)) (.int .i64 (j : Int)) w2 := ⟨h + 1, j, by simp, rfl, R4.out, HB2.out⟩
          first | exact hr2 | ((repeat apply Exists.intro); exact ⟨hr2, rfl⟩)
        case measure => simp [intOf]; omega
      · have hc : ¬ cmpZ x.tick y.tick < 0 := by have := cmpZ_lt (a := x.tick) (b := y.tick); simpa [hxy] using this
        have hB2 := HB.out.down HA.out h1 h2 (show ¬ tkey d[h]! < tkey d[a]! by rw [hx, hy]; exact hxy)
        have HB2 := Lib.hid hB2
        clear hB2
        go_wp2_with fail
        refine wp_region_grow (by kernel_rfl) (by kernel_rfl) ?_
        intro S hne hkS ho
        have u0 : ∀ s : InC S, s.W.cell? ⟨g, h * 7, none⟩ = some (.int .i64 x.tick) := fun s => (HR.out.below (ho s)).at_ hN1 hx 0 (by decide)
        have u1 : ∀ s : InC S, s.W.cell? ⟨g, h * 7 + 1, none⟩ = some (.int .i64 x.packet.id) := fun s => (HR.out.below (ho s)).at_ hN1 hx 1 (by decide)
        have u2 : ∀ s : InC S, s.W.cell? ⟨g, h * 7 + 2, none⟩ = some (.int .i64 x.packet.source) := fun s => (HR.out.below (ho s)).at_ hN1 hx 2 (by decide)
        have u3 : ∀ s : InC S, s.W.cell? ⟨g, h * 7 + 3, none⟩ = some (.int .i64 x.packet.dest) := fun s => (HR.out.below (ho s)).at_ hN1 hx 3 (by decide)
        have u4 : ∀ s : InC S, s.W.cell? ⟨g, h * 7 + 4, none⟩ = some (.int .i64 x.packet.port) := fun s => (HR.out.below (ho s)).at_ hN1 hx 4 (by decide)
        have u5 : ∀ s : InC S, s.W.cell? ⟨g, h * 7 + 5, none⟩ = some (.int .i64 x.packet.mark) := fun s => (HR.out.below (ho s)).at_ hN1 hx 5 (by decide)
        have u6 : ∀ s : InC S, s.W.cell? ⟨g, h * 7 + 6, none⟩ = some (.int .i64 x.packet.size) := fun s => (HR.out.below (ho s)).at_ hN1 hx 6 (by decide)
        have v0 : ∀ s : InC S, s.W.cell? ⟨g, a * 7, none⟩ = some (.int .i64 y.tick) := fun s => (HR.out.below (ho s)).at_ haN hy 0 (by decide)
        have v1 : ∀ s : InC S, s.W.cell? ⟨g, a * 7 + 1, none⟩ = some (.int .i64 y.packet.id) := fun s => (HR.out.below (ho s)).at_ haN hy 1 (by decide)
        have v2 : ∀ s : InC S, s.W.cell? ⟨g, a * 7 + 2, none⟩ = some (.int .i64 y.packet.source) := fun s => (HR.out.below (ho s)).at_ haN hy 2 (by decide)
        have v3 : ∀ s : InC S, s.W.cell? ⟨g, a * 7 + 3, none⟩ = some (.int .i64 y.packet.dest) := fun s => (HR.out.below (ho s)).at_ haN hy 3 (by decide)
        have v4 : ∀ s : InC S, s.W.cell? ⟨g, a * 7 + 4, none⟩ = some (.int .i64 y.packet.port) := fun s => (HR.out.below (ho s)).at_ haN hy 4 (by decide)
        have v5 : ∀ s : InC S, s.W.cell? ⟨g, a * 7 + 5, none⟩ = some (.int .i64 y.packet.mark) := fun s => (HR.out.below (ho s)).at_ haN hy 5 (by decide)
        have v6 : ∀ s : InC S, s.W.cell? ⟨g, a * 7 + 6, none⟩ = some (.int .i64 y.packet.size) := fun s => (HR.out.below (ho s)).at_ haN hy 6 (by decide)
        repeat (go_big_quiet_step ((go_at_call 63; exact grow_call hkS (cmpT_any x y _) rfl)))
        refine wpQuiet_nil ?_
        rintro _ ⟨s, rfl⟩
        have R3 := HR.out.below (ho s)
        clear u0 u1 u2 u3 u4 u5 u6 v0 v1 v2 v3 v4 v5 v6 ho hkS hne
        generalize s.W = w2 at *
        clear s S
        have R4 := Lib.hid R3
        clear R3 hx hy
        go_wp2_with fail
        go_roundw
        case rel =>
          have hr2 : BinRel w0 base g N c d (fun c => tkey d[c]! < tkey d[a]!) m b (.int .i64 (i : Int)) (.int .i64 (h : Int)) w2 := ⟨i, h, rfl, rfl, R4.out, HB2.out⟩
          first | exact hr2 | ((repeat apply Exists.intro); exact ⟨hr2, rfl⟩)
        case measure => simp [intOf]; omega
    · obtain rfl : i = j := by omega
      obtain ⟨hd, ha, hm, hb, hsz⟩ := HE.out
      have hB := HB.out
      rw [← hm] at hB
      obtain ⟨Y1, Y2, hY, hi, hoZ, hsZ⟩ := left_split hd ha (show a + 1 + Y.length = b by omega) oY hB
      have hii : IntKind.i64.wrap ((i : Int) - 1) = ((a + Y1.length : Nat) : Int) := by rw [IntKind.wrap_i64]; omega
      have hii2 : IntKind.i64.wrap ((i : Int) - 1) = (a : Int) + (Y1.length : Int) := by rw [IntKind.wrap_i64]; omega
      have hYl : Y.length = Y1.length + Y2.length := by rw [hY]; simp
      have HF := Lib.hid (And.intro hY (And.intro hoZ hsZ))
      have HY1 := Lib.hid (And.intro hi hYl)
      have hbd : a + Y1.length + 1 ≤ N := by omega
      have HN1 := Lib.hid (show P.length + Y1.length + Y2.length + 1 + Q.length = N by omega)
      clear hd ha hm hb hsz hB hY hi hoZ hsZ hYl HA HB q1 q2 q3 hmb
      go_wp2_with fail
      go_loopw [13] (ShL w0 base g N c a P Y1 Y2 Q x0) (fun k _ => a + Y1.length - (intOf k).toNat)
      case atStart => exact ⟨0, d, Nat.zero_le _, by simp, HR.out, by rw [HE.out.1, HF.out.1]; simp⟩
      case round =>
        clear HR
        obtain ⟨t, dk, ht, rfl, hR, hdk⟩ := hrel
        obtain ⟨k, hk⟩ : ∃ k, k = a + t := ⟨_, rfl⟩
        rw [← hk]
        by_cases hlt2 : t < Y1.length
        · obtain ⟨q, hq⟩ : ∃ q, q = k + 1 := ⟨_, rfl⟩
          obtain ⟨y0, hy0⟩ : ∃ u, Y1[t] = u := ⟨_, rfl⟩
          have eY : Y1.drop t = Y1[t] :: Y1.drop (t + 1) := List.drop_eq_getElem_cons hlt2
          have tY : Y1.take (t + 1) = Y1.take t ++ [Y1[t]] := by rw [List.take_add_one, List.getElem?_eq_getElem hlt2]; rfl
          rw [hy0] at eY tY
          have hd2 : dk.toList = (P ++ Y1.take t) ++ x0 :: ([] ++ y0 :: (Y1.drop (t + 1) ++ (Y2 ++ Q))) := by rw [hdk, eY]; simp
          have hl2 : (P ++ Y1.take t).length = k := by rw [List.length_append, HE.out.2.1, List.length_take]; omega
          have hsw := swp_list hd2
          have hx := at_list (d := dk) (A := P ++ Y1.take t) (x := x0) hdk
          have hy := at_list (d := dk) (A := (P ++ Y1.take t) ++ [x0]) (x := y0) (B := Y1.drop (t + 1) ++ (Y2 ++ Q)) (by rw [hd2]; simp)
          rw [show ((P ++ Y1.take t) ++ [x0]).length = q by rw [List.length_append, hl2, hq]; rfl] at hy
          rw [hl2] at hx hsw
          rw [show k + 1 + ([] : List Timed).length = q by rw [hq]; rfl] at hsw
          have hd3 : (swp dk k q).toList = (P ++ Y1.take (t + 1)) ++ x0 :: (Y1.drop (t + 1) ++ (Y2 ++ Q)) := by rw [hsw, tY]; simp
          have HD3 := Lib.hid hd3
          have hkN : k < N := by omega
          have hqN : q < N := by omega
          have hkq : k ≠ q := by omega
          have k2 : (k : Int) < (N : Int) := by omega
          have q2 : (q : Int) < (N : Int) := by omega
          have kz : (k : Int) < (a : Int) + (Y1.length : Int) := by omega
          have wq : IntKind.i64.wrap ((k : Int) + 1) = (q : Int) := by rw [IntKind.wrap_i64]; omega
          have wq2 : (k : Int) + 1 = (q : Int) := by omega
          have R2 := Lib.hid (hR.swap hkN hqN hx hy).drew
          have cp := hR.seven hkN hx
          have cq := hR.seven hqN hy
          have fp := hR.froz k
          have fq := hR.froz q
          obtain ⟨n0, n1, n2, n3, n4, n5, n6, n7, n8, n9, n10, n11, n12, n13, n14, n15, n16, n17, n18, n19, n20, n21, n22, n23, n24, n25⟩ := apart7 (p := k) (q := q) (by omega)
          have HK := Lib.hid (And.intro hk hq)
          clear hx hy hd2 hl2 hsw hd3 hdk hR eY tY hy0 hk hq
          go_wp2_with fail
          go_region
          go_wp2_with fail
          go_roundw
          case rel =>
            have hr2 : ShL w0 base g N c a P Y1 Y2 Q x0 (.int .i64 (q : Int)) (put7 (put7 wr g (k * 7) y0) g (q * 7) x0).drew := ⟨t + 1, _, by omega, by have := HK.out; congr 1; omega, R2.out, HD3.out⟩
            first | exact hr2 | ((repeat apply Exists.intro); exact ⟨hr2, rfl⟩)
          case measure => have := HK.out; simp [intOf]; omega
        · obtain rfl : t = Y1.length := by omega
          have kz : ¬ (k : Int) < (a : Int) + (Y1.length : Int) := by omega
          have HR := Lib.hid hR
          have HDK := Lib.hid hdk
          clear hR hdk hk
          go_wp2_with fail
          go_end0
          refine ⟨rfl, dk, HR.out, Y1 ++ x0 :: Y2, ?_, HF.out.2.1, HF.out.2.2⟩
          rw [HDK.out, List.take_of_length_le (Nat.le_refl _), List.drop_eq_nil_of_le (Nat.le_refl _)]
          simp
end Go.Proofs.Ytnnihiajggdplaa
