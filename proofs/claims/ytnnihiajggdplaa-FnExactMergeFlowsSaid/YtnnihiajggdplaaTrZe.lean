/- Sorting timed packets in place: symMerge. No condition. -/
import Derived.Test.YtnnihiajggdplaaTrZd
import Derived.Deep.DeepCutAuto
namespace Go.Proofs.Ytnnihiajggdplaa
open Go.RowKit Go.Sort

set_option maxRecDepth 100000 in
set_option maxHeartbeats 8000000 in
theorem symBig_any (w0 : World) (base g N c : Nat) (d : Array Timed) (W : World) (P X Y Q : List Timed) (a m b : Nat) (hR : RowW w0 base g N c d W) (hd : d.toList = P ++ (X ++ (Y ++ Q))) (ha : P.length = a) (hm : a + X.length = m) (hb : m + Y.length = b) (hX : 1 < X.length) (hY : 1 < Y.length) (oX : Ord tkey X) (oY : Ord tkey Y) (hN : N ≤ 1048576)
    (hIH : ∀ (d : Array Timed) (W : World) (P X Y Q : List Timed) (a' m b' : Nat), RowW w0 base g N c d W → d.toList = P ++ (X ++ (Y ++ Q)) → P.length = a' → a' + X.length = m → m + Y.length = b' → 0 < X.length → 0 < Y.length → Ord tkey X → Ord tkey Y → b' - a' < b - a → Calls Try.prog 84 #[.slice (some ⟨g, 0, none⟩) N c, .int .i64 a', .int .i64 m, .int .i64 b', .func (.func 63) #[] #[]] W (SymPost w0 base g N c P X Y Q)) :
    Calls Try.prog 84 #[.slice (some ⟨g, 0, none⟩) N c, .int .i64 a, .int .i64 m, .int .i64 b, .func (.func 63) #[] #[]] W (SymPost w0 base g N c P X Y Q) := by
  have hsz : P.length + X.length + Y.length + Q.length = N := by rw [← hR.len, ← Array.length_toList, hd]; simp; omega
  have HR := Lib.hid hR
  obtain ⟨mid, hmid⟩ : ∃ mid, mid = (a + b) / 2 := ⟨_, rfl⟩
  obtain ⟨nn, hnn⟩ : ∃ nn, nn = mid + m := ⟨_, rfl⟩
  obtain ⟨p, hp⟩ : ∃ p, p + 1 = nn := ⟨nn - 1, by omega⟩
  have e0 : IntKind.i64.wrap ((m : Int) - (a : Int)) = (X.length : Int) := by rw [IntKind.wrap_i64]; omega
  have e1 : IntKind.i64.wrap ((b : Int) - (m : Int)) = (Y.length : Int) := by rw [IntKind.wrap_i64]; omega
  have e4 : ((X.length : Int) == 1) = false := by simp; omega
  have e5 : ((Y.length : Int) == 1) = false := by simp; omega
  have e6 : ((a : Int) + (b : Int)) / 2 = (mid : Int) := by omega
  have e7 : IntKind.i64.wrap ((mid : Int) + (m : Int)) = (nn : Int) := by rw [IntKind.wrap_i64]; omega
  have e7b : (mid : Int) + (m : Int) = (nn : Int) := by omega
  have e8 : IntKind.i64.wrap ((nn : Int) - 1) = (p : Int) := by rw [IntKind.wrap_i64]; omega
  have hbN : b ≤ N := by omega
  have ham : a < m := by omega
  have hmb : m < b := by omega
  have hx1 : ¬ (X.length : Int) = 1 := by omega
  have hy1 : ¬ (Y.length : Int) = 1 := by omega
  have hx2 : ¬ X.length = 1 := by omega
  have hy2 : ¬ Y.length = 1 := by omega
  have HE := Lib.hid (And.intro hd (And.intro ha (And.intro hm (And.intro hb hsz))))
  have HM := Lib.hid (And.intro hmid (And.intro hnn hp))
  clear hR hd ha hm hb hsz hX hY hmid hnn hp
  go_enter Try.func84, Try.ntmps84
  go_upto_if 140 with fail
  go_cut [20, 21] (fun s20 s21 wx => ∃ s0 r0 : Nat, s20 = .int .i64 s0 ∧ s21 = .int .i64 r0 ∧ Sym a m b s0 r0 p ∧ wx = W)
  case first => as_aux_lemma =>
    have hM := HM.out
    by_cases hmm : mid < m
    · have hmz : (mid : Int) < (m : Int) := by omega
      obtain ⟨s0, hs0⟩ : ∃ s0, s0 = mid + m - b := ⟨_, rfl⟩
      have w1 : IntKind.i64.wrap ((nn : Int) - (b : Int)) = (s0 : Int) := by rw [IntKind.wrap_i64]; omega
      have hSy := Lib.hid (show Sym a m b s0 mid p by rw [hs0, show p = mid + m - 1 by omega]; exact Sym.hi ham hmb (by omega) (by omega) hmm)
      clear hM hs0
      go_wp2_with fail
      go_meet
      exact ⟨s0, mid, rfl, rfl, hSy.out, rfl⟩
    · have hmz : ¬ (mid : Int) < (m : Int) := by omega
      have hSy := Lib.hid (show Sym a m b a m p by rw [show p = mid + m - 1 by omega]; exact Sym.lo ham hmb (by omega) (by omega) (by omega))
      clear hM
      go_wp2_with fail
      go_meet
      exact ⟨a, m, rfl, rfl, hSy.out, rfl⟩
  case rest =>
  obtain ⟨s0, r0, rfl, rfl, hS, rfl⟩ := hcut
  obtain ⟨hd, ha, hm, hb, hsz⟩ := HE.out
  have HA := Lib.hid (hS.anti hd ha hm hb oX oY)
  have sr := hS.h2
  have HS := Lib.hid hS
  have srm := hS.h3
  have sp4 := hS.h4
  have sp5 := hS.h5
  clear hd ha hm hb hsz hS
  go_wp2_with fail
  go_loopw [20, 21] (BinRel w0 base g N c d (fun c => tkey d[c]! ≤ tkey d[p - c]!) s0 r0) (fun i j _ => (intOf j).toNat - (intOf i).toNat)
  case atStart => exact ⟨s0, r0, rfl, rfl, HR.out, Bin.start sr⟩
  case round =>
    clear HR e0 e1 e4 e5 e6 e7 e8 hx1 hy1 hx2 hy2 e7b
    obtain ⟨i, j, rfl, rfl, hR, hB⟩ := hrel
    have HR := Lib.hid hR
    have q1 := hB.h1
    have q2 := hB.h2
    have q3 := hB.h3
    have HB := Lib.hid hB
    clear hR hB
    by_cases hlt : i < j
    · obtain ⟨h1, h2⟩ := half_in hlt
      obtain ⟨h, hh⟩ : ∃ h, h = (i + j) / 2 := ⟨_, rfl⟩
      rw [← hh] at h1 h2
      have hz : ((i : Int) + (j : Int)) / 2 = (h : Int) := by omega
      obtain ⟨q, hq⟩ : ∃ q, q = p - h := ⟨_, rfl⟩
      have wq : IntKind.i64.wrap ((p : Int) - (h : Int)) = (q : Int) := by rw [IntKind.wrap_i64]; omega
      obtain ⟨x, hx⟩ : ∃ u, d[q]! = u := ⟨_, rfl⟩
      obtain ⟨y, hy⟩ : ∃ u, d[h]! = u := ⟨_, rfl⟩
      have ijz : (i : Int) < (j : Int) := by omega
      have hN1 : h < N := by omega
      have hqN : q < N := by omega
      have h3 : (h : Int) < (N : Int) := by omega
      have q4 : (q : Int) < (N : Int) := by omega
      have HH := Lib.hid hh
      have HQ := Lib.hid hq
      have hpx : tkey d[p - h]! = x.tick := by rw [← hq, hx]; rfl
      have hpy : tkey d[h]! = y.tick := by rw [hy]; rfl
      by_cases hxy : x.tick < y.tick
      · have hc : cmpZ x.tick y.tick < 0 := by have := cmpZ_lt (a := x.tick) (b := y.tick); simpa [hxy] using this
        have HB2 := Lib.hid (HB.out.down HA.out h1 h2 (show ¬ tkey d[h]! ≤ tkey d[p - h]! by rw [hpx, hpy]; exact Int.not_le.2 hxy))
        clear hh hq hpx hpy
        go_wp2_with fail
        refine wp_region_grow (by kernel_rfl) (by kernel_rfl) ?_
        intro S hne hkS ho
        have u0 : ∀ s : InC S, s.W.cell? ⟨g, q * 7, none⟩ = some (.int .i64 x.tick) := fun s => (HR.out.below (ho s)).at_ hqN hx 0 (by decide)
        have u1 : ∀ s : InC S, s.W.cell? ⟨g, q * 7 + 1, none⟩ = some (.int .i64 x.packet.id) := fun s => (HR.out.below (ho s)).at_ hqN hx 1 (by decide)
        have u2 : ∀ s : InC S, s.W.cell? ⟨g, q * 7 + 2, none⟩ = some (.int .i64 x.packet.source) := fun s => (HR.out.below (ho s)).at_ hqN hx 2 (by decide)
        have u3 : ∀ s : InC S, s.W.cell? ⟨g, q * 7 + 3, none⟩ = some (.int .i64 x.packet.dest) := fun s => (HR.out.below (ho s)).at_ hqN hx 3 (by decide)
        have u4 : ∀ s : InC S, s.W.cell? ⟨g, q * 7 + 4, none⟩ = some (.int .i64 x.packet.port) := fun s => (HR.out.below (ho s)).at_ hqN hx 4 (by decide)
        have u5 : ∀ s : InC S, s.W.cell? ⟨g, q * 7 + 5, none⟩ = some (.int .i64 x.packet.mark) := fun s => (HR.out.below (ho s)).at_ hqN hx 5 (by decide)
        have u6 : ∀ s : InC S, s.W.cell? ⟨g, q * 7 + 6, none⟩ = some (.int .i64 x.packet.size) := fun s => (HR.out.below (ho s)).at_ hqN hx 6 (by decide)
        have v0 : ∀ s : InC S, s.W.cell? ⟨g, h * 7, none⟩ = some (.int .i64 y.tick) := fun s => (HR.out.below (ho s)).at_ hN1 hy 0 (by decide)
        have v1 : ∀ s : InC S, s.W.cell? ⟨g, h * 7 + 1, none⟩ = some (.int .i64 y.packet.id) := fun s => (HR.out.below (ho s)).at_ hN1 hy 1 (by decide)
        have v2 : ∀ s : InC S, s.W.cell? ⟨g, h * 7 + 2, none⟩ = some (.int .i64 y.packet.source) := fun s => (HR.out.below (ho s)).at_ hN1 hy 2 (by decide)
        have v3 : ∀ s : InC S, s.W.cell? ⟨g, h * 7 + 3, none⟩ = some (.int .i64 y.packet.dest) := fun s => (HR.out.below (ho s)).at_ hN1 hy 3 (by decide)
        have v4 : ∀ s : InC S, s.W.cell? ⟨g, h * 7 + 4, none⟩ = some (.int .i64 y.packet.port) := fun s => (HR.out.below (ho s)).at_ hN1 hy 4 (by decide)
        have v5 : ∀ s : InC S, s.W.cell? ⟨g, h * 7 + 5, none⟩ = some (.int .i64 y.packet.mark) := fun s => (HR.out.below (ho s)).at_ hN1 hy 5 (by decide)
        have v6 : ∀ s : InC S, s.W.cell? ⟨g, h * 7 + 6, none⟩ = some (.int .i64 y.packet.size) := fun s => (HR.out.below (ho s)).at_ hN1 hy 6 (by decide)
        repeat (go_big_quiet_step ((go_at_call 63; exact grow_call hkS (cmpT_any x y _) rfl)))
        refine wpQuiet_nil ?_
        rintro _ ⟨s, rfl⟩
        have R3 := HR.out.below (ho s)
        clear u0 u1 u2 u3 u4 u5 u6 v0 v1 v2 v3 v4 v5 v6 ho hkS hne
        generalize s.W = w2 at *
        clear s S
        have R4 := Lib.hid R3
        clear R3 hx hy
        go_wp2_with fail
        go_roundw
        case rel =>
          have hr2 : BinRel w0 base g N c d (fun c => tkey d[c]! ≤ tkey d[p - c]!) s0 r0 (.int .i64 (i : Int)) (.int .i64 (h : Int)) w2 := ⟨i, h, rfl, rfl, R4.out, HB2.out⟩
          first | exact hr2 | ((repeat apply Exists.intro); exact ⟨hr2, rfl⟩)
        case measure => simp [intOf]; omega
      · have hc : ¬ cmpZ x.tick y.tick < 0 := by have := cmpZ_lt (a := x.tick) (b := y.tick); simpa [hxy] using this
        have hc2 : 0 ≤ cmpZ x.tick y.tick := by omega
        have hn : (!decide (cmpZ x.tick y.tick < 0)) = true := by simp; omega
        have HB2 := Lib.hid (HB.out.up HA.out h1 h2 (show tkey d[h]! ≤ tkey d[p - h]! by rw [hpx, hpy]; exact Int.not_lt.1 hxy))
        clear hh hq hpx hpy
        go_wp2_with fail
        refine wp_region_grow (by kernel_rfl) (by kernel_rfl) ?_
        intro S hne hkS ho
        have u0 : ∀ s : InC S, s.W.cell? ⟨g, q * 7, none⟩ = some (.int .i64 x.tick) := fun s => (HR.out.below (ho s)).at_ hqN hx 0 (by decide)
        have u1 : ∀ s : InC S, s.W.cell? ⟨g, q * 7 + 1, none⟩ = some (.int .i64 x.packet.id) := fun s => (HR.out.below (ho s)).at_ hqN hx 1 (by decide)
        have u2 : ∀ s : InC S, s.W.cell? ⟨g, q * 7 + 2, none⟩ = some (.int .i64 x.packet.source) := fun s => (HR.out.below (ho s)).at_ hqN hx 2 (by decide)
        have u3 : ∀ s : InC S, s.W.cell? ⟨g, q * 7 + 3, none⟩ = some (.int .i64 x.packet.dest) := fun s => (HR.out.below (ho s)).at_ hqN hx 3 (by decide)
        have u4 : ∀ s : InC S, s.W.cell? ⟨g, q * 7 + 4, none⟩ = some (.int .i64 x.packet.port) := fun s => (HR.out.below (ho s)).at_ hqN hx 4 (by decide)
        have u5 : ∀ s : InC S, s.W.cell? ⟨g, q * 7 + 5, none⟩ = some (.int .i64 x.packet.mark) := fun s => (HR.out.below (ho s)).at_ hqN hx 5 (by decide)
        have u6 : ∀ s : InC S, s.W.cell? ⟨g, q * 7 + 6, none⟩ = some (.int .i64 x.packet.size) := fun s => (HR.out.below (ho s)).at_ hqN hx 6 (by decide)
        have v0 : ∀ s : InC S, s.W.cell? ⟨g, h * 7, none⟩ = some (.int .i64 y.tick) := fun s => (HR.out.below (ho s)).at_ hN1 hy 0 (by decide)
        have v1 : ∀ s : InC S, s.W.cell? ⟨g, h * 7 + 1, none⟩ = some (.int .i64 y.packet.id) := fun s => (HR.out.below (ho s)).at_ hN1 hy 1 (by decide)
        have v2 : ∀ s : InC S, s.W.cell? ⟨g, h * 7 + 2, none⟩ = some (.int .i64 y.packet.source) := fun s => (HR.out.below (ho s)).at_ hN1 hy 2 (by decide)
        have v3 : ∀ s : InC S, s.W.cell? ⟨g, h * 7 + 3, none⟩ = some (.int .i64 y.packet.dest) := fun s => (HR.out.below (ho s)).at_ hN1 hy 3 (by decide)
        have v4 : ∀ s : InC S, s.W.cell? ⟨g, h * 7 + 4, none⟩ = some (.int .i64 y.packet.port) := fun s => (HR.out.below (ho s)).at_ hN1 hy 4 (by decide)
        have v5 : ∀ s : InC S, s.W.cell? ⟨g, h * 7 + 5, none⟩ = some (.int .i64 y.packet.mark) := fun s => (HR.out.below (ho s)).at_ hN1 hy 5 (by decide)
        have v6 : ∀ s : InC S, s.W.cell? ⟨g, h * 7 + 6, none⟩ = some (.int .i64 y.packet.size) := fun s => (HR.out.below (ho s)).at_ hN1 hy 6 (by decide)
        repeat (go_big_quiet_step ((go_at_call 63; exact grow_call hkS (cmpT_any x y _) rfl)))
        refine wpQuiet_nil ?_
        rintro _ ⟨s, rfl⟩
        have R3 := HR.out.below (ho s)
        clear u0 u1 u2 u3 u4 u5 u6 v0 v1 v2 v3 v4 v5 v6 ho hkS hne
        generalize s.W = w2 at *
        clear s S
        have R4 := Lib.hid R3
        clear R3 hx hy
        go_wp2_with fail
        go_roundw
        case rel =>
          have hr2 : BinRel w0 base g N c d (fun c => tkey d[c]! ≤ tkey d[p - c]!) s0 r0 (.int .i64 ((h : Int) + 1)) (.int .i64 (j : Int)) w2 := ⟨h + 1, j, by simp, rfl, R4.out, HB2.out⟩
          first | exact hr2 | ((repeat apply Exists.intro); exact ⟨hr2, rfl⟩)
        case measure => simp [intOf]; omega
    · obtain rfl : i = j := by omega
      obtain ⟨hd, ha, hm, hb, hsz⟩ := HE.out
      obtain ⟨hmid, hnn, hp⟩ := HM.out
      obtain ⟨X1, X2, Y1, Y2, hXX, hYY, hi, hp2, h12, h21⟩ := HS.out.split hd ha hm hb oX oY HB.out
      have hXl : X.length = X1.length + X2.length := by rw [hXX]; simp
      have hYl : Y.length = Y1.length + Y2.length := by rw [hYY]; simp
      obtain ⟨e, he⟩ : ∃ e, e = m + Y1.length := ⟨_, rfl⟩
      have we : IntKind.i64.wrap ((nn : Int) - (i : Int)) = (e : Int) := by rw [IntKind.wrap_i64]; omega
      have HL := Lib.hid (show a + X1.length = i ∧ i + X2.length = m ∧ m + Y1.length = e ∧ e + Y2.length = b ∧ i + Y1.length = mid ∧ mid + X2.length = e ∧ a + 1 ≤ mid ∧ mid + 1 ≤ b by omega)
      have HF := Lib.hid (And.intro hXX (And.intro hYY (And.intro h12 h21)))
      have HD0 := Lib.hid (show d.toList = (P ++ X1) ++ (X2 ++ (Y1 ++ (Y2 ++ Q))) by rw [hd, hXX, hYY]; simp)
      clear hd ha hm hb hsz hmid hnn hp hXX hYY hi hp2 h12 h21 hXl hYl he HB HA HS q1 q2 q3 sr srm sp4 sp5 hlt
      obtain ⟨bb, hbb⟩ : ∃ z : Bool, z = (decide (i < m) && decide (m < e)) := ⟨_, rfl⟩
      go_upto_region 39 with fail
      go_cut [20, 24, 185] (fun s20 s24 sbb wx => s20 = .int .i64 i ∧ s24 = .int .i64 e ∧ sbb = .bool bb ∧ wx = wr)
      case first => as_aux_lemma =>
        by_cases k1 : i < m
        · by_cases k2 : m < e
          · have g1 : (i : Int) < (m : Int) := by omega
            have g2 : (m : Int) < (e : Int) := by omega
            have hbv := Lib.hid (show bb = true by rw [hbb, decide_eq_true k1, decide_eq_true k2]; rfl)
            clear hbb
            go_wp2_with fail
            go_meet
            exact ⟨rfl, rfl, by rw [hbv.out], rfl⟩
          · have g1 : (i : Int) < (m : Int) := by omega
            have g2 : ¬ (m : Int) < (e : Int) := by omega
            have hbv := Lib.hid (show bb = false by rw [hbb, decide_eq_true k1, decide_eq_false k2]; rfl)
            clear hbb
            go_wp2_with fail
            go_meet
            exact ⟨rfl, rfl, by rw [hbv.out], rfl⟩
        · have g1 : ¬ (i : Int) < (m : Int) := by omega
          have hbv := Lib.hid (show bb = false by rw [hbb, decide_eq_false k1]; rfl)
          clear hbb
          go_wp2_with fail
          go_meet
          exact ⟨rfl, rfl, by rw [hbv.out], rfl⟩
      case rest =>
      obtain ⟨rfl, rfl, rfl, rfl⟩ := hcut
      go_upto_if 185 with fail
      go_cut [20, 24] (fun s20 s24 wx => s20 = .int .i64 i ∧ s24 = .int .i64 e ∧ ∃ d1, RowW w0 base g N c d1 wx ∧ d1.toList = P ++ (X1 ++ (Y1 ++ (X2 ++ (Y2 ++ Q)))))
      case first => as_aux_lemma =>
        cases bb with
        | true =>
          obtain ⟨k1, k2⟩ : i < m ∧ m < e := by simpa using hbb.symm
          clear hbb
          have hro := rotate_any w0 base g N c d wc (P ++ X1) X2 Y1 (Y2 ++ Q) i m e (.func (.func 63) #[] #[]) HR.out HD0.out (by have := HL.out; have := HE.out.2.1; simp; omega) (by have := HL.out; omega) (by have := HL.out; omega) (by have := HL.out; omega) (by have := HL.out; omega) hN
          go_wp2_with fail
          refine hro.mono ?_; rintro e3 w3 ⟨rfl, d1, hR1, hd1⟩
          have H1 := Lib.hid (And.intro hR1 hd1)
          clear hro hR1 hd1
          go_wp2_with fail
          go_meet
          exact ⟨rfl, rfl, d1, H1.out.1, by rw [H1.out.2]; simp⟩
        | false =>
          have hnil : X2 = [] ∨ Y1 = [] := by
            have k : ¬ i < m ∨ ¬ m < e := by
              by_cases k1 : i < m
              · right; intro k2; rw [decide_eq_true k1, decide_eq_true k2] at hbb; cases hbb
              · exact .inl k1
            rcases k with k | k
            · exact .inl (List.eq_nil_of_length_eq_zero (by have := HL.out; omega))
            · exact .inr (List.eq_nil_of_length_eq_zero (by have := HL.out; omega))
          have H1 := Lib.hid (show d.toList = P ++ (X1 ++ (Y1 ++ (X2 ++ (Y2 ++ Q)))) by rcases hnil with h | h <;> rw [HD0.out, h] <;> simp)
          clear hnil hbb
          go_wp2_with fail
          go_meet
          exact ⟨rfl, rfl, d, HR.out, H1.out⟩
      case rest =>
      obtain ⟨rfl, rfl, d1, hR1, hd1⟩ := hcut
      have H1 := Lib.hid (And.intro hR1 hd1)
      clear hR1 hd1 HR HD0
      have o1 := HF.out
      have oXX : Ord tkey (X1 ++ X2) := by rw [← o1.1]; exact oX
      have oYY : Ord tkey (Y1 ++ Y2) := by rw [← o1.2.1]; exact oY
      have OO := Lib.hid (And.intro oXX oYY)
      clear o1 oXX oYY
      obtain ⟨b2, hb2⟩ : ∃ z : Bool, z = (decide (a < i) && decide (i < mid)) := ⟨_, rfl⟩
      go_upto_region 41 with fail
      go_cut [20, 24, 199] (fun s20 s24 sbb wx => s20 = .int .i64 i ∧ s24 = .int .i64 e ∧ sbb = .bool b2 ∧ wx = wc)
      case first => as_aux_lemma =>
        by_cases k1 : a < i
        · by_cases k2 : i < mid
          · have g1 : (a : Int) < (i : Int) := by omega
            have g2 : (i : Int) < (mid : Int) := by omega
            have hbv := Lib.hid (show b2 = true by rw [hb2, decide_eq_true k1, decide_eq_true k2]; rfl)
            clear hb2
            go_wp2_with fail
            go_meet
            exact ⟨rfl, rfl, by rw [hbv.out], rfl⟩
          · have g1 : (a : Int) < (i : Int) := by omega
            have g2 : ¬ (i : Int) < (mid : Int) := by omega
            have hbv := Lib.hid (show b2 = false by rw [hb2, decide_eq_true k1, decide_eq_false k2]; rfl)
            clear hb2
            go_wp2_with fail
            go_meet
            exact ⟨rfl, rfl, by rw [hbv.out], rfl⟩
        · have g1 : ¬ (a : Int) < (i : Int) := by omega
          have hbv := Lib.hid (show b2 = false by rw [hb2, decide_eq_false k1]; rfl)
          clear hb2
          go_wp2_with fail
          go_meet
          exact ⟨rfl, rfl, by rw [hbv.out], rfl⟩
      case rest =>
      obtain ⟨rfl, rfl, rfl, rfl⟩ := hcut
      go_upto_if 199 with fail
      go_cut [20, 24] (fun s20 s24 wx => s20 = .int .i64 i ∧ s24 = .int .i64 e ∧ ∃ d2 Z1, RowW w0 base g N c d2 wx ∧ d2.toList = P ++ (Z1 ++ (X2 ++ (Y2 ++ Q))) ∧ Ord tkey Z1 ∧ Stab tkey Z1 (X1 ++ Y1))
      case first => as_aux_lemma =>
        cases b2 with
        | true =>
          obtain ⟨k1, k2⟩ : a < i ∧ i < mid := by simpa using hb2.symm
          clear hb2
          have hih := hIH d1 _ P X1 Y1 (X2 ++ (Y2 ++ Q)) a i mid H1.out.1 H1.out.2 HE.out.2.1 (by have := HL.out; omega) (by have := HL.out; omega) (by have := HL.out; omega) (by have := HL.out; omega) OO.out.1.split.1 OO.out.2.split.1 (by have := HL.out; omega)
          go_wp2_with fail
          refine hih.mono ?_; rintro e3 w3 ⟨rfl, d2, hR2, Z1, hd2, hz1, hz2⟩
          have H2 := Lib.hid (And.intro hR2 (And.intro hd2 (And.intro hz1 hz2)))
          clear hih hR2 hd2 hz1 hz2
          go_wp2_with fail
          go_meet
          exact ⟨rfl, rfl, d2, Z1, H2.out.1, H2.out.2.1, H2.out.2.2.1, H2.out.2.2.2⟩
        | false =>
          have hnil : X1 = [] ∨ Y1 = [] := by
            have k : ¬ a < i ∨ ¬ i < mid := by
              by_cases k1 : a < i
              · right; intro k2; rw [decide_eq_true k1, decide_eq_true k2] at hb2; cases hb2
              · exact .inl k1
            rcases k with k | k
            · exact .inl (List.eq_nil_of_length_eq_zero (by have := HL.out; omega))
            · exact .inr (List.eq_nil_of_length_eq_zero (by have := HL.out; omega))
          have hob : Ord tkey (X1 ++ Y1) := by
            rcases hnil with h | h
            · rw [h]; simpa using OO.out.2.split.1
            · rw [h]; simpa using OO.out.1.split.1
          have H2 := Lib.hid (show d1.toList = P ++ ((X1 ++ Y1) ++ (X2 ++ (Y2 ++ Q))) ∧ Ord tkey (X1 ++ Y1) from ⟨by rw [H1.out.2]; simp, hob⟩)
          clear hnil hb2 hob
          go_wp2_with fail
          go_meet
          exact ⟨rfl, rfl, d1, X1 ++ Y1, H1.out.1, H2.out.1, H2.out.2, Stab.refl _⟩
      case rest =>
      obtain ⟨rfl, rfl, d2, Z1, hR2, hd2, hz1, hz2⟩ := hcut
      have hl1 : (P ++ Z1).length = mid := by have := HL.out; have := hz2.len; have := HE.out.2.1; simp at this ⊢; simp at *; omega
      have H2 := Lib.hid (And.intro hR2 (And.intro (show d2.toList = (P ++ Z1) ++ (X2 ++ (Y2 ++ Q)) by rw [hd2]; simp) (And.intro hz1 (And.intro hz2 hl1))))
      clear hR2 hd2 hz1 hz2 H1 hl1
      by_cases k1 : mid < e
      · by_cases k2 : e < b
        · as_aux_lemma =>
          have hih := hIH d2 wc (P ++ Z1) X2 Y2 Q mid e b H2.out.1 H2.out.2.1 H2.out.2.2.2.2 (by have := HL.out; omega) (by have := HL.out; omega) (by have := HL.out; omega) (by have := HL.out; omega) OO.out.1.split.2.1 OO.out.2.split.2.1 (by have := HL.out; omega)
          have g1 : (mid : Int) < (e : Int) := by omega
          have g2 : (e : Int) < (b : Int) := by omega
          go_wp2_with fail
          refine hih.mono ?_; rintro e3 w3 ⟨rfl, d3, hR3, Z2, hd3, hz3, hz4⟩
          have H3 := Lib.hid (And.intro hR3 (And.intro hd3 (And.intro hz3 hz4)))
          clear hih hR3 hd3 hz3 hz4
          go_wp2_with fail
          go_end0
          obtain ⟨hXX, hYY, h12, h21⟩ := HF.out
          obtain ⟨oz, sz⟩ := merge_join OO.out.1 OO.out.2 h12 h21 H2.out.2.2.1 H2.out.2.2.2.1 H3.out.2.2.1 H3.out.2.2.2
          exact ⟨rfl, d3, H3.out.1, Z1 ++ Z2, by rw [H3.out.2.1]; simp, oz, by rw [hXX, hYY]; exact sz⟩
        · as_aux_lemma =>
          have g1 : (mid : Int) < (e : Int) := by omega
          have g2 : ¬ (e : Int) < (b : Int) := by omega
          have hnil : Y2 = [] := List.eq_nil_of_length_eq_zero (by have := HL.out; omega)
          have HO := Lib.hid (show Ord tkey (X2 ++ Y2) by rw [hnil]; simpa using OO.out.1.split.2.1)
          clear hnil
          go_wp2_with fail
          go_end0
          obtain ⟨hXX, hYY, h12, h21⟩ := HF.out
          obtain ⟨oz, sz⟩ := merge_join OO.out.1 OO.out.2 h12 h21 H2.out.2.2.1 H2.out.2.2.2.1 HO.out (Stab.refl _)
          exact ⟨rfl, d2, H2.out.1, Z1 ++ (X2 ++ Y2), by rw [H2.out.2.1]; simp, oz, by rw [hXX, hYY]; exact sz⟩
      · as_aux_lemma =>
        have g1 : ¬ (mid : Int) < (e : Int) := by omega
        have hnil : X2 = [] := List.eq_nil_of_length_eq_zero (by have := HL.out; omega)
        have HO := Lib.hid (show Ord tkey (X2 ++ Y2) by rw [hnil]; simpa using OO.out.2.split.2.1)
        clear hnil
        go_wp2_with fail
        go_end0
        obtain ⟨hXX, hYY, h12, h21⟩ := HF.out
        obtain ⟨oz, sz⟩ := merge_join OO.out.1 OO.out.2 h12 h21 H2.out.2.2.1 H2.out.2.2.2.1 HO.out (Stab.refl _)
        exact ⟨rfl, d2, H2.out.1, Z1 ++ (X2 ++ Y2), by rw [H2.out.2.1]; simp, oz, by rw [hXX, hYY]; exact sz⟩

theorem symMerge_any (w0 : World) (base g N c : Nat) (hN : N ≤ 1048576) : ∀ (n : Nat) (d : Array Timed) (W : World) (P X Y Q : List Timed) (a m b : Nat), RowW w0 base g N c d W → d.toList = P ++ (X ++ (Y ++ Q)) → P.length = a → a + X.length = m → m + Y.length = b → 0 < X.length → 0 < Y.length → Ord tkey X → Ord tkey Y → b - a < n →
    Calls Try.prog 84 #[.slice (some ⟨g, 0, none⟩) N c, .int .i64 a, .int .i64 m, .int .i64 b, .func (.func 63) #[] #[]] W (SymPost w0 base g N c P X Y Q)
  | 0, _, _, _, _, _, _, _, _, _, _, _, _, _, _, _, _, _, _, h => absurd h (Nat.not_lt_zero _)
  | n + 1, d, W, P, X, Y, Q, a, m, b, hR, hd, ha, hm, hb, hX, hY, oX, oY, hn => by
    by_cases h1 : X.length = 1
    · obtain ⟨x0, rfl⟩ := List.length_eq_one_iff.1 h1
      exact symLeft_any w0 base g N c d W P Y Q x0 a m b hR hd ha (by simpa using hm) hb oY hN
    · by_cases h2 : Y.length = 1
      · obtain ⟨y0, rfl⟩ := List.length_eq_one_iff.1 h2
        exact symRight_any w0 base g N c d W P X Q y0 a m b hR hd ha hm (by simpa using hb) (by omega) oX hN
      · exact symBig_any w0 base g N c d W P X Y Q a m b hR hd ha hm hb (by omega) (by omega) oX oY hN fun d' W' P' X' Y' Q' a' m' b' r1 r2 r3 r4 r5 r6 r7 r8 r9 r10 => symMerge_any w0 base g N c hN n d' W' P' X' Y' Q' a' m' b' r1 r2 r3 r4 r5 r6 r7 r8 r9 (by omega)
end Go.Proofs.Ytnnihiajggdplaa
