/- Sorting timed packets in place: the stable sort. No condition. -/
import Derived.Test.YtnnihiajggdplaaTrZe
namespace Go.Proofs.Ytnnihiajggdplaa
open Go.RowKit Go.Sort

theorem ltT_key (x y : Timed) : ltT x y = decide (tkey x < tkey y) := rfl
theorem bl_snoc {bs : Nat} {Bs : List (List Timed)} {Z : List Timed} (h : ∀ B ∈ Bs, B.length = bs ∧ Ord tkey B) (h1 : Z.length = bs) (h2 : Ord tkey Z) : ∀ B ∈ Bs ++ [Z], B.length = bs ∧ Ord tkey B := by
  intro B hB
  rcases List.mem_append.1 hB with hB | hB
  · exact h B hB
  · obtain rfl := List.mem_singleton.1 hB
    exact ⟨h1, h2⟩
theorem flat_snoc (Bs : List (List Timed)) (Z : List Timed) : (Bs ++ [Z]).flatten = Bs.flatten ++ Z := by simp
def StA (w0 : World) (base g N c : Nat) (d0 : Array Timed) (a b : Value) (wr : World) : Prop := ∃ (Bs : List (List Timed)) (R : List Timed) (d : Array Timed) (k : Nat), k = Bs.flatten.length ∧ a = .int .i64 k ∧ b = .int .i64 ((k + 20 : Nat) : Int) ∧ k ≤ N ∧ RowW w0 base g N c d wr ∧ d.toList = Bs.flatten ++ R ∧ (∀ B ∈ Bs, B.length = 20 ∧ Ord tkey B) ∧ Stab tkey d.toList d0.toList
def StB (w0 : World) (base g N c : Nat) (d0 : Array Timed) (s _a _b _m : Value) (wr : World) : Prop := ∃ (bs : Nat) (Bs : List (List Timed)) (T : List Timed) (d : Array Timed), 0 < bs ∧ bs ≤ 2 * N + 20 ∧ s = .int .i64 bs ∧ RowW w0 base g N c d wr ∧ d.toList = Bs.flatten ++ T ∧ Stg tkey bs Bs T ∧ Stab tkey d.toList d0.toList
def StC (w0 : World) (base g N c bs : Nat) (T : List Timed) (d0 : Array Timed) (a b : Value) (wr : World) : Prop := ∃ (Ds Bs : List (List Timed)) (d : Array Timed) (k : Nat), k = Ds.flatten.length ∧ a = .int .i64 k ∧ b = .int .i64 ((k + 2 * bs : Nat) : Int) ∧ k ≤ N ∧ RowW w0 base g N c d wr ∧ d.toList = Ds.flatten ++ (Bs.flatten ++ T) ∧ (∀ B ∈ Ds, B.length = 2 * bs ∧ Ord tkey B) ∧ (∀ B ∈ Bs, B.length = bs ∧ Ord tkey B) ∧ Stab tkey d.toList d0.toList
theorem two_of {bs : Nat} {Bs : List (List Timed)} {T : List Timed} (h : ∀ B ∈ Bs, B.length = bs ∧ Ord tkey B) (hT : T.length < bs) (hl : 2 * bs ≤ (Bs.flatten ++ T).length) : ∃ B1 B2 r, Bs = B1 :: B2 :: r := by
  match Bs, h with
  | [], _ => simp at hl; omega
  | [B], h => have := (h B (by simp)).1; simp at hl; omega
  | B1 :: B2 :: r, _ => exact ⟨B1, B2, r, rfl⟩
theorem one_of {bs : Nat} {Bs : List (List Timed)} {T : List Timed} (h : ∀ B ∈ Bs, B.length = bs ∧ Ord tkey B) (hT : T.length < bs) (hl : (Bs.flatten ++ T).length < 2 * bs) (hl2 : bs < (Bs.flatten ++ T).length) : ∃ B, Bs = [B] ∧ 0 < T.length := by
  match Bs, h with
  | [], _ => simp at hl2; omega
  | [B], h => have := (h B (by simp)).1; simp at hl2; exact ⟨B, rfl, by omega⟩
  | B1 :: B2 :: r, h => have h1 := (h B1 (by simp)).1; have h2 := (h B2 (by simp)).1; simp at hl; omega
theorem none_of {bs : Nat} {Bs : List (List Timed)} {T : List Timed} (h : ∀ B ∈ Bs, B.length = bs ∧ Ord tkey B) (oT : Ord tkey T) (hb : 0 < bs) (hT : T.length < bs) (hl2 : (Bs.flatten ++ T).length ≤ bs) : ∃ T', Bs.flatten ++ T = T' ∧ Ord tkey T' ∧ T'.length < 2 * bs := by
  match Bs, h with
  | [], _ => exact ⟨T, by simp, oT, by omega⟩
  | [B], h =>
    have h1 := h B (by simp)
    obtain rfl : T = [] := List.eq_nil_of_length_eq_zero (by simp at hl2; omega)
    exact ⟨B, by simp, h1.2, by omega⟩
  | B1 :: B2 :: r, h => have h1 := (h B1 (by simp)).1; have h2 := (h B2 (by simp)).1; simp at hl2; omega

set_option maxRecDepth 100000 in
set_option maxHeartbeats 4000000 in
theorem stable_any (w0 : World) (base g N c : Nat) (d0 : Array Timed) (W : World) (hR : RowW w0 base g N c d0 W) (hN : N ≤ 100000) :
    Calls Try.prog 79 #[.slice (some ⟨g, 0, none⟩) N c, .int .i64 N, .func (.func 63) #[] #[]] W fun e w' => e = .returned (.tuple #[]) ∧ ∃ d', RowW w0 base g N c d' w' ∧ d'.toList = srt tkey d0.toList := by
  have HR := Lib.hid hR
  have HN0 := Lib.hid hR.len
  clear hR
  go_enter Try.func79, Try.ntmps79
  go_wp2_with fail
  go_loopw [7, 8] (StA w0 base g N c d0) (fun a _ _ => N - (intOf a).toNat)
  case atStart => exact ⟨[], d0.toList, d0, 0, rfl, rfl, rfl, Nat.zero_le _, HR.out, by simp, by simp, Stab.refl _⟩
  case round =>
    clear HR
    obtain ⟨Bs, R, d, k, hk, rfl, rfl, hkN, hR, hd, hBs, hS⟩ := hrel
    have hl : Bs.flatten.length + R.length = N := by rw [← hR.len, ← Array.length_toList, hd]; simp
    obtain ⟨b, hb⟩ : ∃ b, b = k + 20 := ⟨_, rfl⟩
    rw [← hb]
    by_cases hlt : b ≤ N
    · have hc := insSort_any w0 base g N c k b d wr hR (by omega) hlt (by omega)
      have e : R = R.take 20 ++ R.drop 20 := (List.take_append_drop _ _).symm
      have l1 : (R.take 20).length = 20 := by rw [List.length_take]; omega
      obtain ⟨Z, hz1, hz2, hz3⟩ := insertionSort_list ltT_key (P := Bs.flatten) (S := R.take 20) (Q := R.drop 20) (d := d) (a := k) (b := b) (by rw [← e]; exact hd) hk.symm (by omega)
      have hst : Stab tkey (insertionSort ltT d k b).toList d0.toList := by
        refine Stab.trans ?_ hS
        rw [hz1, hd]
        conv => rhs; rw [e]
        exact (Stab.refl _).app (hz3.app (Stab.refl _))
      have hzl : Z.length = 20 := by rw [hz3.len, l1]
      have H1 := Lib.hid (And.intro hz1 (And.intro (bl_snoc hBs hzl hz2) (And.intro hst hzl)))
      have HK := Lib.hid (And.intro hk hb)
      have hbz : (b : Int) ≤ (N : Int) := by omega
      have hw : IntKind.i64.wrap ((b : Int) + 20) = (b : Int) + 20 := by rw [IntKind.wrap_i64]; omega
      clear hk hb hR hd hBs hS hl e l1 hz1 hz2 hz3 hst hzl
      go_wp2_with fail
      refine hc.mono ?_; rintro e1 w1 ⟨rfl, hR1⟩
      have HR1 := Lib.hid hR1
      clear hc hR1
      go_wp2_with fail
      go_roundw
      case rel =>
        have hr2 : StA w0 base g N c d0 (.int .i64 (b : Int)) (.int .i64 ((b : Int) + 20)) w1 := by
          have hz := H1.out
          have hkk := HK.out
          exact ⟨Bs ++ [Z], R.drop 20, _, b, by rw [flat_snoc, List.length_append, hz.2.2.2]; omega, rfl, by simp, hlt, HR1.out, by rw [hz.1, flat_snoc]; simp, hz.2.1, hz.2.2.1⟩
        first | exact hr2 | ((repeat apply Exists.intro); exact ⟨hr2, rfl⟩)
      case measure => have := HK.out; simp [intOf]; omega
    · have hc := insSort_any w0 base g N c k N d wr hR hkN (Nat.le_refl _) (by omega)
      obtain ⟨Z, hz1, hz2, hz3⟩ := insertionSort_list ltT_key (P := Bs.flatten) (S := R) (Q := []) (d := d) (a := k) (b := N) (by simpa using hd) hk.symm (by omega)
      have hst : Stab tkey (insertionSort ltT d k N).toList d0.toList := by
        refine Stab.trans ?_ hS
        rw [hz1, hd, List.append_nil]
        exact (Stab.refl _).app hz3
      have hsg : Stg tkey 20 Bs Z := ⟨hBs, hz2, by rw [hz3.len]; omega⟩
      have H1 := Lib.hid (And.intro (show (insertionSort ltT d k N).toList = Bs.flatten ++ Z by simpa using hz1) (And.intro hsg hst))
      have hbz : ¬ (b : Int) ≤ (N : Int) := by omega
      clear hk hb hR hd hBs hS hl hz1 hz2 hz3 hst hsg
      go_wp2_with fail
      refine hc.mono ?_; rintro e1 w1 ⟨rfl, hR1⟩
      have HR1 := Lib.hid hR1
      clear hc hR1 hkN hlt hbz
      go_wp2_with fail
      go_loopw [6, 7, 8, 9] (StB w0 base g N c d0) (fun s _ _ _ _ => N - (intOf s).toNat)
      case atStart => exact ⟨20, Bs, Z, _, by omega, by omega, rfl, HR1.out, H1.out.1, H1.out.2.1, H1.out.2.2⟩
      case round =>
        clear HR1 H1
        obtain ⟨bs, Cs, T, d2, hb0, hbN, rfl, hR2, hd2, hsg, hst⟩ := hrel
        have hl2 : (Cs.flatten ++ T).length = N := by rw [← hd2, Array.length_toList, hR2.len]
        have HB := Lib.hid (And.intro hR2 (And.intro hd2 (And.intro hsg (And.intro hst hl2))))
        clear hR2 hd2 hsg hst hl2
        by_cases hlt2 : bs < N
        · have hbz2 : (bs : Int) < (N : Int) := by omega
          have w1 : IntKind.i64.wrap (2 * (bs : Int)) = 2 * (bs : Int) := by rw [IntKind.wrap_i64]; omega
          have w2 : IntKind.i64.wrap ((bs : Int) * 2) = (bs : Int) * 2 := by rw [IntKind.wrap_i64]; omega
          go_wp2_with fail
          go_loopw [7, 8] (StC w0 base g N c bs T d0) (fun a _ _ => N - (intOf a).toNat)
          case atStart => exact ⟨[], Cs, d2, 0, rfl, rfl, by simp, Nat.zero_le _, HB.out.1, by rw [HB.out.2.1]; simp, by simp, HB.out.2.2.1.bl, HB.out.2.2.2.1⟩
          case round =>
            obtain ⟨Ds, Es, d3, k3, hk3, rfl, rfl, hkN3, hR3, hd3, hDs, hEs, hst3⟩ := hrel
            have hsgT := HB.out.2.2.1
            have hlT := hsgT.lt
            have hoT := hsgT.ot
            have hl3 : Ds.flatten.length + (Es.flatten ++ T).length = N := by rw [← hR3.len, ← Array.length_toList, hd3]; simp
            obtain ⟨b3, hb3⟩ : ∃ b3, b3 = k3 + 2 * bs := ⟨_, rfl⟩
            obtain ⟨m3, hm3⟩ : ∃ m3, m3 = k3 + bs := ⟨_, rfl⟩
            rw [← hb3]
            have wm : IntKind.i64.wrap ((k3 : Int) + (bs : Int)) = (m3 : Int) := by rw [IntKind.wrap_i64]; omega
            by_cases hlt3 : b3 ≤ N
            · obtain ⟨B1, B2, r, rfl⟩ := two_of hEs hlT (by omega)
              have h1 := hEs B1 (by simp)
              have h2 := hEs B2 (by simp)
              have hc3 := symMerge_any w0 base g N c (by omega) (b3 - k3 + 1) d3 wr Ds.flatten B1 B2 (r.flatten ++ T) k3 m3 b3 hR3 (by rw [hd3]; simp) hk3.symm (by omega) (by omega) (by omega) (by omega) h1.2 h2.2 (by omega)
              have HP := Lib.hid (show Stab tkey (Ds.flatten ++ (B1 ++ (B2 ++ (r.flatten ++ T)))) d0.toList by
                have := hst3
                rw [hd3] at this
                simpa using this)
              have HD := Lib.hid (And.intro hDs (And.intro (show ∀ B ∈ r, B.length = bs ∧ Ord tkey B from fun B hB => hEs B (by simp [hB])) (And.intro h1.1 h2.1)))
              have HK := Lib.hid (And.intro hk3 (And.intro hb3 hm3))
              have hbz3 : (b3 : Int) ≤ (N : Int) := by omega
              have w4 : IntKind.i64.wrap ((b3 : Int) + 2 * (bs : Int)) = (b3 : Int) + 2 * (bs : Int) := by rw [IntKind.wrap_i64]; omega
              clear hk3 hb3 hm3 hR3 hd3 hDs hEs hst3 hsgT hoT hl3 h1 h2
              go_wp2_with fail
              refine hc3.mono ?_; rintro e1 w5 ⟨rfl, d5, hR5, Z5, hd5, ho5, hs5⟩
              have H5 := Lib.hid (And.intro hR5 (And.intro hd5 (And.intro ho5 hs5)))
              clear hc3 hR5 hd5 ho5 hs5
              go_wp2_with fail
              go_roundw
              case rel =>
                have hr2 : StC w0 base g N c bs T d0 (.int .i64 (b3 : Int)) (.int .i64 ((b3 : Int) + 2 * (bs : Int))) w5 := by
                  obtain ⟨g1, g2, g3, g4⟩ := H5.out
                  obtain ⟨q1, q2, q3, q4⟩ := HD.out
                  have hkk := HK.out
                  have hz : Z5.length = 2 * bs := by rw [g4.len]; simp; omega
                  refine ⟨Ds ++ [Z5], r, d5, b3, by rw [flat_snoc, List.length_append, hz]; omega, rfl, by simp, hlt3, g1, by rw [g2, flat_snoc]; simp, bl_snoc q1 hz g3, q2, ?_⟩
                  refine Stab.trans ?_ HP.out
                  rw [g2]
                  have := (Stab.refl (key := tkey) Ds.flatten).app (g4.app (Stab.refl (r.flatten ++ T)))
                  simpa using this
                first | exact hr2 | ((repeat apply Exists.intro); exact ⟨hr2, rfl⟩)
              case measure => have := HK.out; simp [intOf]; omega
            · have hbz3 : ¬ (b3 : Int) ≤ (N : Int) := by omega
              by_cases hm4 : m3 < N
              · obtain ⟨B1, rfl, hT0⟩ := one_of hEs hlT (by omega) (by omega)
                have h1 := hEs B1 (by simp)
                have hl4 : ([B1].flatten ++ T).length = B1.length + T.length := by simp
                rw [hl4] at hl3
                have hc3 := symMerge_any w0 base g N c (by omega) (N - k3 + 1) d3 wr Ds.flatten B1 T [] k3 m3 N hR3 (by rw [hd3]; simp) hk3.symm (by omega) (by omega) (by omega) (by omega) h1.2 hoT (by omega)
                have HP := Lib.hid (show Stab tkey (Ds.flatten ++ (B1 ++ T)) d0.toList by
                  have := hst3
                  rw [hd3] at this
                  simpa using this)
                have HD := Lib.hid (And.intro hDs h1.1)
                have hmz : (m3 : Int) < (N : Int) := by omega
                clear hk3 hb3 hm3 hR3 hd3 hDs hEs hst3 hsgT hoT hl3 h1 hl4
                go_wp2_with fail
                refine hc3.mono ?_; rintro e1 w5 ⟨rfl, d5, hR5, Z5, hd5, ho5, hs5⟩
                have H5 := Lib.hid (And.intro hR5 (And.intro hd5 (And.intro ho5 hs5)))
                clear hc3 hR5 hd5 ho5 hs5
                go_wp2_with fail
                go_roundw
                case rel =>
                  have hr2 : StB w0 base g N c d0 (.int .i64 ((bs : Int) * 2)) (.int .i64 (k3 : Int)) (.int .i64 (b3 : Int)) (.int .i64 (m3 : Int)) w5 := by
                    obtain ⟨g1, g2, g3, g4⟩ := H5.out
                    have hz : Z5.length = bs + T.length := by rw [g4.len]; simp; exact HD.out.2
                    refine ⟨2 * bs, Ds, Z5, d5, by omega, by omega, by congr 1; omega, g1, by rw [g2]; simp, ⟨HD.out.1, g3, by omega⟩, ?_⟩
                    refine Stab.trans ?_ HP.out
                    rw [g2, List.append_nil]
                    exact (Stab.refl (key := tkey) Ds.flatten).app g4
                  first | exact hr2 | ((repeat apply Exists.intro); exact ⟨hr2, rfl⟩)
                case measure => simp [intOf]; omega
              · obtain ⟨T', hT1, hT2, hT3⟩ := none_of hEs hoT hb0 hlT (by omega)
                have HD := Lib.hid (And.intro hR3 (And.intro (show d3.toList = Ds.flatten ++ T' by rw [hd3, hT1]) (And.intro (show Stg tkey (2 * bs) Ds T' from ⟨hDs, hT2, hT3⟩) hst3)))
                have hmz : ¬ (m3 : Int) < (N : Int) := by omega
                clear hk3 hb3 hm3 hR3 hd3 hDs hEs hst3 hsgT hoT hl3 hT1 hT2 hT3
                go_wp2_with fail
                go_roundw
                case rel =>
                  have hr2 : StB w0 base g N c d0 (.int .i64 ((bs : Int) * 2)) (.int .i64 (k3 : Int)) (.int .i64 (b3 : Int)) (.int .i64 (m3 : Int)) wr := ⟨2 * bs, Ds, T', d3, by omega, by omega, by congr 1; omega, HD.out.1, HD.out.2.1, HD.out.2.2.1, HD.out.2.2.2⟩
                  first | exact hr2 | ((repeat apply Exists.intro); exact ⟨hr2, rfl⟩)
                case measure => simp [intOf]; omega
        · have hbz2 : ¬ (bs : Int) < (N : Int) := by omega
          go_wp2_with fail
          go_end0
          obtain ⟨g1, g2, g3, g4, g5⟩ := HB.out
          refine ⟨rfl, d2, g1, srt_of ?_ g4⟩
          rw [g2]
          exact g3.done (by rw [g5]; omega)
end Go.Proofs.Ytnnihiajggdplaa
