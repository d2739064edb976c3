/- MergeFlows: the reference's merging by insertion. No condition. -/
import Derived.Test.YtnnihiajggdplaaTrMb
import Derived.Deep.RegionHeld3
namespace Go.Proofs.Ytnnihiajggdplaa
open Go.RowKit Go.Sort

theorem rdN (W : World) : Rd W 7 none 0 [] := ⟨rfl, fun h => absurd h (Nat.lt_irrefl 0)⟩
def TmRel (w : World) (n : Nat) (xs : List Flow) (t : Int) (all i : Value) (wr : World) : Prop := ∃ k : Nat, k ≤ n ∧ i = .int .i64 k ∧ OwnT w 58 all (srt tkey (mgL (xs.take k) t)) wr ∧ (srt tkey (mgL (xs.take k) t) = [] → all = .slice none 0 0)
def TuRel (w w2 : World) (L us : List Timed) (all i : Value) (wr : World) : Prop := ∃ k : Nat, k ≤ us.length ∧ i = .int .i64 k ∧ OwnT w 58 all (srt tkey (L ++ us.take k)) wr ∧ (srt tkey (L ++ us.take k) = [] → all = .slice none 0 0) ∧ Below w2.heap.size w2 wr
def TkRel (wx : World) (s : List Timed) (x : Timed) (i : Value) (wr : World) : Prop := ∃ k : Nat, k ≤ s.length ∧ i = .int .i64 k ∧ (∀ r y, k ≤ r → s[r]? = some y → x.tick < y.tick) ∧ Below wx.heap.size wx wr
theorem ins_at {s : List Timed} {x : Timed} {k : Nat} (o : Ord tkey s) (h1 : ∀ r y, k ≤ r → s[r]? = some y → x.tick < y.tick) (h2 : ∀ y, 0 < k → s[k - 1]? = some y → y.tick ≤ x.tick) (hk : k ≤ s.length) : insB tkey x s = s.take k ++ x :: s.drop k := by
  have e : s = s.take k ++ s.drop k := (List.take_append_drop _ _).symm
  conv => lhs; rw [e]
  refine insB_split (fun a ha => ?_) (fun b hb => ?_)
  · obtain ⟨i, hi, rfl⟩ := List.mem_iff_getElem.1 ha
    rw [List.length_take] at hi
    have hk0 : 0 < k := by omega
    have hl : k - 1 < s.length := by omega
    have h3 := h2 _ hk0 (List.getElem?_eq_getElem hl)
    rw [List.getElem_take]
    by_cases he : i = k - 1
    · subst he; exact h3
    · exact Int.le_trans (List.pairwise_iff_getElem.1 o i (k - 1) (by omega) hl (by omega)) h3
  · obtain ⟨i, hi, rfl⟩ := List.mem_iff_getElem.1 hb
    rw [List.length_drop] at hi
    rw [List.getElem_drop]
    exact h1 (k + i) _ (by omega) (List.getElem?_eq_getElem (by omega))
theorem own_ins {w W : World} {b k m : Nat} {v : Value} {A B : List Timed} {x : Timed} (h : W.ownsRow b 58 7 v (0 + k + 1 + m) ((([] ++ A.flatMap encTimed) ++ encTimed x) ++ B.flatMap encTimed)) (hA : A.length = k) (hB : B.length = m) (hb : w.heap.size ≤ b) (he : Below w.heap.size w W) : OwnT w 58 v (A ++ x :: B) W := by
  refine ⟨?_, he⟩
  have e1 : (A ++ x :: B).length = 0 + k + 1 + m := by rw [List.length_append, List.length_cons, hA, hB]; omega
  have e2 : (A ++ x :: B).flatMap encTimed = (([] ++ A.flatMap encTimed) ++ encTimed x) ++ B.flatMap encTimed := by rw [List.flatMap_append, List.flatMap_cons]; simp only [List.nil_append, List.append_assoc]
  rw [e1, e2]
  exact own_base h hb
theorem own_take {w : World} {base N K c : Nat} {A : Option Addr} {l : List Timed} (h : w.ownsRow base 58 7 (.slice A N c) N (l.flatMap encTimed)) (hl : l.length = N) (hK : K ≤ N) : w.ownsRow base 58 7 (.slice A K c) K ((l.take K).flatMap encTimed) := by
  have e : l.flatMap encTimed = (l.take K).flatMap encTimed ++ (l.drop K).flatMap encTimed := by rw [← List.flatMap_append, List.take_append_drop]
  have l1 : ((l.take K).flatMap encTimed).length = K * 7 := by rw [flat_len encTimed 7 encTimed_len, List.length_take]; congr 1; omega
  refine ⟨l1, ?_⟩
  rcases h.2 with ⟨h1, h0⟩ | ⟨g, cap, cur, hv, hgb, hgc, hnc, hml, hsz, hval⟩
  · obtain rfl : K = 0 := by omega
    subst h0
    exact .inl ⟨h1, rfl⟩
  · injection hv with e1 e2 e3
    subst e1; subst e3
    refine .inr ⟨g, c, cur, rfl, hgb, hgc, by omega, hml, hsz, ?_⟩
    have h2 : cur.toList.take (K * 7) = (cur.toList.take (N * 7)).take (K * 7) := by rw [List.take_take, Nat.min_eq_left (Nat.mul_le_mul_right 7 hK)]
    rw [h2, hval, e, List.take_append_of_le_length (by omega), List.take_of_length_le (by omega)]
theorem least_any (N K : Nat) (w : World) (h : (N ≤ 60 ∧ K = N) ∨ (60 < N ∧ K = 60)) : Calls Try.prog 78 #[.int .i64 N, .int .i64 60] w fun e w' => e = .returned (.int .i64 K) ∧ w = w' := by
  rcases h with ⟨h1, rfl⟩ | ⟨h1, rfl⟩
  · by_cases h2 : (K : Int) < 60
    · go_enter Try.func78, Try.ntmps78
      go_wp2_with fail
      go_ret
      exact ⟨rfl, rfl⟩
    · obtain rfl : K = 60 := by omega
      go_enter Try.func78, Try.ntmps78
      go_wp2_with fail
      go_ret
      exact ⟨rfl, rfl⟩
  · have h2 : ¬ (N : Int) < 60 := by omega
    have h3 : (60 : Int) < (N : Int) := by omega
    go_enter Try.func78, Try.ntmps78
    go_wp2_with fail
    go_ret
    exact ⟨rfl, rfl⟩
theorem us_snoc {L us : List Timed} {j : Nat} {x : Timed} (h : us[j]? = some x) : srt tkey (L ++ us.take (j + 1)) = insB tkey x (srt tkey (L ++ us.take j)) := by
  rw [List.take_add_one, h, Option.toList_some, ← List.append_assoc, srt_snoc]

set_option maxRecDepth 100000 in
set_option maxHeartbeats 4000000 in
theorem tfMergeLoop_any (A : Option Addr) (n c : Nat) (xs : List Flow) (t : Int) (w : World) (hn : n ≤ 6) (hl : xs.length = n) (hok : xs.all flowOk = true) (hr : Rd w 9 A n (xs.flatMap encFlow)) :
    Calls Try.prog 60 #[.slice A n c, .int .i64 t] w (RetT 58 w (renum ((srt tkey (mgL xs t)).take 60))) := by
  obtain ⟨i0, hi, hz0, hz1, hz2⟩ := info_parts infoTimed
  have HL := Lib.hid hl
  have HOK := Lib.hid hok
  clear hl hok
  go_enter Try.func60, Try.ntmps60
  go_wp2_with fail
  go_loopw [5, 14] (TmRel w n xs t) (fun _ i _ => n - (intOf i).toNat)
  case atStart => exact ⟨0, Nat.zero_le _, rfl, ownT_nil (ext_refl w), fun _ => rfl⟩
  case round =>
    obtain ⟨k1, hk1, rfl, hO, hnil⟩ := hrel
    by_cases hlt : k1 < n
    · have hb := hO.2
      have kz : (k1 : Int) < (n : Int) := by omega
      obtain ⟨b, o, rfl, hblb, hcellb⟩ := hr.2 (by omega)
      have hblrbf : b < wr.heap.size := Nat.lt_of_lt_of_le hblb hb.size
      have hlxf : k1 < xs.length := by rw [HL.out]; omega
      have hxf : xs[k1]? = some xs[k1] := List.getElem?_eq_getElem hlxf
      generalize xs[k1] = f at hxf
      have fc0 : wr.cell? ⟨b, o + (k1 * 9 + 0), none⟩ = some (.int .i64 f.key) := (hb.cell (p := ⟨b, o + (k1 * 9 + 0), none⟩) hblb).trans (hcellb _ _ ((flat_get encFlow 9 encFlow_len xs k1 0 f hxf (by omega)).trans rfl))
      have fc1 : wr.cell? ⟨b, o + (k1 * 9 + 1), none⟩ = some (.int .i64 f.source) := (hb.cell (p := ⟨b, o + (k1 * 9 + 1), none⟩) hblb).trans (hcellb _ _ ((flat_get encFlow 9 encFlow_len xs k1 1 f hxf (by omega)).trans rfl))
      have fc2 : wr.cell? ⟨b, o + (k1 * 9 + 2), none⟩ = some (.int .i64 f.dest) := (hb.cell (p := ⟨b, o + (k1 * 9 + 2), none⟩) hblb).trans (hcellb _ _ ((flat_get encFlow 9 encFlow_len xs k1 2 f hxf (by omega)).trans rfl))
      have fc3 : wr.cell? ⟨b, o + (k1 * 9 + 3), none⟩ = some (.int .i64 f.port) := (hb.cell (p := ⟨b, o + (k1 * 9 + 3), none⟩) hblb).trans (hcellb _ _ ((flat_get encFlow 9 encFlow_len xs k1 3 f hxf (by omega)).trans rfl))
      have fc4 : wr.cell? ⟨b, o + (k1 * 9 + 4), none⟩ = some (.int .i64 f.mark) := (hb.cell (p := ⟨b, o + (k1 * 9 + 4), none⟩) hblb).trans (hcellb _ _ ((flat_get encFlow 9 encFlow_len xs k1 4 f hxf (by omega)).trans rfl))
      have fc5 : wr.cell? ⟨b, o + (k1 * 9 + 5), none⟩ = some (.int .i64 f.start) := (hb.cell (p := ⟨b, o + (k1 * 9 + 5), none⟩) hblb).trans (hcellb _ _ ((flat_get encFlow 9 encFlow_len xs k1 5 f hxf (by omega)).trans rfl))
      have fc6 : wr.cell? ⟨b, o + (k1 * 9 + 6), none⟩ = some (.int .i64 f.gap) := (hb.cell (p := ⟨b, o + (k1 * 9 + 6), none⟩) hblb).trans (hcellb _ _ ((flat_get encFlow 9 encFlow_len xs k1 6 f hxf (by omega)).trans rfl))
      have fc7 : wr.cell? ⟨b, o + (k1 * 9 + 7), none⟩ = some (.int .i64 f.burst) := (hb.cell (p := ⟨b, o + (k1 * 9 + 7), none⟩) hblb).trans (hcellb _ _ ((flat_get encFlow 9 encFlow_len xs k1 7 f hxf (by omega)).trans rfl))
      have fc8 : wr.cell? ⟨b, o + (k1 * 9 + 8), none⟩ = some (.int .i64 f.size) := (hb.cell (p := ⟨b, o + (k1 * 9 + 8), none⟩) hblb).trans (hcellb _ _ ((flat_get encFlow 9 encFlow_len xs k1 8 f hxf (by omega)).trans rfl))
      simp only [Nat.add_zero, ← Nat.add_assoc] at fc0 fc1 fc2 fc3 fc4 fc5 fc6 fc7 fc8
      have HX := Lib.hid hxf
      clear hxf hlxf hcellb
      have hfo : flowOk f = true := List.all_eq_true.1 HOK.out f (List.mem_of_getElem? HX.out)
      have HFO := Lib.hid hfo
      have B0 := Blk.new wr 25 [.int .i64 f.key, .int .i64 f.source, .int .i64 f.dest, .int .i64 f.port, .int .i64 f.mark, .int .i64 f.start, .int .i64 f.gap, .int .i64 f.burst, .int .i64 f.size]
      have HO0 := Lib.hid (And.intro (ownT_alloc hO (.cells (List.toArray [.int .i64 f.key, .int .i64 f.source, .int .i64 f.dest, .int .i64 f.port, .int .i64 f.mark, .int .i64 f.start, .int .i64 f.gap, .int .i64 f.burst, .int .i64 f.size]) 25)) hnil)
      have HS := Lib.hid (mgL_succ (t := t) HX.out)
      clear hO hnil hb hfo
      obtain ⟨y0, x0, d0, f0⟩ := B0.nine
      go_wp2_with fail
      refine (tfUntil_any f t _ HFO.out).mono ?_; rintro e w2 ⟨A2, c2, rfl, ow2, hb2⟩
      have HO2 := Lib.hid (And.intro (ownT_ext HO0.out.1 hb2) HO0.out.2)
      have hu60 := until_len f t
      have hlen := mgL_len (t := t) (xs.take k1)
      have hlk : (xs.take k1).length ≤ 6 := by rw [List.length_take]; omega
      have hL360 : (mgL (xs.take k1) t).length ≤ 360 := by
        have := Nat.mul_le_mul_right 60 hlk
        omega
      have hrU := Rd.of_own ow2
      generalize mgL (xs.take k1) t = L at *
      generalize untilL f t = us at *
      have HU := Lib.hid (And.intro hu60 hL360)
      clear y0 x0 d0 f0 B0 hb2 HO0 hlen hlk hL360 ow2 fc0 fc1 fc2 fc3 fc4 fc5 fc6 fc7 fc8
      go_wp2_with fail
      go_loopw [5, 22] (TuRel w w2 L us) (fun _ i _ => us.length - (intOf i).toNat)
      case atStart => exact ⟨0, Nat.zero_le _, rfl, by rw [List.take_zero, List.append_nil]; exact HO2.out.1, by rw [List.take_zero, List.append_nil]; exact HO2.out.2, ext_refl w2⟩
      case round =>
        clear HO2
        obtain ⟨j, hj, rfl, hO3, hnil3, hb3⟩ := hrel
        by_cases hltj : j < us.length
        · have jz : (j : Int) < (us.length : Int) := by omega
          obtain ⟨b4, o4, rfl, hbl4, hc4⟩ := hrU.2 (by omega)
          have hx : us[j]? = some us[j] := List.getElem?_eq_getElem hltj
          generalize us[j] = x at hx
          have hblr : b4 < wr.heap.size := Nat.lt_of_lt_of_le hbl4 hb3.size
          have u0 : wr.cell? ⟨b4, o4 + (j * 7 + 0), none⟩ = some (.int .i64 x.tick) := (hb3.cell (p := ⟨b4, o4 + (j * 7 + 0), none⟩) hbl4).trans (hc4 _ _ ((flat_get encTimed 7 encTimed_len us j 0 x hx (by omega)).trans rfl))
          have u1 : wr.cell? ⟨b4, o4 + (j * 7 + 1), none⟩ = some (.int .i64 x.packet.id) := (hb3.cell (p := ⟨b4, o4 + (j * 7 + 1), none⟩) hbl4).trans (hc4 _ _ ((flat_get encTimed 7 encTimed_len us j 1 x hx (by omega)).trans rfl))
          have u2 : wr.cell? ⟨b4, o4 + (j * 7 + 2), none⟩ = some (.int .i64 x.packet.source) := (hb3.cell (p := ⟨b4, o4 + (j * 7 + 2), none⟩) hbl4).trans (hc4 _ _ ((flat_get encTimed 7 encTimed_len us j 2 x hx (by omega)).trans rfl))
          have u3 : wr.cell? ⟨b4, o4 + (j * 7 + 3), none⟩ = some (.int .i64 x.packet.dest) := (hb3.cell (p := ⟨b4, o4 + (j * 7 + 3), none⟩) hbl4).trans (hc4 _ _ ((flat_get encTimed 7 encTimed_len us j 3 x hx (by omega)).trans rfl))
          have u4 : wr.cell? ⟨b4, o4 + (j * 7 + 4), none⟩ = some (.int .i64 x.packet.port) := (hb3.cell (p := ⟨b4, o4 + (j * 7 + 4), none⟩) hbl4).trans (hc4 _ _ ((flat_get encTimed 7 encTimed_len us j 4 x hx (by omega)).trans rfl))
          have u5 : wr.cell? ⟨b4, o4 + (j * 7 + 5), none⟩ = some (.int .i64 x.packet.mark) := (hb3.cell (p := ⟨b4, o4 + (j * 7 + 5), none⟩) hbl4).trans (hc4 _ _ ((flat_get encTimed 7 encTimed_len us j 5 x hx (by omega)).trans rfl))
          have u6 : wr.cell? ⟨b4, o4 + (j * 7 + 6), none⟩ = some (.int .i64 x.packet.size) := (hb3.cell (p := ⟨b4, o4 + (j * 7 + 6), none⟩) hbl4).trans (hc4 _ _ ((flat_get encTimed 7 encTimed_len us j 6 x hx (by omega)).trans rfl))
          simp only [Nat.add_zero, ← Nat.add_assoc] at u0 u1 u2 u3 u4 u5 u6
          have HXJ := Lib.hid (us_snoc (L := L) hx)
          have hso := (srt_ok (key := tkey) (L ++ us.take j)).1
          have hsl : (srt tkey (L ++ us.take j)).length ≤ 420 := by rw [srt_len, List.length_append, List.length_take]; have := HU.out; omega
          generalize srt tkey (L ++ us.take j) = s at *
          have HSO := Lib.hid hso
          have BX0 := Blk.new wr 58 [.int .i64 x.tick, .int .i64 x.packet.id, .int .i64 x.packet.source, .int .i64 x.packet.dest, .int .i64 x.packet.port, .int .i64 x.packet.mark, .int .i64 x.packet.size]
          have hO4 := ownT_alloc hO3 (.cells (List.toArray [.int .i64 x.tick, .int .i64 x.packet.id, .int .i64 x.packet.source, .int .i64 x.packet.dest, .int .i64 x.packet.port, .int .i64 x.packet.mark, .int .i64 x.packet.size]) 58)
          have hb4 := ext_alloc hb3 (.cells (List.toArray [.int .i64 x.tick, .int .i64 x.packet.id, .int .i64 x.packet.source, .int .i64 x.packet.dest, .int .i64 x.packet.port, .int .i64 x.packet.mark, .int .i64 x.packet.size]) 58)
          clear hx hso hO3 hb3 hc4
          by_cases hs0 : s = []
          · obtain rfl := hnil3 hs0
            have HS0 := Lib.hid hs0
            have H4 := Lib.hid (And.intro hO4 hb4)
            clear hs0 hnil3 hO4 hb4
            go_wp2_with fail
            generalize hgx : wr.heap.size = gx at BX0 ⊢
            go_loopw [10] (fun i wr' => i = .int .i64 0 ∧ Below (wr.alloc (.cells (List.toArray [.int .i64 x.tick, .int .i64 x.packet.id, .int .i64 x.packet.source, .int .i64 x.packet.dest, .int .i64 x.packet.port, .int .i64 x.packet.mark, .int .i64 x.packet.size]) 58)).heap.size (wr.alloc (.cells (List.toArray [.int .i64 x.tick, .int .i64 x.packet.id, .int .i64 x.packet.source, .int .i64 x.packet.dest, .int .i64 x.packet.port, .int .i64 x.packet.mark, .int .i64 x.packet.size]) 58)) wr') (fun _ _ => 0)
            case atStart => exact ⟨rfl, ext_refl _⟩
            case round =>
              obtain ⟨rfl, hb5⟩ := hrel
              go_wp2_with fail
              refine wp_region_grow (by kernel_rfl) (by kernel_rfl) ?_
              intro S hne hkS ho
              repeat (go_big_quiet_step (fail))
              refine wpQuiet_nil ?_
              rintro _ ⟨sw, rfl⟩
              have hb6 := ext_trans hb5 (ho sw)
              have BX := BX0.below hb6
              have Z6 := Lib.hid (And.intro (H4.out.1.2.trans (hb6.mono H4.out.1.2.size)) (ext_trans H4.out.2 hb6))
              generalize sw.W = wa at *
              clear ho hkS hne hb5 hb6 BX0 H4
              clear sw S hgx u0 u1 u2 u3 u4 u5 u6
              go_wp2_with fail
              have ZE := (ext_alloc (ext_refl wa) (.cells #[] 58)).drew
              have ZX := (ext_alloc (ext_refl wa) (.cells #[.int .i64 x.tick, .int .i64 x.packet.id, .int .i64 x.packet.source, .int .i64 x.packet.dest, .int .i64 x.packet.port, .int .i64 x.packet.mark, .int .i64 x.packet.size] 58)).drew
              have ZEX := (ext_alloc (ext_alloc (ext_refl wa) (.cells #[] 58)) (.cells #[.int .i64 x.tick, .int .i64 x.packet.id, .int .i64 x.packet.source, .int .i64 x.packet.dest, .int .i64 x.packet.port, .int .i64 x.packet.mark, .int .i64 x.packet.size] 58)).drew
              have ZXE := (ext_alloc (ext_alloc (ext_refl wa) (.cells #[.int .i64 x.tick, .int .i64 x.packet.id, .int .i64 x.packet.source, .int .i64 x.packet.dest, .int .i64 x.packet.port, .int .i64 x.packet.mark, .int .i64 x.packet.size] 58)) (.cells #[] 58)).drew
              have OA := (World.ownsRow_made (size := 7) (e := 58) wa #[] 0 (Nat.le_refl _) (by unfold maxLen; omega) (by simp)).drew
              have OB := ((World.ownsRow_made (size := 7) (e := 58) wa #[] 0 (Nat.le_refl _) (by unfold maxLen; omega) (by simp)).alloc (.cells #[.int .i64 x.tick, .int .i64 x.packet.id, .int .i64 x.packet.source, .int .i64 x.packet.dest, .int .i64 x.packet.port, .int .i64 x.packet.mark, .int .i64 x.packet.size] 58)).drew
              have OG0 := (own_base (World.ownsRow_made (size := 7) (e := 58) (wa.alloc (.cells #[.int .i64 x.tick, .int .i64 x.packet.id, .int .i64 x.packet.source, .int .i64 x.packet.dest, .int .i64 x.packet.port, .int .i64 x.packet.mark, .int .i64 x.packet.size] 58)) #[] 0 (Nat.le_refl _) (by unfold maxLen; omega) (by simp)) (show wa.heap.size ≤ (wa.alloc (.cells #[.int .i64 x.tick, .int .i64 x.packet.id, .int .i64 x.packet.source, .int .i64 x.packet.dest, .int .i64 x.packet.port, .int .i64 x.packet.mark, .int .i64 x.packet.size] 58)).heap.size by simp)).drew
              have OG : ((wa.alloc (.cells #[.int .i64 x.tick, .int .i64 x.packet.id, .int .i64 x.packet.source, .int .i64 x.packet.dest, .int .i64 x.packet.port, .int .i64 x.packet.mark, .int .i64 x.packet.size] 58)).alloc (.cells #[] 58)).drew.ownsRow wa.heap.size 58 7 (.slice (some ⟨wa.heap.size + 1, 0, none⟩) 0 0) 0 [] := (show (wa.alloc (.cells #[.int .i64 x.tick, .int .i64 x.packet.id, .int .i64 x.packet.source, .int .i64 x.packet.dest, .int .i64 x.packet.port, .int .i64 x.packet.mark, .int .i64 x.packet.size] 58)).heap.size = wa.heap.size + 1 by simp) ▸ OG0
              have XB0 : Blk ((wa.alloc (.cells #[] 58)).alloc (.cells #[.int .i64 x.tick, .int .i64 x.packet.id, .int .i64 x.packet.source, .int .i64 x.packet.dest, .int .i64 x.packet.port, .int .i64 x.packet.mark, .int .i64 x.packet.size] 58)).drew (wa.heap.size + 1) 58 [.int .i64 x.tick, .int .i64 x.packet.id, .int .i64 x.packet.source, .int .i64 x.packet.dest, .int .i64 x.packet.port, .int .i64 x.packet.mark, .int .i64 x.packet.size] := (show (wa.alloc (.cells #[] 58)).heap.size = wa.heap.size + 1 by simp) ▸ (Blk.new (wa.alloc (.cells #[] 58)) 58 [.int .i64 x.tick, .int .i64 x.packet.id, .int .i64 x.packet.source, .int .i64 x.packet.dest, .int .i64 x.packet.port, .int .i64 x.packet.mark, .int .i64 x.packet.size]).drew
              have XG0 := ((Blk.new wa 58 [.int .i64 x.tick, .int .i64 x.packet.id, .int .i64 x.packet.source, .int .i64 x.packet.dest, .int .i64 x.packet.port, .int .i64 x.packet.mark, .int .i64 x.packet.size]).alloc (.cells #[] 58)).drew
              have C0 := BX.seven.2.2.1
              have CD := BX.drew.seven.2.2.1
              have CE := (BX.below ZE).seven.2.2.1
              have CX := (BX.below ZX).seven.2.2.1
              have CEX := (BX.below ZEX).seven.2.2.1
              have CXE := (BX.below ZXE).seven.2.2.1
              go_region_held3 (fun w' => w'.cell? ⟨gx, 0, none⟩ = some (.int .i64 x.tick) ∧ w'.cell? ⟨gx, 1, none⟩ = some (.int .i64 x.packet.id) ∧ w'.cell? ⟨gx, 2, none⟩ = some (.int .i64 x.packet.source) ∧ w'.cell? ⟨gx, 3, none⟩ = some (.int .i64 x.packet.dest) ∧ w'.cell? ⟨gx, 4, none⟩ = some (.int .i64 x.packet.port) ∧ w'.cell? ⟨gx, 5, none⟩ = some (.int .i64 x.packet.mark) ∧ w'.cell? ⟨gx, 6, none⟩ = some (.int .i64 x.packet.size))
                (first | with_reducible exact C3 | with_reducible exact C2 | with_reducible exact C1A | with_reducible exact C1 | with_reducible exact CEX | with_reducible exact CXE | with_reducible exact CE | with_reducible exact CX | with_reducible exact CD | with_reducible exact C0)
                (first
                | (refine step_append_rd (v := .slice (some ⟨wa.heap.size, 0, none⟩) 0 0) (size := 7) (bytes := 56) (base := wa.heap.size) rfl (.tmp 43) (.tmp 46) rfl Try.underlying42 hi hz0 hz1 hz2 rfl (by decide) rfl OA none 0 0 [] rfl (rdN _) (by intro u hu; simp at hu) (by unfold maxLen; omega) (by omega) (by simp) ?_; intro v1 p1w o1 hg1; have z1 := own_grown ZE OA ZE.size hg1; have mA := z1; have C1 := (BX.below z1).seven.2.2.1; have C1A := (BX.below (ext_alloc z1 (.cells #[.int .i64 x.tick, .int .i64 x.packet.id, .int .i64 x.packet.source, .int .i64 x.packet.dest, .int .i64 x.packet.port, .int .i64 x.packet.mark, .int .i64 x.packet.size] 58))).seven.2.2.1)
                | (refine step_append_rd (v := .slice (some ⟨wa.heap.size, 0, none⟩) 0 0) (size := 7) (bytes := 56) (base := wa.heap.size) rfl (.tmp 43) (.tmp 46) rfl Try.underlying42 hi hz0 hz1 hz2 rfl (by decide) rfl OB none 0 0 [] rfl (rdN _) (by intro u hu; simp at hu) (by unfold maxLen; omega) (by omega) (by simp; omega) ?_; intro v1 p1w o1 hg1; have z1 := own_grown ZEX OB ZEX.size hg1; have XB := XB0.grown hg1 (by simp [Value.ownBlock]); have C1 := (BX.below z1).seven.2.2.1)
                | (refine step_append_rd (v := .slice (some ⟨wa.heap.size + 1, 0, none⟩) 0 0) (size := 7) (bytes := 56) (base := wa.heap.size) rfl (.tmp 43) (.tmp 46) rfl Try.underlying42 hi hz0 hz1 hz2 rfl (by decide) rfl OG none 0 0 [] rfl (rdN _) (by intro u hu; simp at hu) (by unfold maxLen; omega) (by omega) (by simp; omega) ?_; intro v1 p1w o1 hg1; have z1 := own_grown ZXE OG ZXE.size hg1; have XG := XG0.grown hg1 (by simp [Value.ownBlock]); have C1 := (BX.below z1).seven.2.2.1)
                | (have q1 := mA; refine step_append_rd (v := v1) (size := 7) (bytes := 56) (base := wa.heap.size) rfl (.tmp 47) (.tmp 49) rfl Try.underlying42 hi hz0 hz1 hz2 rfl (by decide) rfl (o1.alloc (.cells #[.int .i64 x.tick, .int .i64 x.packet.id, .int .i64 x.packet.source, .int .i64 x.packet.dest, .int .i64 x.packet.port, .int .i64 x.packet.mark, .int .i64 x.packet.size] 58)) (some ⟨p1w.heap.size, 0, none⟩) 1 1 [.int .i64 x.tick, .int .i64 x.packet.id, .int .i64 x.packet.source, .int .i64 x.packet.dest, .int .i64 x.packet.port, .int .i64 x.packet.mark, .int .i64 x.packet.size] rfl (Rd.of_blk (Blk.new p1w 58 [.int .i64 x.tick, .int .i64 x.packet.id, .int .i64 x.packet.source, .int .i64 x.packet.dest, .int .i64 x.packet.port, .int .i64 x.packet.mark, .int .i64 x.packet.size]) rfl) (timeds_one [x]) (by unfold maxLen; omega) (by omega) (by have := z1.size; simp; omega) ?_; intro v2 p2w o2 hg2; have z2 := own_grown (ext_alloc z1 (.cells #[.int .i64 x.tick, .int .i64 x.packet.id, .int .i64 x.packet.source, .int .i64 x.packet.dest, .int .i64 x.packet.port, .int .i64 x.packet.mark, .int .i64 x.packet.size] 58)) (o1.alloc (.cells #[.int .i64 x.tick, .int .i64 x.packet.id, .int .i64 x.packet.source, .int .i64 x.packet.dest, .int .i64 x.packet.port, .int .i64 x.packet.mark, .int .i64 x.packet.size] 58)) (by have := z1.size; simp; omega) hg2; have C2 := (BX.below z2).seven.2.2.1)
                | (have q2 := XB; refine step_append_rd (v := v1) (size := 7) (bytes := 56) (base := wa.heap.size) rfl (.tmp 47) (.tmp 49) rfl Try.underlying42 hi hz0 hz1 hz2 rfl (by decide) rfl o1 (some ⟨wa.heap.size + 1, 0, none⟩) 1 1 [.int .i64 x.tick, .int .i64 x.packet.id, .int .i64 x.packet.source, .int .i64 x.packet.dest, .int .i64 x.packet.port, .int .i64 x.packet.mark, .int .i64 x.packet.size] rfl (Rd.of_blk XB rfl) (timeds_one [x]) (by unfold maxLen; omega) (by omega) z1.size ?_; intro v2 p2w o2 hg2; have z2 := own_grown z1 o1 z1.size hg2; have C2 := (BX.below z2).seven.2.2.1)
                | (have q3 := XG; refine step_append_rd (v := v1) (size := 7) (bytes := 56) (base := wa.heap.size) rfl (.tmp 47) (.tmp 49) rfl Try.underlying42 hi hz0 hz1 hz2 rfl (by decide) rfl o1 (some ⟨wa.heap.size, 0, none⟩) 1 1 [.int .i64 x.tick, .int .i64 x.packet.id, .int .i64 x.packet.source, .int .i64 x.packet.dest, .int .i64 x.packet.port, .int .i64 x.packet.mark, .int .i64 x.packet.size] rfl (Rd.of_blk XG rfl) (timeds_one [x]) (by unfold maxLen; omega) (by omega) z1.size ?_; intro v2 p2w o2 hg2; have z2 := own_grown z1 o1 z1.size hg2; have C2 := (BX.below z2).seven.2.2.1)
                | (refine step_append_rd (v := v2) (size := 7) (bytes := 56) (base := wa.heap.size) rfl (.tmp 50) (.tmp 53) rfl Try.underlying42 hi hz0 hz1 hz2 rfl (by decide) rfl o2 none 0 0 [] rfl (rdN _) (by intro u hu; simp at hu) (by unfold maxLen; omega) (by omega) z2.size ?_; intro v3 p3w o3 hg3; have z3 := own_grown z2 o2 z2.size hg3; have C3 := (BX.below z3).seven.2.2.1))
              all_goals
                have HT := Lib.hid (And.intro (own_ins (A := []) (B := []) (x := x) o3 rfl rfl Z6.out.1.size (Z6.out.1.trans (z3.mono Z6.out.1.size))) (ext_trans Z6.out.2 z3))
                clear o1 o2 o3 hg1 hg2 hg3
                go_wp2_with fail
                go_roundw
                case rel =>
                  have hr2 : TuRel w w2 L us v3 (.int .i64 ((j : Int) + 1)) p3w := ⟨j + 1, by omega, by simp, by rw [HXJ.out, HS0.out]; exact HT.out.1, fun h => by rw [HXJ.out] at h; unfold insB at h; simp at h, HT.out.2⟩
                  first | exact hr2 | ((repeat apply Exists.intro); exact ⟨hr2, rfl⟩)
                case measure => simp [intOf]; omega
          · have hq0 : 0 < s.length := List.length_pos_iff.2 hs0
            obtain ⟨A5, c3, rfl⟩ := own_shape hO4.1
            have hqc := own_cap hO4.1
            obtain ⟨g, rfl, hR⟩ := RowW.of_own (d := s.toArray) (w0 := w) hO4.1 hq0 (by simp) hO4.2
            have H4 := Lib.hid (And.intro hR hb4)
            obtain ⟨q, hq⟩ : ∃ q, s.length = q := ⟨_, rfl⟩
            rw [hq] at hq0 hqc hsl H4 ⊢
            have HQ := Lib.hid hq
            clear hO4 hb4 hR hnil3 hs0 hq
            go_wp2_with fail
            generalize hgx : wr.heap.size = gx at BX0 ⊢
            generalize hwx : wr.alloc (.cells (List.toArray [.int .i64 x.tick, .int .i64 x.packet.id, .int .i64 x.packet.source, .int .i64 x.packet.dest, .int .i64 x.packet.port, .int .i64 x.packet.mark, .int .i64 x.packet.size]) 58) = wx0 at *
            go_loopw [10] (TkRel wx0 s x) (fun i _ => (intOf i).toNat)
            case atStart => exact ⟨q, by rw [HQ.out]; exact Nat.le_refl _, rfl, fun r y h1 h2 => absurd (List.getElem?_eq_some_iff.1 h2).1 (by rw [HQ.out]; omega), ext_refl _⟩
            case round =>
              obtain ⟨k, hk, rfl, hgt, hb5⟩ := hrel
              rw [HQ.out] at hk
              have R5 := Lib.hid (And.intro (H4.out.1.below hb5) (ext_trans H4.out.2 hb5))
              have BX5 := BX0.below hb5
              have HGT := Lib.hid (And.intro hgt hb5)
              clear hgx BX0 H4 hb5 hgt hwx u0 u1 u2 u3 u4 u5 u6
              obtain ⟨y, hy⟩ : ∃ y, s.toArray[k - 1]! = y := ⟨_, rfl⟩
              obtain ⟨bb, hbb⟩ : ∃ bb : Bool, bb = (decide (0 < k) && decide (x.tick < y.tick)) := ⟨_, rfl⟩
              go_upto_region 9 with fail
              go_cut [10, 40] (fun s10 s40 wx => s10 = .int .i64 k ∧ s40 = .bool bb ∧ Below wr.heap.size wr wx)
              case first =>
                by_cases hk0 : k = 0
                · have HBB := Lib.hid (show bb = false by rw [hbb, hk0]; rfl)
                  subst hk0
                  clear hbb
                  go_wp2_with fail
                  refine wp_region_grow (by kernel_rfl) (by kernel_rfl) ?_
                  intro S hne hkS ho
                  repeat (go_big_quiet_step (fail))
                  refine wpQuiet_nil ?_
                  rintro _ ⟨sw, rfl⟩
                  have hb6 := ho sw
                  generalize sw.W = w9 at *
                  clear ho hkS hne
                  clear sw S
                  go_wp2_with fail
                  go_meet
                  exact ⟨rfl, by rw [HBB.out], hb6⟩
                · obtain ⟨r, hr9⟩ : ∃ r, r + 1 = k := ⟨k - 1, by omega⟩
                  have hy2 : s.toArray[r]! = y := by rw [← hy]; congr 1; omega
                  have g0 : decide (0 < k) = true := by simp; omega
                  have g1 : 0 < k := by omega
                  have g2 : (0 : Int) < (k : Int) := by omega
                  have hw : IntKind.i64.wrap ((k : Int) - 1) = (r : Int) := by rw [IntKind.wrap_i64]; omega
                  have hrq : r < q := by omega
                  have hrz : (r : Int) < (q : Int) := by omega
                  have HBB := Lib.hid (show bb = decide (x.tick < y.tick) by rw [hbb, g0]; rfl)
                  clear hbb hy hr9 hk0
                  go_wp2_with fail
                  refine wp_region_grow (by kernel_rfl) (by kernel_rfl) ?_
                  intro S hne hkS ho
                  have cy : ∀ sw : InC S, sw.W.cell? ⟨g, r * 7, none⟩ = some (.int .i64 y.tick) := fun sw => (R5.out.1.below (ho sw)).at_ hrq hy2 0 (by decide)
                  have cx : ∀ sw : InC S, sw.W.cell? ⟨gx, 0, none⟩ = some (.int .i64 x.tick) := fun sw => (BX5.below (ho sw)).cell 0
                  repeat (go_big_quiet_step (fail))
                  refine wpQuiet_nil ?_
                  rintro _ ⟨sw, rfl⟩
                  have hb6 := ho sw
                  clear cy cx
                  generalize sw.W = w9 at *
                  clear ho hkS hne
                  clear sw S
                  go_wp2_with fail
                  go_meet
                  exact ⟨rfl, by rw [HBB.out], hb6⟩
              case rest =>
              obtain ⟨rfl, rfl, hb6⟩ := hcut
              have R6 := Lib.hid (And.intro (R5.out.1.below hb6) (ext_trans R5.out.2 hb6))
              have BX := BX5.below hb6
              have HB6 := Lib.hid (ext_trans HGT.out.2 hb6)
              clear R5 BX5 hb6
              cases bb with
              | true =>
                obtain ⟨k0, hxy⟩ : 0 < k ∧ x.tick < y.tick := by simpa using hbb.symm
                obtain ⟨r, hr9⟩ : ∃ r, r + 1 = k := ⟨k - 1, by omega⟩
                have hw : IntKind.i64.wrap ((k : Int) - 1) = (r : Int) := by rw [IntKind.wrap_i64]; omega
                have HK := Lib.hid (And.intro hr9 (And.intro hy hxy))
                clear hbb hr9 hy k0
                go_wp2_with fail
                go_roundw
                case rel =>
                  have hr2 : TkRel wx0 s x (.int .i64 (r : Int)) wc := by
                    have hk9 := HK.out
                    refine ⟨r, by rw [HQ.out]; omega, rfl, fun r' y' h1 h2 => ?_, HB6.out⟩
                    by_cases he : r' = r
                    · subst he
                      have h3 : s.toArray[k - 1]! = y' := by
                        rw [show k - 1 = r' by omega, getElem!_pos _ _ (by simpa using (List.getElem?_eq_some_iff.1 h2).1)]
                        simpa using (List.getElem?_eq_some_iff.1 h2).2
                      rw [← h3, hk9.2.1]; exact hk9.2.2
                    · exact HGT.out.1 r' y' (by omega) h2
                  first | exact hr2 | ((repeat apply Exists.intro); exact ⟨hr2, rfl⟩)
                case measure => have := HK.out.1; simp [intOf]; omega
              | false =>
                have hfin : insB tkey x s = s.take k ++ x :: s.drop k := by
                  refine ins_at HSO.out HGT.out.1 (fun y' h1 h2 => ?_) (by rw [HQ.out]; exact hk)
                  have h3 : s.toArray[k - 1]! = y' := by
                    rw [getElem!_pos _ _ (by simpa using (List.getElem?_eq_some_iff.1 h2).1)]
                    simpa using (List.getElem?_eq_some_iff.1 h2).2
                  rw [← h3, hy]
                  rw [decide_eq_true h1, Bool.true_and] at hbb
                  exact Int.not_lt.1 (of_decide_eq_false hbb.symm)
                have HFIN := Lib.hid hfin
                generalize wc = wa at *
                have hrd := Rd.of_own R6.out.1.own
                have htk : Rd wa 7 (some ⟨g, 0, none⟩) k ((s.take k).flatMap encTimed) := Rd.take_ (by simpa using hrd) HQ.out hk
                have hdr : Rd wa 7 (if c3 = k then some ⟨g, 0, none⟩ else some ⟨g, k * 7, none⟩) (q - k) ((s.drop k).flatMap encTimed) := by
                  split
                  · refine ⟨by rw [flat_len encTimed 7 encTimed_len, List.length_drop, HQ.out], fun h0 => ?_⟩
                    omega
                  · have h := Rd.drop_ (l := s) (by simpa using hrd) HQ.out hk
                    rwa [Nat.zero_add] at h
                have HAB := Lib.hid (show (s.take k).length = k ∧ (s.drop k).length = q - k from ⟨by rw [List.length_take, HQ.out]; omega, by rw [List.length_drop, HQ.out]⟩)
                have hkz : (k : Int) ≤ (q : Int) := by omega
                have hkc : (k : Int) ≤ (c3 : Int) := by omega
                have hkc2 : k ≤ c3 := by omega
                have hqcz : (q : Int) ≤ (c3 : Int) := by omega
                have Z6 := Lib.hid (And.intro R6.out.1.ext R6.out.2)
                clear hbb hfin hrd hy R6 HGT HB6
                go_wp2_with fail
                have ZE := (ext_alloc (ext_refl wa) (.cells #[] 58)).drew
                have ZX := (ext_alloc (ext_refl wa) (.cells #[.int .i64 x.tick, .int .i64 x.packet.id, .int .i64 x.packet.source, .int .i64 x.packet.dest, .int .i64 x.packet.port, .int .i64 x.packet.mark, .int .i64 x.packet.size] 58)).drew
                have ZEX := (ext_alloc (ext_alloc (ext_refl wa) (.cells #[] 58)) (.cells #[.int .i64 x.tick, .int .i64 x.packet.id, .int .i64 x.packet.source, .int .i64 x.packet.dest, .int .i64 x.packet.port, .int .i64 x.packet.mark, .int .i64 x.packet.size] 58)).drew
                have ZXE := (ext_alloc (ext_alloc (ext_refl wa) (.cells #[.int .i64 x.tick, .int .i64 x.packet.id, .int .i64 x.packet.source, .int .i64 x.packet.dest, .int .i64 x.packet.port, .int .i64 x.packet.mark, .int .i64 x.packet.size] 58)) (.cells #[] 58)).drew
                have OA := (World.ownsRow_made (size := 7) (e := 58) wa #[] 0 (Nat.le_refl _) (by unfold maxLen; omega) (by simp)).drew
                have OB := ((World.ownsRow_made (size := 7) (e := 58) wa #[] 0 (Nat.le_refl _) (by unfold maxLen; omega) (by simp)).alloc (.cells #[.int .i64 x.tick, .int .i64 x.packet.id, .int .i64 x.packet.source, .int .i64 x.packet.dest, .int .i64 x.packet.port, .int .i64 x.packet.mark, .int .i64 x.packet.size] 58)).drew
                have OG0 := (own_base (World.ownsRow_made (size := 7) (e := 58) (wa.alloc (.cells #[.int .i64 x.tick, .int .i64 x.packet.id, .int .i64 x.packet.source, .int .i64 x.packet.dest, .int .i64 x.packet.port, .int .i64 x.packet.mark, .int .i64 x.packet.size] 58)) #[] 0 (Nat.le_refl _) (by unfold maxLen; omega) (by simp)) (show wa.heap.size ≤ (wa.alloc (.cells #[.int .i64 x.tick, .int .i64 x.packet.id, .int .i64 x.packet.source, .int .i64 x.packet.dest, .int .i64 x.packet.port, .int .i64 x.packet.mark, .int .i64 x.packet.size] 58)).heap.size by simp)).drew
                have OG : ((wa.alloc (.cells #[.int .i64 x.tick, .int .i64 x.packet.id, .int .i64 x.packet.source, .int .i64 x.packet.dest, .int .i64 x.packet.port, .int .i64 x.packet.mark, .int .i64 x.packet.size] 58)).alloc (.cells #[] 58)).drew.ownsRow wa.heap.size 58 7 (.slice (some ⟨wa.heap.size + 1, 0, none⟩) 0 0) 0 [] := (show (wa.alloc (.cells #[.int .i64 x.tick, .int .i64 x.packet.id, .int .i64 x.packet.source, .int .i64 x.packet.dest, .int .i64 x.packet.port, .int .i64 x.packet.mark, .int .i64 x.packet.size] 58)).heap.size = wa.heap.size + 1 by simp) ▸ OG0
                have XB0 : Blk ((wa.alloc (.cells #[] 58)).alloc (.cells #[.int .i64 x.tick, .int .i64 x.packet.id, .int .i64 x.packet.source, .int .i64 x.packet.dest, .int .i64 x.packet.port, .int .i64 x.packet.mark, .int .i64 x.packet.size] 58)).drew (wa.heap.size + 1) 58 [.int .i64 x.tick, .int .i64 x.packet.id, .int .i64 x.packet.source, .int .i64 x.packet.dest, .int .i64 x.packet.port, .int .i64 x.packet.mark, .int .i64 x.packet.size] := (show (wa.alloc (.cells #[] 58)).heap.size = wa.heap.size + 1 by simp) ▸ (Blk.new (wa.alloc (.cells #[] 58)) 58 [.int .i64 x.tick, .int .i64 x.packet.id, .int .i64 x.packet.source, .int .i64 x.packet.dest, .int .i64 x.packet.port, .int .i64 x.packet.mark, .int .i64 x.packet.size]).drew
                have XG0 := ((Blk.new wa 58 [.int .i64 x.tick, .int .i64 x.packet.id, .int .i64 x.packet.source, .int .i64 x.packet.dest, .int .i64 x.packet.port, .int .i64 x.packet.mark, .int .i64 x.packet.size]).alloc (.cells #[] 58)).drew
                have C0 := BX.seven.2.2.1
                have CD := BX.drew.seven.2.2.1
                have CE := (BX.below ZE).seven.2.2.1
                have CX := (BX.below ZX).seven.2.2.1
                have CEX := (BX.below ZEX).seven.2.2.1
                have CXE := (BX.below ZXE).seven.2.2.1
                go_region_held3 (fun w' => w'.cell? ⟨gx, 0, none⟩ = some (.int .i64 x.tick) ∧ w'.cell? ⟨gx, 1, none⟩ = some (.int .i64 x.packet.id) ∧ w'.cell? ⟨gx, 2, none⟩ = some (.int .i64 x.packet.source) ∧ w'.cell? ⟨gx, 3, none⟩ = some (.int .i64 x.packet.dest) ∧ w'.cell? ⟨gx, 4, none⟩ = some (.int .i64 x.packet.port) ∧ w'.cell? ⟨gx, 5, none⟩ = some (.int .i64 x.packet.mark) ∧ w'.cell? ⟨gx, 6, none⟩ = some (.int .i64 x.packet.size))
                  (first | with_reducible exact C3 | with_reducible exact C2 | with_reducible exact C1A | with_reducible exact C1 | with_reducible exact CEX | with_reducible exact CXE | with_reducible exact CE | with_reducible exact CX | with_reducible exact CD | with_reducible exact C0)
                  (first
                  | (refine step_append_rd (v := .slice (some ⟨wa.heap.size, 0, none⟩) 0 0) (size := 7) (bytes := 56) (base := wa.heap.size) rfl (.tmp 43) (.tmp 46) rfl Try.underlying42 hi hz0 hz1 hz2 rfl (by decide) rfl OA (some ⟨g, 0, none⟩) k c3 ((s.take k).flatMap encTimed) rfl ((htk).below ZE) (timeds_one _) (by unfold maxLen; omega) (by omega) (by simp) ?_; intro v1 p1w o1 hg1; have z1 := own_grown ZE OA ZE.size hg1; have mA := z1; have C1 := (BX.below z1).seven.2.2.1; have C1A := (BX.below (ext_alloc z1 (.cells #[.int .i64 x.tick, .int .i64 x.packet.id, .int .i64 x.packet.source, .int .i64 x.packet.dest, .int .i64 x.packet.port, .int .i64 x.packet.mark, .int .i64 x.packet.size] 58))).seven.2.2.1)
                  | (refine step_append_rd (v := .slice (some ⟨wa.heap.size, 0, none⟩) 0 0) (size := 7) (bytes := 56) (base := wa.heap.size) rfl (.tmp 43) (.tmp 46) rfl Try.underlying42 hi hz0 hz1 hz2 rfl (by decide) rfl OB (some ⟨g, 0, none⟩) k c3 ((s.take k).flatMap encTimed) rfl ((htk).below ZEX) (timeds_one _) (by unfold maxLen; omega) (by omega) (by simp; omega) ?_; intro v1 p1w o1 hg1; have z1 := own_grown ZEX OB ZEX.size hg1; have XB := XB0.grown hg1 (by simp [Value.ownBlock]); have C1 := (BX.below z1).seven.2.2.1)
                  | (refine step_append_rd (v := .slice (some ⟨wa.heap.size + 1, 0, none⟩) 0 0) (size := 7) (bytes := 56) (base := wa.heap.size) rfl (.tmp 43) (.tmp 46) rfl Try.underlying42 hi hz0 hz1 hz2 rfl (by decide) rfl OG (some ⟨g, 0, none⟩) k c3 ((s.take k).flatMap encTimed) rfl ((htk).below ZXE) (timeds_one _) (by unfold maxLen; omega) (by omega) (by simp; omega) ?_; intro v1 p1w o1 hg1; have z1 := own_grown ZXE OG ZXE.size hg1; have XG := XG0.grown hg1 (by simp [Value.ownBlock]); have C1 := (BX.below z1).seven.2.2.1)
                  | (have q1 := mA; refine step_append_rd (v := v1) (size := 7) (bytes := 56) (base := wa.heap.size) rfl (.tmp 47) (.tmp 49) rfl Try.underlying42 hi hz0 hz1 hz2 rfl (by decide) rfl (o1.alloc (.cells #[.int .i64 x.tick, .int .i64 x.packet.id, .int .i64 x.packet.source, .int .i64 x.packet.dest, .int .i64 x.packet.port, .int .i64 x.packet.mark, .int .i64 x.packet.size] 58)) (some ⟨p1w.heap.size, 0, none⟩) 1 1 [.int .i64 x.tick, .int .i64 x.packet.id, .int .i64 x.packet.source, .int .i64 x.packet.dest, .int .i64 x.packet.port, .int .i64 x.packet.mark, .int .i64 x.packet.size] rfl (Rd.of_blk (Blk.new p1w 58 [.int .i64 x.tick, .int .i64 x.packet.id, .int .i64 x.packet.source, .int .i64 x.packet.dest, .int .i64 x.packet.port, .int .i64 x.packet.mark, .int .i64 x.packet.size]) rfl) (timeds_one [x]) (by unfold maxLen; omega) (by omega) (by have := z1.size; simp; omega) ?_; intro v2 p2w o2 hg2; have z2 := own_grown (ext_alloc z1 (.cells #[.int .i64 x.tick, .int .i64 x.packet.id, .int .i64 x.packet.source, .int .i64 x.packet.dest, .int .i64 x.packet.port, .int .i64 x.packet.mark, .int .i64 x.packet.size] 58)) (o1.alloc (.cells #[.int .i64 x.tick, .int .i64 x.packet.id, .int .i64 x.packet.source, .int .i64 x.packet.dest, .int .i64 x.packet.port, .int .i64 x.packet.mark, .int .i64 x.packet.size] 58)) (by have := z1.size; simp; omega) hg2; have C2 := (BX.below z2).seven.2.2.1)
                  | (have q2 := XB; refine step_append_rd (v := v1) (size := 7) (bytes := 56) (base := wa.heap.size) rfl (.tmp 47) (.tmp 49) rfl Try.underlying42 hi hz0 hz1 hz2 rfl (by decide) rfl o1 (some ⟨wa.heap.size + 1, 0, none⟩) 1 1 [.int .i64 x.tick, .int .i64 x.packet.id, .int .i64 x.packet.source, .int .i64 x.packet.dest, .int .i64 x.packet.port, .int .i64 x.packet.mark, .int .i64 x.packet.size] rfl (Rd.of_blk XB rfl) (timeds_one [x]) (by unfold maxLen; omega) (by omega) z1.size ?_; intro v2 p2w o2 hg2; have z2 := own_grown z1 o1 z1.size hg2; have C2 := (BX.below z2).seven.2.2.1)
                  | (have q3 := XG; refine step_append_rd (v := v1) (size := 7) (bytes := 56) (base := wa.heap.size) rfl (.tmp 47) (.tmp 49) rfl Try.underlying42 hi hz0 hz1 hz2 rfl (by decide) rfl o1 (some ⟨wa.heap.size, 0, none⟩) 1 1 [.int .i64 x.tick, .int .i64 x.packet.id, .int .i64 x.packet.source, .int .i64 x.packet.dest, .int .i64 x.packet.port, .int .i64 x.packet.mark, .int .i64 x.packet.size] rfl (Rd.of_blk XG rfl) (timeds_one [x]) (by unfold maxLen; omega) (by omega) z1.size ?_; intro v2 p2w o2 hg2; have z2 := own_grown z1 o1 z1.size hg2; have C2 := (BX.below z2).seven.2.2.1)
                  | (refine step_append_rd (v := v2) (size := 7) (bytes := 56) (base := wa.heap.size) rfl (.tmp 50) (.tmp 53) rfl Try.underlying42 hi hz0 hz1 hz2 rfl (by decide) rfl o2 (if c3 = k then some ⟨g, 0, none⟩ else some ⟨g, k * 7, none⟩) (q - k) (c3 - k) ((s.drop k).flatMap encTimed) rfl ((hdr).below z2) (timeds_one _) (by unfold maxLen; omega) (by omega) z2.size ?_; intro v3 p3w o3 hg3; have z3 := own_grown z2 o2 z2.size hg3; have C3 := (BX.below z3).seven.2.2.1))
                all_goals
                  have HT := Lib.hid (And.intro (own_ins (A := s.take k) (B := s.drop k) (x := x) o3 HAB.out.1 HAB.out.2 Z6.out.1.size (Z6.out.1.trans (z3.mono Z6.out.1.size))) (ext_trans Z6.out.2 z3))
                  clear o1 o2 o3 hg1 hg2 hg3
                  go_wp2_with fail
                  go_roundw
                  case rel =>
                    have hr2 : TuRel w w2 L us v3 (.int .i64 ((j : Int) + 1)) p3w := ⟨j + 1, by omega, by simp, by rw [HXJ.out, HFIN.out]; exact HT.out.1, fun h => by rw [HXJ.out, HFIN.out] at h; simp at h, HT.out.2⟩
                    first | exact hr2 | ((repeat apply Exists.intro); exact ⟨hr2, rfl⟩)
                  case measure => simp [intOf]; omega
        · obtain rfl : j = us.length := by omega
          have jz : ¬ (us.length : Int) < (us.length : Int) := by omega
          rw [List.take_of_length_le (Nat.le_refl _)] at hO3 hnil3
          have H4 := Lib.hid (And.intro hO3 hnil3)
          clear hO3 hnil3 hb3
          go_wp2_with fail
          go_roundw
          case rel =>
            have hr2 : TmRel w n xs t _ (.int .i64 ((k1 : Int) + 1)) wr := ⟨k1 + 1, by omega, by simp, by rw [HS.out]; exact H4.out.1, by rw [HS.out]; exact H4.out.2⟩
            first | exact hr2 | ((repeat apply Exists.intro); exact ⟨hr2, rfl⟩)
          case measure => simp [intOf]; omega
    · obtain rfl : k1 = n := by omega
      have kz : ¬ (k1 : Int) < (k1 : Int) := by omega
      have hlen := mgL_len (t := t) xs
      rw [List.take_of_length_le (by rw [HL.out]; exact Nat.le_refl _)] at hO
      have hlN : (mgL xs t).length ≤ 360 := by have := HL.out; omega
      generalize mgL xs t = L at *
      obtain ⟨N, hN⟩ : ∃ N, N = (srt tkey L).length := ⟨_, rfl⟩
      unfold OwnT at hO
      rw [srt_len] at hN
      rw [srt_len, ← hN] at hO
      rw [← hN] at hlN
      obtain ⟨A4, c4, rfl⟩ := own_shape hO.1
      have hcN := own_cap hO.1
      obtain ⟨K, hK, hKN, hKv⟩ : ∃ K : Nat, (K = min N 60) ∧ K ≤ N ∧ ((N ≤ 60 ∧ K = N) ∨ (60 < N ∧ K = 60)) := ⟨min N 60, rfl, by omega, by omega⟩
      have hKl : ((srt tkey L).take K).length = K := by rw [List.length_take, srt_len]; omega
      have hfin : (srt tkey L).take 60 = (srt tkey L).take K := by
        rcases hKv with ⟨h1, h2⟩ | ⟨h1, h2⟩
        · rw [List.take_of_length_le (l := srt tkey L) (by rw [srt_len]; omega), List.take_of_length_le (l := srt tkey L) (by rw [srt_len]; omega)]
        · rw [h2]
      have hot := own_take hO.1 (by rw [srt_len]; exact hN.symm) hKN
      have HFIN := Lib.hid hfin
      generalize (srt tkey L).take K = l at *
      obtain rfl := hKl
      have H4 := Lib.hid (And.intro hot hO.2)
      have hl60 : l.length ≤ 60 := by omega
      have hKc : (l.length : Int) ≤ (c4 : Int) := by omega
      have hKc2 : l.length ≤ c4 := by omega
      have hls := least_any N l.length wr hKv
      clear hO hN hnil hot hfin hK hlen HL HOK
      go_wp2_with (go_at_call 78; refine hls.mono ?_; rintro e w' ⟨rfl, rfl⟩)
      go_loopw [64] (MiRel w A4 c4 l) (fun i _ => l.length - (intOf i).toNat)
      case atStart => exact ⟨0, Nat.zero_le _, rfl, by rw [idTo_zero]; exact H4.out.1, H4.out.2⟩
      case round =>
        clear H4
        obtain ⟨k2, hk2, rfl, ho, hbw⟩ := hrel
        by_cases hlt2 : k2 < l.length
        · have kz2 : (k2 : Int) < (l.length : Int) := by omega
          have hil := idTo_len k2 l hk2
          obtain ⟨g, rfl, hR⟩ := RowW.of_own (d := (idTo k2 l).toArray) (w0 := w) ho (by omega) (by simpa using hil) hbw
          have hx : (idTo k2 l).toArray[k2]! = l[k2] := by
            have h1 := idTo_get hlt2
            obtain ⟨h3, h4⟩ := List.getElem?_eq_some_iff.1 h1
            rw [getElem!_pos _ _ (by simpa using h3)]
            simpa using h4
          have hR2 := hR.put1 hlt2 hx
          have hset : (((idTo k2 l).toArray).setIfInBounds k2 (idAt k2 l[k2])).toList = idTo (k2 + 1) l := by rw [Array.toList_setIfInBounds]; exact idTo_succ hlt2
          have hc1 := (hR.seven hlt2 hx).2.1
          have hf1 := (hR.froz k2).2.1
          have HR2 := Lib.hid (And.intro hR2 hset)
          have k60 : k2 < 60 := by omega
          clear ho hR hx hR2 hset hil hbw
          go_wp2_with fail
          go_roundw
          case rel =>
            have hr2 : MiRel w (some ⟨g, 0, none⟩) c4 l (.int .i64 ((k2 : Int) + 1)) (wr.setCell ⟨g, k2 * 7 + 1, none⟩ (.int .i64 ((k2 : Int) + 1))) := by
              have h1 := HR2.out.1.own
              rw [HR2.out.2] at h1
              exact ⟨k2 + 1, by omega, by simp, h1, HR2.out.1.ext⟩
            first | exact hr2 | ((repeat apply Exists.intro); exact ⟨hr2, rfl⟩)
          case measure => simp [intOf]; omega
        · obtain rfl : k2 = l.length := by omega
          have kz2 : ¬ (l.length : Int) < (l.length : Int) := by omega
          rw [idTo_all] at ho
          have HO := Lib.hid (And.intro ho hbw)
          clear ho hbw
          go_wp2_with fail
          go_ret
          rw [HFIN.out]
          have h1 := HO.out.1
          have e := renum_len l
          generalize renum l = rl at *
          rw [← e] at h1 ⊢
          exact ⟨A4, c4, rfl, h1, HO.out.2⟩
end Go.Proofs.Ytnnihiajggdplaa
