/- Timed packets: the stable sort over a row of the call's own, slices.Clone, the numbering. No condition. -/
import Derived.Test.YtnnihiajggdplaaTrZf
namespace Go.Proofs.Ytnnihiajggdplaa
open Go.RowKit Go.Sort

theorem insSort_zero (A : Option Addr) (c : Nat) (w : World) : Calls Try.prog 83 #[.slice A 0 c, .int .i64 0, .int .i64 0, .func (.func 63) #[] #[]] w fun e w' => e = .returned (.tuple #[]) ∧ w = w' := by
  go_enter Try.func83, Try.ntmps83
  go_wp2_with fail
  go_loopw [8] (fun i wr => i = .int .i64 1 ∧ w = wr) (fun _ _ => 0)
  case atStart => exact ⟨rfl, rfl⟩
  case round =>
    obtain ⟨rfl, rfl⟩ := hrel
    go_wp2_with fail
    go_end0
    exact ⟨rfl, rfl⟩
theorem stable_zero (A : Option Addr) (c : Nat) (w : World) : Calls Try.prog 79 #[.slice A 0 c, .int .i64 0, .func (.func 63) #[] #[]] w fun e w' => e = .returned (.tuple #[]) ∧ w = w' := by
  have hc := insSort_zero A c w
  go_enter Try.func79, Try.ntmps79
  go_wp2_with fail
  go_loopw [7, 8] (fun a b wr => a = .int .i64 0 ∧ b = .int .i64 20 ∧ w = wr) (fun _ _ _ => 0)
  case atStart => exact ⟨rfl, rfl, rfl⟩
  case round =>
    obtain ⟨rfl, rfl, rfl⟩ := hrel
    go_wp2_with fail
    refine hc.mono ?_; rintro e w1 ⟨rfl, rfl⟩
    go_wp2_with fail
    go_loopw [6, 7, 8, 9] (fun a _ _ _ wr => a = .int .i64 20 ∧ w = wr) (fun _ _ _ _ _ => 0)
    case atStart => exact ⟨rfl, rfl⟩
    case round =>
      obtain ⟨rfl, rfl⟩ := hrel
      go_wp2_with fail
      go_end0
      exact ⟨rfl, rfl⟩
theorem sortStable_own (w0 : World) (base N c : Nat) (A : Option Addr) (L : List Timed) (W : World) (h : W.ownsRow base 58 7 (.slice A N c) N (L.flatMap encTimed)) (hl : L.length = N) (he : Below base w0 W) (hN : N ≤ 100000) :
    Calls Try.prog 62 #[.slice A N c, .func (.func 63) #[] #[]] W fun e w' => e = .returned (.tuple #[]) ∧ w'.ownsRow base 58 7 (.slice A N c) N ((srt tkey L).flatMap encTimed) ∧ Below base w0 w' := by
  rcases Nat.eq_zero_or_pos N with h0 | h0
  · subst h0
    obtain rfl := List.eq_nil_of_length_eq_zero hl
    have hc := stable_zero A c W
    have HH := Lib.hid (And.intro h he)
    clear h he
    go_enter Try.func62, Try.ntmps62
    go_wp2_with fail
    refine hc.mono ?_; rintro e w1 ⟨rfl, rfl⟩
    go_wp2_with fail
    go_end0
    exact ⟨rfl, HH.out.1, HH.out.2⟩
  · obtain ⟨g, rfl, hR⟩ := RowW.of_own (d := L.toArray) (w0 := w0) h h0 (by simpa using hl) he
    have hc := stable_any w0 base g N c L.toArray W hR hN
    clear h hR
    go_enter Try.func62, Try.ntmps62
    go_wp2_with fail
    refine hc.mono ?_; rintro e w1 ⟨rfl, d1, hR1, hd1⟩
    have H1 := Lib.hid (And.intro hR1 hd1)
    clear hc hR1 hd1
    go_wp2_with fail
    go_end0
    refine ⟨rfl, ?_, H1.out.1.ext⟩
    have h2 := H1.out.1.own
    rw [H1.out.2] at h2
    exact h2
theorem timeds_one (l : List Timed) : ∀ u ∈ l.flatMap encTimed, u.oneCell' = true := by
  intro u hu
  obtain ⟨x, _, hx⟩ := List.mem_flatMap.1 hu
  simp [encTimed] at hx
  rcases hx with rfl | rfl | rfl | rfl | rfl | rfl | rfl <;> rfl
theorem Rd.take_ {w : World} {A : Option Addr} {n k : Nat} {l : List Timed} (h : Rd w 7 A n (l.flatMap encTimed)) (hl : l.length = n) (hk : k ≤ n) : Rd w 7 A k ((l.take k).flatMap encTimed) := by
  have e : l.flatMap encTimed = (l.take k).flatMap encTimed ++ (l.drop k).flatMap encTimed := by rw [← List.flatMap_append, List.take_append_drop]
  refine ⟨by rw [flat_len encTimed 7 encTimed_len, List.length_take]; congr 1; omega, fun hk0 => ?_⟩
  obtain ⟨b, o, hA, hb, hc⟩ := h.2 (by omega)
  refine ⟨b, o, hA, hb, fun j u hu => hc j u ?_⟩
  rw [e, List.getElem?_append_left]
  · exact hu
  · exact (List.getElem?_eq_some_iff.1 hu).1
theorem Rd.drop_ {w : World} {b o n k : Nat} {l : List Timed} (h : Rd w 7 (some ⟨b, o, none⟩) n (l.flatMap encTimed)) (hl : l.length = n) (hk : k ≤ n) : Rd w 7 (some ⟨b, o + k * 7, none⟩) (n - k) ((l.drop k).flatMap encTimed) := by
  have e : l.flatMap encTimed = (l.take k).flatMap encTimed ++ (l.drop k).flatMap encTimed := by rw [← List.flatMap_append, List.take_append_drop]
  have l1 : ((l.take k).flatMap encTimed).length = k * 7 := by rw [flat_len encTimed 7 encTimed_len, List.length_take]; congr 1; omega
  refine ⟨by rw [flat_len encTimed 7 encTimed_len, List.length_drop, hl], fun hk0 => ?_⟩
  obtain ⟨b', o', hA, hb, hc⟩ := h.2 (by omega)
  injection hA with hA
  injection hA with e1 e2
  subst e1; subst e2
  refine ⟨b, o + k * 7, rfl, hb, fun j u hu => ?_⟩
  have := hc (k * 7 + j) u (by rw [e, List.getElem?_append_right (by omega), l1, Nat.add_sub_cancel_left]; exact hu)
  rwa [← Nat.add_assoc] at this

set_option maxHeartbeats 1000000 in
theorem cloneT_any (A : Option Addr) (n c : Nat) (l : List Timed) (w : World) (hn : n ≤ 1048576) (hl : l.length = n) (hr : Rd w 7 A n (l.flatMap encTimed)) :
    Calls Try.prog 65 #[.slice A n c] w (RetT 58 w l) := by
  obtain ⟨i0, hi, hz0, hz1, hz2⟩ := info_parts infoTimed
  have HL := Lib.hid hl
  cases A with
  | none =>
    obtain rfl : n = 0 := by
      rcases Nat.eq_zero_or_pos n with h | h
      · exact h
      · obtain ⟨b, o, he, _⟩ := hr.2 h; cases he
    have hx : l = [] := List.eq_nil_of_length_eq_zero hl
    subst hx
    have g0 := fun W => Lib.run_eql_slice_nil (P := Try.prog) W 42 58 none 0 c 0 0 Try.underlying42
    simp only [Option.isNone] at g0
    go_enter Try.func65, Try.ntmps65
    go_wp2_with fail
    go_ret
    exact ⟨none, 0, rfl, World.ownsRow_nil _ _ _ _, ext_refl w⟩
  | some ad =>
    have g0 := fun W => Lib.run_eql_slice_nil (P := Try.prog) W 42 58 (some ad) n c 0 0 Try.underlying42
    simp only [Option.isNone] at g0
    clear hl
    go_enter Try.func65, Try.ntmps65
    go_wp2_with (at_builtin; refine wpList_append_rd (size := 7) (bytes := 56) (base := w.heap.size) rfl (.tmp 5) (.tmp 6) rfl Try.underlying42 hi hz0 hz1 hz2 rfl (by decide) rfl (World.ownsRow_made w #[] 0 (Nat.le_refl _) (by unfold maxLen; omega) (by simp)) (some ad) n c (l.flatMap encTimed) rfl (hr.alloc _) (timeds_one l) ?clone1 ?clone2 ?clone3 ?_)
    case clone1 => unfold maxLen; omega
    case clone2 => omega
    case clone3 => simp
    intro v' w1 ho hg
    go_wp2_with fail
    go_ret
    have hO : OwnT w 58 v' l w1 := ⟨by rw [HL.out]; simpa using ho, (ext_alloc (ext_refl w) _).grown hg (by simp) (fun k hk => by simp [Value.ownBlock] at hk <;> omega)⟩
    exact retT_own hO

/-! ### The numbering -/
def idAt (i : Nat) (x : Timed) : Timed := ⟨x.tick, ⟨(i : Int) + 1, x.packet.source, x.packet.dest, x.packet.port, x.packet.mark, x.packet.size⟩⟩
def renum (l : List Timed) : List Timed := l.mapIdx idAt
def idTo (k : Nat) (l : List Timed) : List Timed := (renum l).take k ++ l.drop k
theorem idTo_zero (l : List Timed) : idTo 0 l = l := by simp [idTo]
theorem idTo_all (l : List Timed) : idTo l.length l = renum l := by unfold idTo; rw [List.take_of_length_le (by simp [renum]), List.drop_eq_nil_of_le (Nat.le_refl _), List.append_nil]
theorem renum_len (l : List Timed) : (renum l).length = l.length := by simp [renum]
theorem idTo_len (k : Nat) (l : List Timed) (hk : k ≤ l.length) : (idTo k l).length = l.length := by unfold idTo; rw [List.length_append, List.length_take, List.length_drop, renum_len]; omega
theorem idTo_get {k : Nat} {l : List Timed} (hk : k < l.length) : (idTo k l)[k]? = some l[k] := by
  unfold idTo
  rw [List.getElem?_append_right (by rw [List.length_take, renum_len]; omega), List.length_take, renum_len, List.getElem?_drop, show k + (k - min k l.length) = k by omega]
  exact List.getElem?_eq_getElem hk
theorem idTo_succ {k : Nat} {l : List Timed} (hk : k < l.length) : (idTo k l).set k (idAt k l[k]) = idTo (k + 1) l := by
  unfold idTo
  have l1 : ((renum l).take k).length = k := by rw [List.length_take, renum_len]; omega
  rw [List.set_append_right _ _ (by omega), l1, Nat.sub_self, List.drop_eq_getElem_cons hk, List.set_cons_zero, List.take_add_one]
  have : (renum l)[k]? = some (idAt k l[k]) := by unfold renum; rw [List.getElem?_mapIdx, List.getElem?_eq_getElem hk]; rfl
  rw [this]
  simp
theorem setRow_one {cs : List Value} {p : Nat} {x : Timed} (i : Nat) (hl : p + 7 ≤ cs.length) (hc : ∀ r, r < 7 → cs[p + r]? = (encTimed x)[r]?) : SetRow cs p (encTimed (idAt i x)) = cs.set (p + 1) (.int .i64 ((i : Int) + 1)) := by
  apply List.ext_getElem?
  intro j
  rw [setRow_get _ _ _ _ (show p + (encTimed (idAt i x)).length ≤ cs.length from hl)]
  have h7 : (encTimed (idAt i x)).length = 7 := rfl
  rw [h7, List.getElem?_set]
  by_cases hj : p ≤ j ∧ j < p + 7
  · rw [if_pos hj]
    obtain ⟨r, rfl⟩ := Nat.exists_eq_add_of_le hj.1
    rw [Nat.add_sub_cancel_left, hc r (by omega)]
    have hr : r < 7 := by omega
    have h3 : r = 0 ∨ r = 1 ∨ r = 2 ∨ r = 3 ∨ r = 4 ∨ r = 5 ∨ r = 6 := by omega
    rcases h3 with rfl | rfl | rfl | rfl | rfl | rfl | rfl
    · rw [if_neg (by omega)]; rfl
    · rw [if_pos rfl, if_pos (by omega)]; rfl
    · rw [if_neg (by omega)]; rfl
    · rw [if_neg (by omega)]; rfl
    · rw [if_neg (by omega)]; rfl
    · rw [if_neg (by omega)]; rfl
    · rw [if_neg (by omega)]; rfl
  · rw [if_neg hj, if_neg (by omega)]
theorem RowW.put1 {w0 W : World} {base g n c : Nat} {d : Array Timed} (h : RowW w0 base g n c d W) {i : Nat} (hi : i < n) {x : Timed} (hx : d[i]! = x) : RowW w0 base g n c (d.setIfInBounds i (idAt i x)) (W.setCell ⟨g, i * 7 + 1, none⟩ (.int .i64 ((i : Int) + 1))) := by
  obtain ⟨cs, hB, hl, ht⟩ := h.blk
  have hle := h.hnc
  have hbg := h.hbg
  have hcc : ∀ r, r < 7 → cs[i * 7 + r]? = (encTimed x)[r]? := fun r hr => by rw [← hB.cell]; exact h.at_ hi hx r hr
  have e := setRow_one i (show i * 7 + 7 ≤ cs.length by rw [hl]; omega) hcc
  refine ⟨⟨_, hB.set_ (i * 7 + 1) _, by rw [List.length_set, hl], ?_⟩, by rw [Array.size_setIfInBounds, h.len], h.hnc, h.hcm, h.hbg, h.ext.setCell (p := ⟨g, i * 7 + 1, none⟩) hbg _⟩
  rw [Array.toList_setIfInBounds, ← e]
  exact take_setRow encTimed_len (by rw [Array.length_toList, h.len]) hi ht (by rw [hl]; exact Nat.mul_le_mul_right 7 h.hnc)
end Go.Proofs.Ytnnihiajggdplaa
