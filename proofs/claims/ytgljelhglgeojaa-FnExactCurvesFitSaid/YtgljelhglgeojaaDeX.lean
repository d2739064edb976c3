/- The reference's times at which curves bend, and whether a sum fits; contracts. -/
import Derived.Test.YtgljelhglgeojaaDeW
namespace Go.Proofs.Ytgljelhglgeojaa
open Go.RowKit

theorem rd_take {w : World} {A : Option Addr} {n k : Nat} {l : List Int} (hr : Rd w 1 A n (l.map (Value.int .i64))) (hk : k ≤ n) : Rd w 1 A k ((l.take k).map (Value.int .i64)) := by
  have hl := hr.len1
  refine ⟨by simp; omega, fun hp => ?_⟩
  obtain ⟨b, o, hA, hb, hc⟩ := hr.2 (by omega)
  refine ⟨b, o, hA, hb, fun j u hu => hc j u ?_⟩
  rw [List.getElem?_map, List.getElem?_take] at hu
  rw [List.getElem?_map]
  split at hu
  · exact hu
  · cases hu
theorem rd_drop {w : World} {b o n k : Nat} {A : Option Addr} {l : List Int} (hr : Rd w 1 (some ⟨b, o, none⟩) n (l.map (Value.int .i64))) (hA : A = some ⟨b, o + k, none⟩ ∨ n ≤ k) : Rd w 1 A (n - k) ((l.drop k).map (Value.int .i64)) := by
  have hl := hr.len1
  refine ⟨by simp; omega, fun hp => ?_⟩
  rcases hA with rfl | hA
  · obtain ⟨b', o', he, hb, hc⟩ := hr.2 (by omega)
    injection he with he
    injection he with h1 h2
    subst h1; subst h2
    refine ⟨b, o + k, rfl, hb, fun j u hu => ?_⟩
    rw [Nat.add_assoc]
    refine hc (k + j) u ?_
    rw [List.getElem?_map, List.getElem?_drop] at hu
    rw [List.getElem?_map]
    exact hu
  · omega
def PutRel (w : World) (n : Nat) (i : Value) (wr : World) : Prop := ∃ k : Nat, k ≤ n ∧ i = .int .i64 k ∧ w = wr
/-- A row of ints that reads as a list with v and the elements of l. -/
def RetPut (w : World) (l : List Int) (v : Int) (e : Ending) (w' : World) : Prop :=
  ∃ (A' : Option Addr) (c' : Nat) (l' : List Int), e = .returned (.slice A' l'.length c') ∧ l'.length ≤ c' ∧ Rd w' 1 A' l'.length (l'.map (Value.int .i64)) ∧ (∀ u, u ∈ l' ↔ u ∈ l ∨ u = v) ∧ l'.length ≤ l.length + 1 ∧ Below w.heap.size w w'
theorem rd_nil {w : World} {A : Option Addr} : Rd w 1 A 0 [] := ⟨by simp, fun h => absurd h (Nat.lt_irrefl 0)⟩
theorem rd_nil2 {w : World} {A : Option Addr} {m : Nat} (h : m = 0) : Rd w 1 A m [] := by subst h; exact rd_nil
theorem rd_zero {w : World} {A : Option Addr} {cs : List Value} (h : cs = []) : Rd w 1 A 0 cs := by subst h; exact rd_nil
theorem mem_put {l : List Int} {k : Nat} {v : Int} : ∀ u, u ∈ l.take k ++ [v] ++ l.drop k ↔ u ∈ l ∨ u = v := by
  intro u
  have h : u ∈ l ↔ u ∈ l.take k ∨ u ∈ l.drop k := by rw [← List.mem_append, List.take_append_drop]
  rw [List.mem_append, List.mem_append, List.mem_singleton, h]
  constructor
  · rintro ((h | h) | h) <;> simp [h]
  · rintro ((h | h) | h) <;> simp [h]

set_option maxRecDepth 100000 in
set_option maxHeartbeats 4000000 in
theorem l1Put_any (A : Option Addr) (n c : Nat) (l : List Int) (v : Int) (w : World) (hn : n ≤ 1000) (hn0 : 0 < n) (hnc : n ≤ c) (hr : Rd w 1 A n (l.map (Value.int .i64))) :
    Calls Try.prog 91 #[.slice A n c, .int .i64 v] w (RetPut w l v) := by
  obtain ⟨i0, hi, hz0, hz1, hz2⟩ := info_parts infoInt
  have HL := Lib.hid hr.len1
  go_enter Try.func91, Try.ntmps91
  go_wp2_with fail
  go_loopw [5] (PutRel w n) (fun i _ => n - (intOf i).toNat)
  case atStart => exact ⟨0, Nat.zero_le _, rfl, rfl⟩
  case round =>
    obtain ⟨k, hk, rfl, rfl⟩ := hrel
    by_cases hlt : k < n
    · obtain ⟨b, o, u, rfl, hbl, hu, hcu⟩ := hr.int k hlt
      have HU := Lib.hid hu
      clear hu
      by_cases hless : u < v
      · go_wp2_with fail
        all_goals first | exact (show False by omega).elim | skip
        go_roundw
        case rel => exact ⟨k + 1, by omega, by go_num, rfl⟩
        case measure => simp [intOf]; omega
      · by_cases heq : u = v
        · have HE := Lib.hid heq
          subst heq
          go_wp2_with fail
          all_goals first | exact (show False by omega).elim | skip
          all_goals (go_ret; exact ⟨some ⟨b, o, none⟩, c, l, (show _ = Ending.returned (.slice (some ⟨b, o, none⟩) l.length c) by rw [HL.out]; rfl), by rw [HL.out]; exact hnc, by rw [HL.out]; exact hr, fun q => ⟨fun h => .inl h, fun h => h.elim id (fun e => by rw [e]; exact List.mem_of_getElem? HU.out)⟩, by omega, ext_refl w⟩)
        · have hne : (u == v) = false := by simpa using heq
          go_wp2_with (at_builtin; refine wpList_append_rd (size := 1) (bytes := 8) (base := w.heap.size) rfl (.tmp 34) (.tmp 37) rfl Try.underlying32 hi hz0 hz1 hz2 rfl (by decide) rfl (World.ownsRow_made w #[] 0 (Nat.le_refl _) (by unfold maxLen; omega) (by simp)) (some ⟨b, o, none⟩) k c ((l.take k).map (Value.int .i64)) rfl ((rd_take hr hk).alloc _) (ints_one _) ?a1q1 ?a1q2 ?a1q3 ?_)
          all_goals first | exact (show False by omega).elim | skip
          all_goals first | (unfold maxLen; omega) | omega | (simp; done) | skip
          intro v1 w1 o1 hg1
          have HO1 := Lib.hid o1
          have z1 : Below w.heap.size w w1 := (ext_alloc (ext_refl w) _).grown hg1 (by simp) (fun k hk => by simp [Value.ownBlock] at hk <;> omega)
          clear o1 hg1
          go_wp2_with (at_builtin; refine wpList_append_rd (size := 1) (bytes := 8) (base := w.heap.size) rfl (.tmp 39) (.tmp 41) rfl Try.underlying32 hi hz0 hz1 hz2 rfl (by decide) rfl (HO1.out.alloc _) (some ⟨w1.heap.size, 0, none⟩) 1 1 [.int .i64 v] rfl (Rd.of_blk (Blk.new w1 _ _) rfl) (by intro u hu; simp at hu; subst hu; rfl) ?b1q1 ?b1q2 ?b1q3 ?_)
          case b1q1 => unfold maxLen; omega
          case b1q2 => omega
          case b1q3 => have := z1.size; simp; omega
          intro v2 w2 o2 hg2
          have HO2 := Lib.hid o2
          have z2 := own_grown (ext_alloc z1 _) (HO1.out.alloc _) (by have := z1.size; simp; omega) hg2
          clear o2 hg2
          go_wp2_with (at_builtin; refine wpList_append_rd (size := 1) (bytes := 8) (base := w.heap.size) rfl (.tmp 43) (.tmp 46) rfl Try.underlying32 hi hz0 hz1 hz2 rfl (by decide) rfl HO2.out _ _ _ ((l.drop k).map (Value.int .i64)) rfl (rd_drop (hr.below z2) (by first | exact .inl rfl | exact .inr (by omega))) (ints_one _) ?c1q1 ?c1q2 ?c1q3 ?_)
          all_goals first | exact (show False by omega).elim | skip
          all_goals first | (unfold maxLen; omega) | omega | exact z2.size | skip
          all_goals
            intro v3 w3 o3 hg3
            have z3 := own_grown z2 HO2.out z2.size hg3
            have HO3 := Lib.hid o3
            clear o3 hg3
            go_wp2_with fail
            go_ret
            have e2 : (l.take k ++ [v] ++ l.drop k).length = k + 1 + (n - k) := by simp; have := HL.out; omega
            have h3 : w3.ownsRow w.heap.size 3 1 v3 (l.take k ++ [v] ++ l.drop k).length ((l.take k ++ [v] ++ l.drop k).map (Value.int .i64)) := by
              rw [e2]
              simpa using HO3.out
            obtain ⟨A3, c3, rfl⟩ := own_shape h3
            refine ⟨A3, c3, l.take k ++ [v] ++ l.drop k, rfl, ?_, Rd.of_own h3, mem_put, by rw [e2]; have := HL.out; omega, z3⟩
            rcases h3.2 with ⟨_, h0⟩ | ⟨g, cap, cur, hv, _, _, hcc, _⟩
            · omega
            · injection hv with _ _ hc; omega
    · obtain ⟨b, o, rfl, hbl, _⟩ := hr.2 hn0
      obtain rfl : k = n := by omega
      rcases Nat.eq_or_lt_of_le hnc with hck | hck
      · subst hck
        go_wp2_with (at_builtin; refine wpList_append_rd (size := 1) (bytes := 8) (base := w.heap.size) rfl (.tmp 34) (.tmp 37) rfl Try.underlying32 hi hz0 hz1 hz2 rfl (by decide) rfl (World.ownsRow_made w #[] 0 (Nat.le_refl _) (by unfold maxLen; omega) (by simp)) (some ⟨b, o, none⟩) k k ((l.take k).map (Value.int .i64)) rfl ((rd_take hr (Nat.le_refl _)).alloc _) (ints_one _) ?a2q1 ?a2q2 ?a2q3 ?_)
        all_goals first | exact (show False by omega).elim | skip
        all_goals first | (unfold maxLen; omega) | omega | (simp; done) | skip
        intro v1 w1 o1 hg1
        have HO1 := Lib.hid o1
        have z1 : Below w.heap.size w w1 := (ext_alloc (ext_refl w) _).grown hg1 (by simp) (fun k hk => by simp [Value.ownBlock] at hk <;> omega)
        clear o1 hg1
        go_wp2_with (at_builtin; refine wpList_append_rd (size := 1) (bytes := 8) (base := w.heap.size) rfl (.tmp 39) (.tmp 41) rfl Try.underlying32 hi hz0 hz1 hz2 rfl (by decide) rfl (HO1.out.alloc _) (some ⟨w1.heap.size, 0, none⟩) 1 1 [.int .i64 v] rfl (Rd.of_blk (Blk.new w1 _ _) rfl) (by intro u hu; simp at hu; subst hu; rfl) ?b2q1 ?b2q2 ?b2q3 ?_)
        case b2q1 => unfold maxLen; omega
        case b2q2 => omega
        case b2q3 => have := z1.size; simp; omega
        intro v2 w2 o2 hg2
        have HO2 := Lib.hid o2
        have z2 := own_grown (ext_alloc z1 _) (HO1.out.alloc _) (by have := z1.size; simp; omega) hg2
        clear o2 hg2
        go_wp2_with (at_builtin; refine wpList_append_rd (size := 1) (bytes := 8) (base := w.heap.size) rfl (.tmp 43) (.tmp 46) rfl Try.underlying32 hi hz0 hz1 hz2 rfl (by decide) rfl HO2.out _ 0 _ ((l.drop k).map (Value.int .i64)) rfl (rd_zero (by rw [List.drop_eq_nil_of_le (by rw [HL.out]; exact Nat.le_refl _)]; rfl)) (ints_one _) ?c2q1 ?c2q2 ?c2q3 ?_)
        all_goals first | exact (show False by omega).elim | skip
        all_goals first | (unfold maxLen; omega) | omega | exact z2.size | skip
        all_goals
          intro v3 w3 o3 hg3
          have z3 := own_grown z2 HO2.out z2.size hg3
          have HO3 := Lib.hid o3
          clear o3 hg3
          go_wp2_with fail
          go_ret
          have e2 : (l.take k ++ [v] ++ l.drop k).length = k + 1 + (k - k) := by simp; have := HL.out; omega
          have h3 : w3.ownsRow w.heap.size 3 1 v3 (l.take k ++ [v] ++ l.drop k).length ((l.take k ++ [v] ++ l.drop k).map (Value.int .i64)) := by
            rw [e2]
            have e5 : l.drop k = [] := List.drop_eq_nil_of_le (by rw [HL.out]; exact Nat.le_refl _)
            have e6 : List.drop k (l.map (Value.int .i64)) = [] := by rw [← List.map_drop, e5]; rfl
            rw [e5]; simpa [e6] using HO3.out
          obtain ⟨A3, c3, rfl⟩ := own_shape h3
          refine ⟨A3, c3, l.take k ++ [v] ++ l.drop k, rfl, ?_, Rd.of_own h3, mem_put, by rw [e2]; have := HL.out; omega, z3⟩
          rcases h3.2 with ⟨_, h0⟩ | ⟨g, cap, cur, hv, _, _, hcc, _⟩
          · omega
          · injection hv with _ _ hc; omega
      have hcn : ¬ c = k := by omega
      go_wp2_with (at_builtin; refine wpList_append_rd (size := 1) (bytes := 8) (base := w.heap.size) rfl (.tmp 34) (.tmp 37) rfl Try.underlying32 hi hz0 hz1 hz2 rfl (by decide) rfl (World.ownsRow_made w #[] 0 (Nat.le_refl _) (by unfold maxLen; omega) (by simp)) (some ⟨b, o, none⟩) k c ((l.take k).map (Value.int .i64)) rfl ((rd_take hr (Nat.le_refl _)).alloc _) (ints_one _) ?a3q1 ?a3q2 ?a3q3 ?_)
      all_goals first | exact (show False by omega).elim | skip
      all_goals first | (unfold maxLen; omega) | omega | (simp; done) | skip
      intro v1 w1 o1 hg1
      have HO1 := Lib.hid o1
      have z1 : Below w.heap.size w w1 := (ext_alloc (ext_refl w) _).grown hg1 (by simp) (fun k hk => by simp [Value.ownBlock] at hk <;> omega)
      clear o1 hg1
      go_wp2_with (at_builtin; refine wpList_append_rd (size := 1) (bytes := 8) (base := w.heap.size) rfl (.tmp 39) (.tmp 41) rfl Try.underlying32 hi hz0 hz1 hz2 rfl (by decide) rfl (HO1.out.alloc _) (some ⟨w1.heap.size, 0, none⟩) 1 1 [.int .i64 v] rfl (Rd.of_blk (Blk.new w1 _ _) rfl) (by intro u hu; simp at hu; subst hu; rfl) ?b3q1 ?b3q2 ?b3q3 ?_)
      case b3q1 => unfold maxLen; omega
      case b3q2 => omega
      case b3q3 => have := z1.size; simp; omega
      intro v2 w2 o2 hg2
      have HO2 := Lib.hid o2
      have z2 := own_grown (ext_alloc z1 _) (HO1.out.alloc _) (by have := z1.size; simp; omega) hg2
      clear o2 hg2
      go_wp2_with (at_builtin; refine wpList_append_rd (size := 1) (bytes := 8) (base := w.heap.size) rfl (.tmp 43) (.tmp 46) rfl Try.underlying32 hi hz0 hz1 hz2 rfl (by decide) rfl HO2.out _ 0 _ ((l.drop k).map (Value.int .i64)) rfl (rd_zero (by rw [List.drop_eq_nil_of_le (by rw [HL.out]; exact Nat.le_refl _)]; rfl)) (ints_one _) ?c3q1 ?c3q2 ?c3q3 ?_)
      all_goals first | exact (show False by omega).elim | skip
      all_goals first | (unfold maxLen; omega) | omega | exact z2.size | skip
      all_goals
        intro v3 w3 o3 hg3
        have z3 := own_grown z2 HO2.out z2.size hg3
        have HO3 := Lib.hid o3
        clear o3 hg3
        go_wp2_with fail
        go_ret
        have e2 : (l.take k ++ [v] ++ l.drop k).length = k + 1 + (k - k) := by simp; have := HL.out; omega
        have h3 : w3.ownsRow w.heap.size 3 1 v3 (l.take k ++ [v] ++ l.drop k).length ((l.take k ++ [v] ++ l.drop k).map (Value.int .i64)) := by
          rw [e2]
          have e5 : l.drop k = [] := List.drop_eq_nil_of_le (by rw [HL.out]; exact Nat.le_refl _)
          have e6 : List.drop k (l.map (Value.int .i64)) = [] := by rw [← List.map_drop, e5]; rfl
          rw [e5]; simpa [e6] using HO3.out
        obtain ⟨A3, c3, rfl⟩ := own_shape h3
        refine ⟨A3, c3, l.take k ++ [v] ++ l.drop k, rfl, ?_, Rd.of_own h3, mem_put, by rw [e2]; have := HL.out; omega, z3⟩
        rcases h3.2 with ⟨_, h0⟩ | ⟨g, cap, cur, hv, _, _, hcc, _⟩
        · omega
        · injection hv with _ _ hc; omega

def lensOf (cs : List Curve) : List Int := [0, 100000] ++ cs.map Curve.length
def TmRel (w : World) (n : Nat) (cs : List Curve) (v i : Value) (wr : World) : Prop :=
  ∃ (k : Nat) (A' : Option Addr) (c' : Nat) (l' : List Int), k ≤ n ∧ i = .int .i64 k ∧ v = .slice A' l'.length c' ∧ l'.length ≤ c' ∧ l'.length ≤ k + 2 ∧ Rd wr 1 A' l'.length (l'.map (Value.int .i64)) ∧ (∀ u, u ∈ l' ↔ u ∈ lensOf (cs.take k)) ∧ Below w.heap.size w wr
theorem lens_succ {cs : List Curve} {k : Nat} {x : Curve} (h : cs[k]? = some x) : ∀ u, u ∈ lensOf (cs.take (k + 1)) ↔ u ∈ lensOf (cs.take k) ∨ u = x.length := by
  intro u
  unfold lensOf
  rw [take_snoc h, List.map_append, ← List.append_assoc, List.mem_append (t := [x].map Curve.length)]
  simp
theorem infoCurve : (Try.prog.info? 37).map (fun i => (i.zero, i.size, i.bytes)) = some (some (.agg #[.int .i64 0, .int .i64 0, .int .i64 0]), 3, 24) := by kernel_rfl
def RetTm (w : World) (cs : List Curve) (e : Ending) (w' : World) : Prop :=
  ∃ (A' : Option Addr) (c' : Nat) (l' : List Int), e = .returned (.slice A' l'.length c') ∧ l'.length ≤ 15 ∧ Rd w' 1 A' l'.length (l'.map (Value.int .i64)) ∧ (∀ u, u ∈ l' ↔ u ∈ lensOf cs) ∧ Below w.heap.size w w'
set_option maxRecDepth 100000 in
set_option maxHeartbeats 4000000 in
theorem cuTimes_any (A : Option Addr) (n c : Nat) (cs : List Curve) (w : World) (hn : n ≤ 13) (hr : Rd w 3 A n (cs.flatMap encCurve)) :
    Calls Try.prog 76 #[.slice A n c] w (RetTm w cs) := by
  have hl : cs.length = n := by have h1 := hr.1; rw [flat_len encCurve 3 encCurve_len] at h1; omega
  have HL := Lib.hid hl
  clear hl
  have r0 := Rd.of_blk (n := 2) (size := 1) (Blk.new w 3 [.int .i64 0, .int .i64 100000]) rfl
  have z0 := ext_alloc (ext_refl w) (.cells (List.toArray [.int .i64 0, .int .i64 100000]) 3)
  go_enter Try.func76, Try.ntmps76
  go_wp2_with fail
  go_loopw [3, 9] (TmRel w n cs) (fun _ i _ => n - (intOf i).toNat)
  case atStart => exact ⟨0, _, _, [0, 100000], Nat.zero_le _, rfl, rfl, Nat.le_refl _, by simp, r0, fun u => by simp [lensOf], z0⟩
  case round =>
    obtain ⟨k, A', c', l', hk, rfl, rfl, hlc, hlk, hrd, hmem, hb⟩ := hrel
    clear r0 z0
    have HM := Lib.hid hmem
    have hlp : 0 < l'.length := List.length_pos_of_mem ((hmem 0).2 (by simp [lensOf]))
    clear hmem
    by_cases hlt : k < n
    · 
      obtain ⟨b, o, rfl, hblb, hcellb⟩ := hr.2 (by omega)
      have hblrbx : b < wr.heap.size := Nat.lt_of_lt_of_le hblb hb.size
      have hlxx : k < cs.length := by rw [HL.out]; omega
      have hxx : cs[k]? = some cs[k] := List.getElem?_eq_getElem hlxx
      generalize cs[k] = x at hxx
      have q0 : wr.cell? ⟨b, o + (k * 3 + 0), none⟩ = some (.int .i64 x.first) := (hb.cell (p := ⟨b, o + (k * 3 + 0), none⟩) hblb).trans (hcellb _ _ ((flat_get encCurve 3 encCurve_len cs k 0 x hxx (by omega)).trans rfl))
      have q1 : wr.cell? ⟨b, o + (k * 3 + 1), none⟩ = some (.int .i64 x.length) := (hb.cell (p := ⟨b, o + (k * 3 + 1), none⟩) hblb).trans (hcellb _ _ ((flat_get encCurve 3 encCurve_len cs k 1 x hxx (by omega)).trans rfl))
      have q2 : wr.cell? ⟨b, o + (k * 3 + 2), none⟩ = some (.int .i64 x.second) := (hb.cell (p := ⟨b, o + (k * 3 + 2), none⟩) hblb).trans (hcellb _ _ ((flat_get encCurve 3 encCurve_len cs k 2 x hxx (by omega)).trans rfl))
      simp only [Nat.add_zero, ← Nat.add_assoc] at q0 q1 q2
      have HX := Lib.hid hxx
      clear hxx hlxx hcellb
      have HLS := Lib.hid (lens_succ HX.out)
      have zB := ext_alloc hb (.cells (List.toArray [.int .i64 x.first, .int .i64 x.length, .int .i64 x.second]) 37)
      generalize hll : l'.length = m at *
      go_wp2_with fail
      refine (l1Put_any A' m c' l' x.length _ (by omega) hlp hlc (hrd.alloc (.cells (List.toArray [.int .i64 x.first, .int .i64 x.length, .int .i64 x.second]) 37))).mono ?_; rintro e w1 ⟨A1, c1, l1, rfl, hlc1, hrd1, hmem1, hll1, hb1⟩
      have HM1 := Lib.hid hmem1
      clear hmem1
      go_wp2_with fail
      go_roundw
      case rel =>
        have hr2 : TmRel w n cs (.slice A1 l1.length c1) (.int .i64 ((k : Int) + 1)) w1 := ⟨k + 1, A1, c1, l1, by omega, by simp, rfl, hlc1, by omega, hrd1, fun u => by rw [HM1.out, HM.out, HLS.out], ext_trans zB hb1⟩
        first | exact hr2 | ((repeat apply Exists.intro); exact ⟨hr2, rfl⟩)
      case measure => simp [intOf]; omega
    · have HE := Lib.hid (show cs.take k = cs from List.take_of_length_le (by rw [HL.out]; omega))
      go_wp2_with fail
      go_ret
      exact ⟨A', c', l', rfl, by omega, hrd, fun u => by rw [HM.out, HE.out], hb⟩

def okAt (cs : List Curve) (f l s9 t : Int) : Bool := decide (sumI cs t ≤ curI f l s9 t)
def fitI (cs : List Curve) (f l s9 : Int) : Bool := (lensOf (⟨f, l, s9⟩ :: cs)).all (okAt cs f l s9)
theorem all_mem {α : Type} {xs ys : List α} {p : α → Bool} (h : ∀ u, u ∈ xs ↔ u ∈ ys) : xs.all p = ys.all p := by
  rw [Bool.eq_iff_iff, List.all_eq_true, List.all_eq_true]
  exact ⟨fun a x hx => a x ((h x).2 hx), fun a x hx => a x ((h x).1 hx)⟩
theorem lens_bd {cs : List Curve} (hg : cs.all goodC = true) {u : Int} (hu : u ∈ lensOf cs) : 0 ≤ u ∧ u ≤ 100000 := by
  unfold lensOf at hu
  rw [List.mem_append, List.mem_map] at hu
  rcases hu with hu | ⟨x, hx, rfl⟩
  · simp only [List.mem_cons, List.not_mem_nil, or_false] at hu; omega
  · obtain ⟨k, hk⟩ := List.getElem?_of_mem hx
    have := (goodC_at hg hk).2.1
    omega
def FitR (w : World) (A3 : Option Addr) (l' : List Int) (cs : List Curve) (f l s9 : Int) (i : Value) (wr : World) : Prop :=
  ∃ k : Nat, k ≤ l'.length ∧ i = .int .i64 k ∧ (l'.take k).all (okAt cs f l s9) = true ∧ Blk wr w.heap.size 37 [.int .i64 f, .int .i64 l, .int .i64 s9] ∧ Rd wr 1 A3 l'.length (l'.map (Value.int .i64)) ∧ Below w.heap.size w wr
set_option maxRecDepth 100000 in
set_option maxHeartbeats 4000000 in
theorem cuFits_any (A : Option Addr) (n c : Nat) (cs : List Curve) (f l s9 : Int) (w : World) (hn : n ≤ 12) (hr : Rd w 3 A n (cs.flatMap encCurve)) (hg : cs.all goodC = true) (hc : curB f l s9 = true) :
    Calls Try.prog 47 #[.slice A n c, .agg #[.int .i64 f, .int .i64 l, .int .i64 s9]] w fun e w' => e = .returned (.bool (fitI cs f l s9)) ∧ Below w.heap.size w w' := by
  obtain ⟨i0, hi, hz0, hz1, hz2⟩ := info_parts infoCurve
  obtain ⟨hf, hl2, hs⟩ := curB_iff.1 hc
  have hcl : cs.length = n := by have h1 := hr.1; rw [flat_len encCurve 3 encCurve_len] at h1; omega
  have HL := Lib.hid hcl
  have hone : ∀ u ∈ cs.flatMap encCurve, u.oneCell' = true := by
    intro u hu
    rw [List.mem_flatMap] at hu
    obtain ⟨y, _, hu⟩ := hu
    simp only [encCurve, List.mem_cons, List.not_mem_nil, or_false] at hu
    rcases hu with rfl | rfl | rfl <;> rfl
  have B0 := Blk.new w 37 [.int .i64 f, .int .i64 l, .int .i64 s9]
  have B1 := B0.alloc (.cells (List.toArray [.int .i64 f, .int .i64 l, .int .i64 s9]) 37)
  have R1 : Blk ((w.alloc (.cells (List.toArray [.int .i64 f, .int .i64 l, .int .i64 s9]) 37)).alloc (.cells (List.toArray [.int .i64 f, .int .i64 l, .int .i64 s9]) 37)) (w.heap.size + 1) 37 [.int .i64 f, .int .i64 l, .int .i64 s9] := by have h := Blk.new (w.alloc (.cells (List.toArray [.int .i64 f, .int .i64 l, .int .i64 s9]) 37)) 37 [.int .i64 f, .int .i64 l, .int .i64 s9]; rwa [World.size_alloc] at h
  have z1 := ext_alloc (ext_alloc (ext_refl w) (.cells (List.toArray [.int .i64 f, .int .i64 l, .int .i64 s9]) 37)) (.cells (List.toArray [.int .i64 f, .int .i64 l, .int .i64 s9]) 37)
  have O1 := own_of_blk (base := w.heap.size + 1) (n := 1) (m := 3) R1 rfl (by omega) (Nat.le_refl _)
  have hr1 := hr.below z1
  have hgx : (⟨f, l, s9⟩ :: cs : List Curve).all goodC = true := by simp only [List.all_cons, Bool.and_eq_true]; exact ⟨hc, hg⟩
  have HGX := Lib.hid hgx
  clear B0 R1 hcl hgx
  go_enter Try.func47, Try.ntmps47
  go_wp2_with (at_builtin; refine wpList_append_rd (size := 3) (bytes := 24) (base := w.heap.size + 1) rfl (.tmp 8) (.tmp 9) rfl Try.underlying62 hi hz0 hz1 hz2 rfl (by decide) rfl O1 A n c (cs.flatMap encCurve) rfl hr1 hone ?k1 ?k2 ?k3 ?_)
  all_goals first | (unfold maxLen; omega) | omega | (simp; done) | skip
  intro v' w2 o2 hg2
  have B2 := B1.grown hg2 (by simp [Value.ownBlock])
  have z2 := z1.grown hg2 (by simp; omega) (fun k hk => by simp [Value.ownBlock] at hk; omega)
  obtain ⟨A2, c2, rfl⟩ := own_shape o2
  have o2' : w2.ownsRow (w.heap.size + 1) 37 3 (.slice A2 (1 + n) c2) (1 + n) ((⟨f, l, s9⟩ :: cs : List Curve).flatMap encCurve) := o2
  have hr2 := Rd.of_own o2'
  clear B1 z1 O1 hr1 o2 hg2 o2'
  go_wp2_with fail
  refine (cuTimes_any A2 (1 + n) c2 (⟨f, l, s9⟩ :: cs) w2 (by omega) hr2).mono ?_; rintro e w3 ⟨A3, c3, l', rfl, hl3, hr3, hm3, hb3⟩
  have B3 := B2.below hb3
  have z3 := ext_trans z2 hb3
  have HM := Lib.hid hm3
  clear hm3 hb3 B2 z2 hr2
  generalize hll : l'.length = m at *
  have HLL := Lib.hid hll
  go_wp2_with fail
  go_loopw [13] (FitR w A3 l' cs f l s9) (fun i _ => m - (intOf i).toNat)
  case atStart => exact ⟨0, Nat.zero_le _, rfl, by simp, B3, by rw [HLL.out]; exact hr3, z3⟩
  case round =>
    obtain ⟨k, hk, rfl, hall, B4, hr4, z4⟩ := hrel
    rw [HLL.out] at hr4 hk
    have HA := Lib.hid hall
    clear hall hr3 B3 z3
    by_cases hlt : k < m
    · obtain ⟨b, o, u, rfl, hbl, hu, hcu⟩ := hr4.int k hlt
      have hub := lens_bd HGX.out ((HM.out u).1 (List.mem_of_getElem? hu))
      have HU := Lib.hid hu
      clear hu
      have hcs : ∀ W, Below w.heap.size w W → Calls Try.prog 77 #[.slice A n c, .int .i64 u] W fun e w' => e = .returned (.int .i64 (sumI cs u)) ∧ Below W.heap.size W w' := fun W h => cuSum_any u A n c cs W hn (hr.below h) hg hub
      have hca : ∀ W, Calls Try.prog 78 #[.agg #[.int .i64 f, .int .i64 l, .int .i64 s9], .int .i64 u] W fun e w' => e = .returned (.int .i64 (curI f l s9 u)) ∧ Below W.heap.size W w' := fun W => cuAt_any f l s9 u W hf hl2 hs (by omega)
      cases hok : okAt cs f l s9 u with
      | true =>
        have HOK := Lib.hid hok
        have hle : sumI cs u ≤ curI f l s9 u := by simpa [okAt] using hok
        clear hok
        generalize sumI cs u = x1 at *
        generalize curI f l s9 u = x2 at *
        go_wp2_with fail
        refine wp_region_grow (by kernel_rfl) (by kernel_rfl) ?_
        intro S hne hkS ho
        have e0 : ∀ s : InC S, s.W.cell? ⟨w.heap.size, 0, none⟩ = some (.int .i64 f) := fun s => (B4.below (ho s)).cell 0
        have e1 : ∀ s : InC S, s.W.cell? ⟨w.heap.size, 1, none⟩ = some (.int .i64 l) := fun s => (B4.below (ho s)).cell 1
        have e2 : ∀ s : InC S, s.W.cell? ⟨w.heap.size, 2, none⟩ = some (.int .i64 s9) := fun s => (B4.below (ho s)).cell 2
        repeat (go_big_quiet_step ((first | (go_at_call 77; exact grow_call hkS (hcs _ (ext_trans z4 (ho _))) (rfl)) | (go_at_call 78; exact grow_call hkS (hca _) (rfl)))))
        refine wpQuiet_nil ?_
        rintro _ ⟨s, rfl⟩
        have hg5 := ho s
        clear e0 e1 e2 ho hkS hne
        generalize s.W = w5 at *
        clear s S
        go_wp2_with fail
        all_goals first | exact (show False by omega).elim | skip
        go_roundw
        case rel =>
          have hr2 : FitR w (some ⟨b, o, none⟩) l' cs f l s9 (.int .i64 ((k : Int) + 1)) w5 := ⟨k + 1, by rw [HLL.out]; omega, by simp, by rw [take_snoc HU.out, List.all_append, HA.out]; simp [HOK.out], B4.below hg5, by rw [HLL.out]; exact hr4.below hg5, ext_trans z4 hg5⟩
          first | exact hr2 | ((repeat apply Exists.intro); exact ⟨hr2, rfl⟩)
        case measure => simp [intOf]; omega
      | false =>
        have HOK := Lib.hid hok
        have hle : ¬ sumI cs u ≤ curI f l s9 u := by simpa [okAt] using hok
        clear hok
        generalize sumI cs u = x1 at *
        generalize curI f l s9 u = x2 at *
        go_wp2_with fail
        refine wp_region_grow (by kernel_rfl) (by kernel_rfl) ?_
        intro S hne hkS ho
        have e0 : ∀ s : InC S, s.W.cell? ⟨w.heap.size, 0, none⟩ = some (.int .i64 f) := fun s => (B4.below (ho s)).cell 0
        have e1 : ∀ s : InC S, s.W.cell? ⟨w.heap.size, 1, none⟩ = some (.int .i64 l) := fun s => (B4.below (ho s)).cell 1
        have e2 : ∀ s : InC S, s.W.cell? ⟨w.heap.size, 2, none⟩ = some (.int .i64 s9) := fun s => (B4.below (ho s)).cell 2
        repeat (go_big_quiet_step ((first | (go_at_call 77; exact grow_call hkS (hcs _ (ext_trans z4 (ho _))) (rfl)) | (go_at_call 78; exact grow_call hkS (hca _) (rfl)))))
        refine wpQuiet_nil ?_
        rintro _ ⟨s, rfl⟩
        have hg5 := ho s
        clear e0 e1 e2 ho hkS hne
        generalize s.W = w5 at *
        clear s S
        go_wp2_with fail
        all_goals first | exact (show False by omega).elim | skip
        go_ret
        exact ⟨ret_bool (by rw [fitI, ← all_mem HM.out, all_false HU.out HOK.out]), ext_trans z4 hg5⟩
    · go_wp2_with fail
      go_ret
      have e0 : l'.take k = l' := List.take_of_length_le (by rw [HLL.out]; omega)
      exact ⟨ret_bool (by rw [fitI, ← all_mem HM.out, ← e0, HA.out]), z4⟩

end Go.Proofs.Ytgljelhglgeojaa