/- bends, SumFits, CurvesFit of the program; the law's walk. -/
import Derived.Test.YtgljelhglgeojaaDeCp
import Derived.Test.YtgljelhglgeojaaDeZ
import Derived.Deep.RegionLaw
namespace Go.Proofs.Ytgljelhglgeojaa
open Go.RowKit

theorem lens_snoc {cs : List Curve} {k : Nat} {x : Curve} (h : cs[k]? = some x) : lensOf (cs.take (k + 1)) = lensOf (cs.take k) ++ [x.length] := by
  unfold lensOf
  rw [take_snoc h, List.map_append, ← List.append_assoc]
  rfl
def BdRel (w : World) (n : Nat) (cs : List Curve) (v i : Value) (wr : World) : Prop :=
  ∃ k : Nat, k ≤ n ∧ i = .int .i64 k ∧ wr.ownsRow w.heap.size 3 1 v (k + 2) ((lensOf (cs.take k)).map (Value.int .i64)) ∧ Below w.heap.size w wr
set_option maxRecDepth 100000 in
set_option maxHeartbeats 4000000 in
theorem bends_any (A : Option Addr) (n c : Nat) (cs : List Curve) (w : World) (hn : n ≤ 10) (hr : Rd w 3 A n (cs.flatMap encCurve)) :
    Calls Try.prog 80 #[.slice A n c] w (RetTm w cs) := by
  obtain ⟨i0, hi, hz0, hz1, hz2⟩ := info_parts infoInt
  have hl : cs.length = n := by have h1 := hr.1; rw [flat_len encCurve 3 encCurve_len] at h1; omega
  have HL := Lib.hid hl
  clear hl
  have O0 := own_of_blk (base := w.heap.size) (n := 2) (m := 1) (Blk.new w 3 [.int .i64 0, .int .i64 100000]) rfl (by omega) (Nat.le_refl _)
  have z0 := ext_alloc (ext_refl w) (.cells (List.toArray [.int .i64 0, .int .i64 100000]) 3)
  go_enter Try.func80, Try.ntmps80
  go_wp2_with fail
  go_loopw [3, 9] (BdRel w n cs) (fun _ i _ => n - (intOf i).toNat)
  case atStart => exact ⟨0, Nat.zero_le _, rfl, O0, z0⟩
  case round =>
    obtain ⟨k, hk, rfl, hO, hb⟩ := hrel
    clear O0 z0
    by_cases hlt : k < n
    · 
      obtain ⟨b, o, rfl, hblb, hcellb⟩ := hr.2 (by omega)
      have hblrbx : b < wr.heap.size := Nat.lt_of_lt_of_le hblb hb.size
      have hlxx : k < cs.length := by rw [HL.out]; omega
      have hxx : cs[k]? = some cs[k] := List.getElem?_eq_getElem hlxx
      generalize cs[k] = x at hxx
      have q0 : wr.cell? ⟨b, o + (k * 3 + 0), none⟩ = some (.int .i64 x.first) := (hb.cell (p := ⟨b, o + (k * 3 + 0), none⟩) hblb).trans (hcellb _ _ ((flat_get encCurve 3 encCurve_len cs k 0 x hxx (by omega)).trans rfl))
      have q1 : wr.cell? ⟨b, o + (k * 3 + 1), none⟩ = some (.int .i64 x.length) := (hb.cell (p := ⟨b, o + (k * 3 + 1), none⟩) hblb).trans (hcellb _ _ ((flat_get encCurve 3 encCurve_len cs k 1 x hxx (by omega)).trans rfl))
      have q2 : wr.cell? ⟨b, o + (k * 3 + 2), none⟩ = some (.int .i64 x.second) := (hb.cell (p := ⟨b, o + (k * 3 + 2), none⟩) hblb).trans (hcellb _ _ ((flat_get encCurve 3 encCurve_len cs k 2 x hxx (by omega)).trans rfl))
      simp only [Nat.add_zero, ← Nat.add_assoc] at q0 q1 q2
      have HX := Lib.hid hxx
      clear hxx hlxx hcellb
      have HLS := Lib.hid (lens_snoc HX.out)
      have zB := ext_alloc hb (.cells (List.toArray [.int .i64 x.first, .int .i64 x.length, .int .i64 x.second]) 37)
      have zC := ext_alloc zB (.cells (List.toArray [.int .i64 x.length]) 3)
      have oC := (hO.alloc (.cells (List.toArray [.int .i64 x.first, .int .i64 x.length, .int .i64 x.second]) 37)).alloc (.cells (List.toArray [.int .i64 x.length]) 3)
      have rC : Rd ((wr.alloc (.cells (List.toArray [.int .i64 x.first, .int .i64 x.length, .int .i64 x.second]) 37)).alloc (.cells (List.toArray [.int .i64 x.length]) 3)) 1 (some ⟨wr.heap.size + 1, 0, none⟩) 1 [.int .i64 x.length] := by have h := Rd.of_blk (n := 1) (size := 1) (Blk.new (wr.alloc (.cells (List.toArray [.int .i64 x.first, .int .i64 x.length, .int .i64 x.second]) 37)) 3 [.int .i64 x.length]) rfl; rw [World.size_alloc] at h; exact h
      have hsz0 := hb.size
      go_wp2_with (at_builtin; refine wpList_append_rd (size := 1) (bytes := 8) (base := w.heap.size) rfl (.tmp 13) (.tmp 16) rfl Try.underlying32 hi hz0 hz1 hz2 rfl (by decide) rfl oC (some ⟨wr.heap.size + 1, 0, none⟩) 1 1 [.int .i64 x.length] rfl rC (by intro u hu; simp at hu; subst hu; rfl) ?m1 ?m2 ?m3 ?_)
      all_goals first | (unfold maxLen; omega) | omega | exact zC.size | skip
      intro v' w3 o3 hg3
      have z3 := own_grown zC oC zC.size hg3
      have HO3 := Lib.hid o3
      clear o3 hg3 oC rC
      go_wp2_with fail
      go_roundw
      case rel =>
        have ho : w3.ownsRow w.heap.size 3 1 v' (k + 1 + 2) ((lensOf (cs.take (k + 1))).map (Value.int .i64)) := by
          rw [HLS.out, List.map_append, show k + 1 + 2 = k + 2 + 1 by omega]
          exact HO3.out
        have hr2 : BdRel w n cs v' (.int .i64 ((k : Int) + 1)) w3 := ⟨k + 1, by omega, by simp, ho, z3⟩
        first | exact hr2 | ((repeat apply Exists.intro); exact ⟨hr2, rfl⟩)
      case measure => simp [intOf]; omega
    · obtain rfl : k = n := by omega
      rw [show cs.take k = cs from List.take_of_length_le (by rw [HL.out]; exact Nat.le_refl _)] at hO
      obtain ⟨A3, c3, rfl⟩ := own_shape hO
      obtain ⟨g, csv, rfl, hbg, B3, hcl, hnc, _, htk⟩ := own_blk hO (by omega)
      have hlen : (lensOf cs).length = k + 2 := by have := hO.1; simpa using this
      have B3' : Blk wr g 3 ((lensOf cs).map (Value.int .i64) ++ csv.drop ((k + 2) * 1)) := by rw [← htk, List.take_append_drop]; exact B3
      have hso := sort_any g (k + 2) c3 (lensOf cs) (csv.drop ((k + 2) * 1)) wr (by omega) (by omega) hlen B3'
      have HLN := Lib.hid hlen
      have hcb : csv.length = c3 * 1 := hcl
      clear B3 hcl htk hlen hO B3'
      go_wp2_with fail
      refine hso.mono ?_; rintro e w4 ⟨rfl, l1, hp1, B4, G4⟩
      have HP1 := Lib.hid hp1
      have hco := compact_any g (k + 2) c3 l1 (csv.drop ((k + 2) * 1)) w4 (by omega) (by omega) hnc (by rw [hp1.length_eq, HLN.out]) B4
      clear hp1 hso
      go_wp2_with fail
      refine hco.mono ?_; rintro e w5 ⟨A5, c5, l2, rfl, hl2, hr5, hm5, G5⟩
      have HM5 := Lib.hid hm5
      clear hm5 hco
      go_wp2_with fail
      go_ret
      exact ⟨A5, c5, l2, rfl, by omega, hr5, fun u => by rw [HM5.out]; exact HP1.out.mem_iff, (hb.grown G4 hb.size (fun q hq => by injection hq with hq; omega)).grown G5 (Nat.le_trans hb.size G4.size) (fun q hq => by injection hq with hq; omega)⟩

theorem lens_swap {cs : List Curve} {x : Curve} : ∀ u, u ∈ lensOf (cs ++ [x]) ↔ u ∈ lensOf (x :: cs) := by
  intro u
  unfold lensOf
  simp only [List.mem_append, List.map_append, List.map_cons, List.map_nil, List.mem_cons, List.not_mem_nil, or_false]
  constructor
  · rintro (h | h | h) <;> simp [h]
  · rintro (h | h | h) <;> simp [h]
theorem curve_one (cs : List Curve) : ∀ u ∈ cs.flatMap encCurve, u.oneCell' = true := by
  intro u hu
  rw [List.mem_flatMap] at hu
  obtain ⟨y, _, hu⟩ := hu
  simp only [encCurve, List.mem_cons, List.not_mem_nil, or_false] at hu
  rcases hu with rfl | rfl | rfl <;> rfl
set_option maxHeartbeats 2000000 in
theorem cloneC_any (A : Option Addr) (n c : Nat) (cs : List Curve) (w : World) (hn : n ≤ 12) (hr : Rd w 3 A n (cs.flatMap encCurve)) :
    Calls Try.prog 81 #[.slice A n c] w fun e w' => ∃ v, e = .returned v ∧ w'.ownsRow w.heap.size 37 3 v n (cs.flatMap encCurve) ∧ Below w.heap.size w w' := by
  obtain ⟨i0, hi, hz0, hz1, hz2⟩ := info_parts infoCurve
  cases A with
  | none =>
    obtain rfl := hr.of_nil rfl
    have hx : cs.flatMap encCurve = [] := List.eq_nil_of_length_eq_zero (by simpa using hr.1)
    rw [hx]
    have g0 := fun W => Lib.run_eql_slice_nil (P := Try.prog) W 62 37 none 0 c 0 0 Try.underlying62
    simp only [Option.isNone] at g0
    go_enter Try.func81, Try.ntmps81
    go_wp2_with fail
    go_ret
    exact ⟨_, rfl, World.ownsRow_nil _ _ _ _, ext_refl w⟩
  | some ad =>
    have g0 := fun W => Lib.run_eql_slice_nil (P := Try.prog) W 62 37 (some ad) n c 0 0 Try.underlying62
    simp only [Option.isNone] at g0
    go_enter Try.func81, Try.ntmps81
    go_wp2_with (at_builtin; refine wpList_append_rd (size := 3) (bytes := 24) (base := w.heap.size) rfl (.tmp 5) (.tmp 6) rfl Try.underlying62 hi hz0 hz1 hz2 rfl (by decide) rfl (World.ownsRow_made w #[] 0 (Nat.le_refl _) (by unfold maxLen; omega) (by simp)) (some ad) n c (cs.flatMap encCurve) rfl (hr.alloc _) (curve_one cs) ?a1 ?a2 ?a3 ?_)
    case a1 => unfold maxLen; omega
    case a2 => omega
    case a3 => simp
    intro v' w1 ho hg
    go_wp2_with fail
    go_ret
    exact ⟨_, rfl, by simpa using ho, (ext_alloc (ext_refl w) _).grown hg (by simp) (fun k hk => by simp [Value.ownBlock] at hk <;> omega)⟩
set_option maxRecDepth 100000 in
set_option maxHeartbeats 4000000 in
theorem sumFits_any (A : Option Addr) (n c : Nat) (cs : List Curve) (rate : Int) (w : World) (hn : n ≤ 6) (hr : Rd w 3 A n (cs.flatMap encCurve)) (hg : cs.all goodC = true) (hrt : 1 ≤ rate ∧ rate ≤ 100000) :
    Calls Try.prog 49 #[.slice A n c, .agg #[.int .i64 0, .int .i64 0, .int .i64 rate]] w fun e w' => e = .returned (.tuple #[.bool (fitI cs 0 0 rate), .bool true]) ∧ Below w.heap.size w w' := by
  obtain ⟨i0, hi, hz0, hz1, hz2⟩ := info_parts infoCurve
  have hcb : curB 0 0 rate = true := curB_iff.2 ⟨by omega, by omega, by omega⟩
  have HCB := Lib.hid hcb
  have HGX := Lib.hid (show (⟨0, 0, rate⟩ :: cs : List Curve).all goodC = true by simp only [List.all_cons, Bool.and_eq_true]; exact ⟨hcb, hg⟩)
  clear hcb
  have B0 := Blk.new w 37 [.int .i64 0, .int .i64 0, .int .i64 rate]
  have z0 := ext_alloc (ext_refl w) (.cells (List.toArray [.int .i64 0, .int .i64 0, .int .i64 rate]) 37)
  go_enter Try.func49, Try.ntmps49
  go_wp2_with fail
  refine (areCurves_any A n c cs _ (by omega) (hr.below z0) hg).mono ?_; rintro e w1 ⟨rfl, hb1⟩
  have B1 := B0.below hb1
  have z1 := ext_trans z0 hb1
  clear B0 z0 hb1
  obtain ⟨y1, x1, c1, f1⟩ := B1.three
  go_wp2_with fail
  refine (isCurve_any 0 0 rate _).mono ?_; rintro e w2 ⟨rfl, hb2⟩
  rw [HCB.out]
  have B2 := B1.below hb2
  have z2 := ext_trans z1 hb2
  clear y1 x1 c1 f1 B1 z1 hb2
  obtain ⟨y2, x2, c2, f2⟩ := B2.three
  go_wp2_with fail
  have BD := B2.drew
  have ZD := z2.drew
  have BC : Blk (w2.alloc (.cells (List.toArray [.int .i64 0, .int .i64 0, .int .i64 rate]) 37)).drew w2.heap.size 37 [.int .i64 0, .int .i64 0, .int .i64 rate] := (Blk.new w2 37 [.int .i64 0, .int .i64 0, .int .i64 rate]).drew
  have BC2 := (B2.alloc (.cells (List.toArray [.int .i64 0, .int .i64 0, .int .i64 rate]) 37)).drew
  have ZC := (ext_alloc z2 (.cells (List.toArray [.int .i64 0, .int .i64 0, .int .i64 rate]) 37)).drew
  go_region_law (first
    | (go_simp; go_at_call 81; refine (cloneC_any A n c cs _ (by omega) (hr.below (by first | exact ZD | exact ZC))).mono ?_; rintro e w3 ⟨v0, rfl, ow3, hb3⟩; have B3 := (by first | exact BD.below hb3 | exact BC2.below hb3 : Blk w3 w.heap.size 37 [.int .i64 0, .int .i64 0, .int .i64 rate]); have z3 := (by first | exact ext_trans ZD hb3 | exact ext_trans ZC hb3 : Below w.heap.size w w3); have o3 := (by first | exact own_base ow3 ZD.size | exact own_base ow3 ZC.size : w3.ownsRow w.heap.size 37 3 v0 n (cs.flatMap encCurve)); obtain ⟨y3, x3, q3, f3⟩ := B3.three)
    | (refine step_append_rd (size := 3) (bytes := 24) (base := w.heap.size) rfl (.tmp 17) (.tmp 19) rfl Try.underlying62 hi hz0 hz1 hz2 rfl (by decide) rfl (o3.alloc _) (some ⟨w3.heap.size, 0, none⟩) 1 1 [.int .i64 0, .int .i64 0, .int .i64 rate] rfl (Rd.of_blk (Blk.new w3 _ _) rfl) (by intro u hu; simp at hu; rcases hu with rfl | rfl <;> rfl) (by unfold maxLen; omega) (by omega) (by have h := z3.size; simp; omega) ?_; intro v1 w4 o4 hg4; have z4 := own_grown (ext_alloc z3 (.cells (List.toArray [.int .i64 0, .int .i64 0, .int .i64 rate]) 37)) (o3.alloc (.cells (List.toArray [.int .i64 0, .int .i64 0, .int .i64 rate]) 37)) (by have h := z3.size; simp; omega) hg4; have B4 := (B3.alloc (.cells (List.toArray [.int .i64 0, .int .i64 0, .int .i64 rate]) 37)).grown hg4 (by intro e; have h := (ow3.lt _ e.symm).1; have h2 := B2.lt; simp at h; omega); obtain ⟨A4, c4, rfl⟩ := own_shape o4)
    | (refine step_append_rd (size := 3) (bytes := 24) (base := w.heap.size) rfl (.tmp 17) (.tmp 19) rfl Try.underlying62 hi hz0 hz1 hz2 rfl (by decide) rfl o3 (some ⟨w2.heap.size, 0, none⟩) 1 1 [.int .i64 0, .int .i64 0, .int .i64 rate] rfl (Rd.of_blk (BC.below hb3) rfl) (by intro u hu; simp at hu; rcases hu with rfl | rfl <;> rfl) (by unfold maxLen; omega) (by omega) (by have h := z3.size; simp; omega) ?_; intro v1 w4 o4 hg4; have z4 := own_grown z3 o3 z3.size hg4; have B4 := B3.grown hg4 (by intro e; have h := (ow3.lt _ e.symm).1; have h2 := B2.lt; simp at h; omega); obtain ⟨A4, c4, rfl⟩ := own_shape o4)
    | (go_simp; go_at_call 80; refine (bends_any A4 (n + 1) c4 (cs ++ [⟨0, 0, rate⟩]) _ (by omega) (by have h := Rd.of_own o4; simpa [encCurve] using h)).mono ?_; rintro e w5 ⟨A5, c5, l5, rfl, hl5, hr5, hm5, hb5⟩))
  all_goals
    have B5 := B4.below hb5
    have z5 := ext_trans z4 hb5
    have HM := Lib.hid (fun u => (hm5 u).trans (lens_swap (cs := cs) (x := ⟨0, 0, rate⟩) u))
    clear hm5 hb5 B4 z4 B3 z3 o3 ow3 hb3 y3 x3 q3 f3 o4 hg4 BC BC2 ZC BD ZD B2 z2 y2 x2 c2 f2
    generalize hll : l5.length = m at *
    have HLL := Lib.hid hll
    have hm15 : m ≤ 15 := hl5
    change Exit.then _ _ Exit.normal (Act.put _ (some 22) _) _
    simp only [Act.put, List.setIfInBounds_toArray, List.set_cons_zero, List.set_cons_succ]
    go_wp2_with fail
    go_loopw [23] (FitR w A5 l5 cs 0 0 rate) (fun i _ => m - (intOf i).toNat)
    case atStart => exact ⟨0, Nat.zero_le _, rfl, by simp, B5, by rw [HLL.out]; exact hr5, z5⟩
    case round =>
      obtain ⟨k, hk, rfl, hall, B6, hr6, z6⟩ := hrel
      rw [HLL.out] at hr6 hk
      have HA := Lib.hid hall
      clear hall hr5 B5 z5
      by_cases hlt : k < m
      · obtain ⟨b, o, u, rfl, hbl, hu, hcu⟩ := hr6.int k hlt
        have hub := lens_bd HGX.out ((HM.out u).1 (List.mem_of_getElem? hu))
        have HU := Lib.hid hu
        clear hu
        have hcs : ∀ W, Below w.heap.size w W → Calls Try.prog 82 #[.slice A n c, .int .i64 u] W fun e w' => e = .returned (.int .i64 (sumI cs u)) ∧ Below W.heap.size W w' := fun W h => sumAt_any u A n c cs W (by omega) (hr.below h) hg hub
        have hca : ∀ W, Calls Try.prog 83 #[.agg #[.int .i64 0, .int .i64 0, .int .i64 rate], .int .i64 u] W fun e w' => e = .returned (.int .i64 (curI 0 0 rate u)) ∧ Below W.heap.size W w' := fun W => curveAt_any 0 0 rate u W (by omega) (by omega) (by omega) (by omega)
        cases hok : okAt cs 0 0 rate u with
        | true =>
          have HOK := Lib.hid hok
          have hle : sumI cs u ≤ curI 0 0 rate u := by simpa [okAt] using hok
          clear hok
          generalize sumI cs u = x1 at *
          generalize curI 0 0 rate u = x2 at *
          go_wp2_with fail
          refine wp_region_grow (by kernel_rfl) (by kernel_rfl) ?_
          intro S hne hkS ho
          have e0 : ∀ s : InC S, s.W.cell? ⟨w.heap.size, 0, none⟩ = some (.int .i64 0) := fun s => (B6.below (ho s)).cell 0
          have e1 : ∀ s : InC S, s.W.cell? ⟨w.heap.size, 1, none⟩ = some (.int .i64 0) := fun s => (B6.below (ho s)).cell 1
          have e2 : ∀ s : InC S, s.W.cell? ⟨w.heap.size, 2, none⟩ = some (.int .i64 rate) := fun s => (B6.below (ho s)).cell 2
          repeat (go_big_quiet_step ((first | (go_at_call 82; exact grow_call hkS (hcs _ (ext_trans z6 (ho _))) (rfl)) | (go_at_call 83; exact grow_call hkS (hca _) (rfl)))))
          refine wpQuiet_nil ?_
          rintro _ ⟨s, rfl⟩
          have hg6 := ho s
          clear e0 e1 e2 ho hkS hne
          generalize s.W = w6 at *
          clear s S
          go_wp2_with fail
          all_goals first | exact (show False by omega).elim | skip
          go_roundw
          case rel =>
            have hr2 : FitR w (some ⟨b, o, none⟩) l5 cs 0 0 rate (.int .i64 ((k : Int) + 1)) w6 := ⟨k + 1, by rw [HLL.out]; omega, by simp, by rw [take_snoc HU.out, List.all_append, HA.out]; simp [HOK.out], B6.below hg6, by rw [HLL.out]; exact hr6.below hg6, ext_trans z6 hg6⟩
            first | exact hr2 | ((repeat apply Exists.intro); exact ⟨hr2, rfl⟩)
          case measure => simp [intOf]; omega
        | false =>
          have HOK := Lib.hid hok
          have hle : ¬ sumI cs u ≤ curI 0 0 rate u := by simpa [okAt] using hok
          clear hok
          generalize sumI cs u = x1 at *
          generalize curI 0 0 rate u = x2 at *
          go_wp2_with fail
          refine wp_region_grow (by kernel_rfl) (by kernel_rfl) ?_
          intro S hne hkS ho
          have e0 : ∀ s : InC S, s.W.cell? ⟨w.heap.size, 0, none⟩ = some (.int .i64 0) := fun s => (B6.below (ho s)).cell 0
          have e1 : ∀ s : InC S, s.W.cell? ⟨w.heap.size, 1, none⟩ = some (.int .i64 0) := fun s => (B6.below (ho s)).cell 1
          have e2 : ∀ s : InC S, s.W.cell? ⟨w.heap.size, 2, none⟩ = some (.int .i64 rate) := fun s => (B6.below (ho s)).cell 2
          repeat (go_big_quiet_step ((first | (go_at_call 82; exact grow_call hkS (hcs _ (ext_trans z6 (ho _))) (rfl)) | (go_at_call 83; exact grow_call hkS (hca _) (rfl)))))
          refine wpQuiet_nil ?_
          rintro _ ⟨s, rfl⟩
          have hg6 := ho s
          clear e0 e1 e2 ho hkS hne
          generalize s.W = w6 at *
          clear s S
          go_wp2_with fail
          all_goals first | exact (show False by omega).elim | skip
          go_ret2
          exact ⟨by rw [fitI, ← all_mem HM.out, all_false HU.out HOK.out]; rfl, ext_trans z6 hg6⟩
      · have e0 : l5.take k = l5 := List.take_of_length_le (by rw [HLL.out]; omega)
        have HF := Lib.hid (show fitI cs 0 0 rate = true by rw [fitI, ← all_mem HM.out, ← e0, HA.out])
        go_wp2_with fail
        go_ret2
        exact ⟨by rw [HF.out]; rfl, z6⟩

set_option maxRecDepth 100000 in
set_option maxHeartbeats 4000000 in
theorem implCurvesFit_any (rate : Int) (A : Option Addr) (n c : Nat) (xs : List SesV) (w : World) (hn : n ≤ 1048576) (hr : Rd w 7 A n (xs.flatMap encSes)) (hz : ∀ x ∈ xs, SZ w x) :
    Calls Try.prog 16 #[.slice A n c, .int .i64 rate] w fun e w' => e = .returned (.tuple #[.bool (cfV (sesOf xs) rate), .bool (cfB (sesOf xs) rate)]) ∧ Below w.heap.size w w' := by
  have hl : xs.length = n := by have h1 := hr.1; rw [flat_len encSes 7 encSes_len] at h1; omega
  have HL := Lib.hid hl
  clear hl
  obtain ⟨i0, hi, hz0, hz1, hz2⟩ := info_parts infoCurve
  cases h2 : cfB (sesOf xs) rate with
  | false =>
    unfold cfV
    rw [h2, Bool.false_and]
    cases h1 : listB xs with
    | false =>
      go_enter Try.func16, Try.ntmps16
      go_wp2_with (go_at_call 48; refine (areSessions_any A n c xs w hn hr hz).mono ?_; rintro e w1 ⟨rfl, hb1⟩)
      go_ret2
      exact ⟨rfl, hb1⟩
    | true =>
      have h3 : inB rate 1 100000 = false := by rw [cfB, ← listB_eq, h1, Bool.true_and] at h2; exact h2
      have h4 := inB_not h3
      go_enter Try.func16, Try.ntmps16
      go_wp2_with (go_at_call 48; refine (areSessions_any A n c xs w hn hr hz).mono ?_; rintro e w1 ⟨rfl, hb1⟩)
      all_goals first | exact (show False by omega).elim | (go_ret2; exact ⟨rfl, hb1⟩)
  | true =>
    have hb2 : listB xs = true ∧ inB rate 1 100000 = true := by rw [cfB, ← listB_eq, Bool.and_eq_true] at h2; exact h2
    obtain ⟨h1, h3⟩ := hb2
    have hrt := inB_iff.1 h3
    have hn6 : n ≤ 6 := by have h := list_len h1; rw [HL.out] at h; exact h
    have HG := Lib.hid (curves_good ((listB_eq xs).symm.trans h1))
    unfold cfV
    rw [h2, Bool.true_and]
    have d1 : decide (rate < 1) = false := by simp; omega
    have d2 : decide (100000 < rate) = false := by simp; omega
    go_enter Try.func16, Try.ntmps16
    go_wp2_with (go_at_call 48; refine (areSessions_any A n c xs w hn hr hz).mono ?_; rintro e w1 ⟨rfl, hb1⟩)
    all_goals first | exact (show False by omega).elim | skip
    have O0 := World.ownsRow_made (base := w.heap.size) (e := 37) (size := 3) w1 #[] 0 hb1.size (by unfold maxLen; omega) (by simp)
    have z1 := ext_alloc hb1 (.cells #[] 37)
    go_loopw [6, 23] (CvRel w n (sesOf xs)) (fun _ i _ => n - (intOf i).toNat)
    case atStart => exact ⟨0, Nat.zero_le _, rfl, by simpa [curvesOf] using O0, z1⟩
    case round =>
      obtain ⟨k, hk, rfl, hO, hb⟩ := hrel
      clear O0 z1
      by_cases hlt : k < n
      · 
        obtain ⟨b, o, rfl, hblb, hcellb⟩ := hr.2 (by omega)
        have hblrbx : b < wr.heap.size := Nat.lt_of_lt_of_le hblb hb.size
        have hlxx : k < xs.length := by rw [HL.out]; omega
        have hxx : xs[k]? = some xs[k] := List.getElem?_eq_getElem hlxx
        generalize xs[k] = x at hxx
        have q0 : wr.cell? ⟨b, o + (k * 7 + 0), none⟩ = some (.int .i64 x.f) := (hb.cell (p := ⟨b, o + (k * 7 + 0), none⟩) hblb).trans (hcellb _ _ ((flat_get encSes 7 encSes_len xs k 0 x hxx (by omega)).trans rfl))
        have q1 : wr.cell? ⟨b, o + (k * 7 + 1), none⟩ = some (.int .i64 x.l) := (hb.cell (p := ⟨b, o + (k * 7 + 1), none⟩) hblb).trans (hcellb _ _ ((flat_get encSes 7 encSes_len xs k 1 x hxx (by omega)).trans rfl))
        have q2 : wr.cell? ⟨b, o + (k * 7 + 2), none⟩ = some (.int .i64 x.s) := (hb.cell (p := ⟨b, o + (k * 7 + 2), none⟩) hblb).trans (hcellb _ _ ((flat_get encSes 7 encSes_len xs k 2 x hxx (by omega)).trans rfl))
        have q3 : wr.cell? ⟨b, o + (k * 7 + 3), none⟩ = some (.int .i64 x.st) := (hb.cell (p := ⟨b, o + (k * 7 + 3), none⟩) hblb).trans (hcellb _ _ ((flat_get encSes 7 encSes_len xs k 3 x hxx (by omega)).trans rfl))
        have q4 : wr.cell? ⟨b, o + (k * 7 + 4), none⟩ = some (.int .i64 x.ba) := (hb.cell (p := ⟨b, o + (k * 7 + 4), none⟩) hblb).trans (hcellb _ _ ((flat_get encSes 7 encSes_len xs k 4 x hxx (by omega)).trans rfl))
        have q5 : wr.cell? ⟨b, o + (k * 7 + 5), none⟩ = some (.int .i64 x.se) := (hb.cell (p := ⟨b, o + (k * 7 + 5), none⟩) hblb).trans (hcellb _ _ ((flat_get encSes 7 encSes_len xs k 5 x hxx (by omega)).trans rfl))
        have q6 : wr.cell? ⟨b, o + (k * 7 + 6), none⟩ = some (.slice x.A x.m x.c) := (hb.cell (p := ⟨b, o + (k * 7 + 6), none⟩) hblb).trans (hcellb _ _ ((flat_get encSes 7 encSes_len xs k 6 x hxx (by omega)).trans rfl))
        simp only [Nat.add_zero, ← Nat.add_assoc] at q0 q1 q2 q3 q4 q5 q6
        have HX := Lib.hid hxx
        clear hxx hlxx hcellb
        have HCS := Lib.hid (curves_snoc HX.out)
        have hsz0 := hb.size
        have zB := ext_alloc hb (.cells (List.toArray [.int .i64 x.f, .int .i64 x.l, .int .i64 x.s, .int .i64 x.st, .int .i64 x.ba, .int .i64 x.se, .slice x.A x.m x.c]) 39)
        have zC := ext_alloc zB (.cells (List.toArray [.int .i64 x.f, .int .i64 x.l, .int .i64 x.s]) 37)
        have oC := (hO.alloc (.cells (List.toArray [.int .i64 x.f, .int .i64 x.l, .int .i64 x.s, .int .i64 x.st, .int .i64 x.ba, .int .i64 x.se, .slice x.A x.m x.c]) 39)).alloc (.cells (List.toArray [.int .i64 x.f, .int .i64 x.l, .int .i64 x.s]) 37)
        have rC : Rd ((wr.alloc (.cells (List.toArray [.int .i64 x.f, .int .i64 x.l, .int .i64 x.s, .int .i64 x.st, .int .i64 x.ba, .int .i64 x.se, .slice x.A x.m x.c]) 39)).alloc (.cells (List.toArray [.int .i64 x.f, .int .i64 x.l, .int .i64 x.s]) 37)) 3 (some ⟨wr.heap.size + 1, 0, none⟩) 1 [.int .i64 x.f, .int .i64 x.l, .int .i64 x.s] := by have h := Rd.of_blk (n := 1) (size := 3) (Blk.new (wr.alloc (.cells (List.toArray [.int .i64 x.f, .int .i64 x.l, .int .i64 x.s, .int .i64 x.st, .int .i64 x.ba, .int .i64 x.se, .slice x.A x.m x.c]) 39)) 37 [.int .i64 x.f, .int .i64 x.l, .int .i64 x.s]) rfl; rw [World.size_alloc] at h; exact h
        go_wp2_with (at_builtin; refine wpList_append_rd (size := 3) (bytes := 24) (base := w.heap.size) rfl (.tmp 27) (.tmp 30) rfl Try.underlying62 hi hz0 hz1 hz2 rfl (by decide) rfl oC (some ⟨wr.heap.size + 1, 0, none⟩) 1 1 [.int .i64 x.f, .int .i64 x.l, .int .i64 x.s] rfl rC (by intro u hu; simp at hu; rcases hu with rfl | rfl | rfl <;> rfl) ?m1 ?m2 ?m3 ?_)
        all_goals first | (unfold maxLen; omega) | omega | exact zC.size | skip
        intro v' w3 o3 hg3
        have z3 := own_grown zC oC zC.size hg3
        have HO3 := Lib.hid o3
        clear o3 hg3 oC rC
        go_wp2_with fail
        go_roundw
        case rel =>
          have hr2 : CvRel w n (sesOf xs) v' (.int .i64 ((k : Int) + 1)) w3 := ⟨k + 1, by omega, by simp, by rw [HCS.out]; exact HO3.out, z3⟩
          first | exact hr2 | ((repeat apply Exists.intro); exact ⟨hr2, rfl⟩)
        case measure => simp [intOf]; omega
      · obtain rfl : k = n := by omega
        have HE := Lib.hid (show (sesOf xs).take k = sesOf xs from List.take_of_length_le (by unfold sesOf; rw [List.length_map, HL.out]; exact Nat.le_refl _))
        rw [HE.out] at hO
        obtain ⟨A3, c3, rfl⟩ := own_shape hO
        go_wp2_with fail
        refine (sumFits_any A3 k c3 (curvesOf (sesOf xs)) rate _ hn6 (Rd.of_own hO) HG.out hrt).mono ?_; rintro e w4 ⟨rfl, hb4⟩
        go_wp2_with fail
        go_ret2
        exact ⟨rfl, ext_trans hb hb4⟩

set_option maxRecDepth 100000 in
set_option maxHeartbeats 4000000 in
theorem walkCurvesFit (A : Option Addr) (n c : Nat) (xs : List SesV) (hn : n ≤ 9223372036854775807) (rate : Int) (w : World) (hr : Rd w 7 A n (xs.flatMap encSes)) (hz : ∀ x ∈ xs, SRd w x) :
    Calls Try.prog 3 #[.slice A n c, .int .i64 rate] w fun e w' => e = .returned (.bool true) ∧ Below w.heap.size w w' := by
  have hl : xs.length = n := by have h1 := hr.1; rw [flat_len encSes 7 encSes_len] at h1; omega
  have HL := Lib.hid hl
  clear hl
  have hzm : ∀ x ∈ xs, x.m ≤ 9223372036854775807 := fun x hx => (hz x hx).1
  by_cases hv : szV 1048576 (n + sumM xs) < 0
  · go_enter Try.func3, Try.ntmps3
    go_wp2_with fail
    refine (szSessionS_any A n c xs _ _ hn (by omega) (by omega) hr hzm).mono ?_; rintro e w1 ⟨rfl, hb1⟩
    go_wp2_with fail
    go_ret
    exact ⟨rfl, hb1⟩
  have hsum := szV_pos hv
  have hm : n ≤ 1048576 := by omega
  have hz2 : ∀ W, Below w.heap.size w W → ∀ x ∈ xs, x.m ≤ 1048576 ∧ Rd W 1 x.A x.m (x.zs.map (Value.int .i64)) := fun W h x hx => ⟨by obtain ⟨j, hj⟩ := List.getElem?_of_mem hx; have := sumM_mem hj; omega, (hz x hx).2.below h⟩
  have HSM := Lib.hid (sumM_same (xs := xs) (fun x hx => (hz x hx).2.len1))
  have HSU := Lib.hid hsum
  clear hsum
  go_enter Try.func3, Try.ntmps3
  go_wp2_with fail
  refine (szSessionS_any A n c xs _ _ hn (by omega) (by omega) hr hzm).mono ?_; rintro e w1 ⟨rfl, hb1⟩
  have z1 := hb1
  go_wp2_with fail
  refine (toSessionS_any A n c xs _ hm (hr.below z1) (hz2 _ z1)).mono ?_; rintro e w2 ⟨ys1, rfl, hy1, hw1, hB1, hb2⟩
  have z2 := ext_trans z1 hb2
  have hl1 : (ys1.flatMap encSes).length = n * 7 := by rw [flat_len encSes 7 encSes_len, ← List.length_map (f := SesV.toSes), hy1, List.length_map, HL.out]
  have hc3 := specCurvesFit_any rate (some ⟨w1.heap.size, 0, none⟩) n n ys1 w2 hm (Rd.of_blk hB1 hl1) (fun y hy => (hw1 y hy).sz)
  rw [show sesOf ys1 = sesOf xs from hy1] at hc3
  go_wp2_with fail
  refine hc3.mono ?_; rintro e w3 ⟨rfl, hb3⟩
  have z3 := ext_trans z2 hb3
  clear hc3
  clear hw1 hB1 hy1 hl1
  go_wp2_with fail
  refine (toSessionS_any A n c xs _ hm (hr.below z3) (hz2 _ z3)).mono ?_; rintro e w4 ⟨ys2, rfl, hy2, hw2, hB2, hb4⟩
  have z4 := ext_trans z3 hb4
  have hl2 : (ys2.flatMap encSes).length = n * 7 := by rw [flat_len encSes 7 encSes_len, ← List.length_map (f := SesV.toSes), hy2, List.length_map, HL.out]
  have hc5 := implCurvesFit_any rate (some ⟨w3.heap.size, 0, none⟩) n n ys2 w4 hm (Rd.of_blk hB2 hl2) (fun y hy => (hw2 y hy).sz)
  rw [show sesOf ys2 = sesOf xs from hy2] at hc5
  go_wp2_with fail
  refine hc5.mono ?_; rintro e w5 ⟨rfl, hb5⟩
  have z5 := ext_trans z4 hb5
  clear hc5
  have hBx := hB2.below hb5
  have hwx := fun (y : SesV) (hy : y ∈ ys2) => (hw2 y hy).below hb5
  go_wp2_with fail
  refine (toSessionS_any A n c xs _ hm (hr.below z5) (hz2 _ z5)).mono ?_; rintro e w7 ⟨ys3, rfl, hy3, hw3, hB3, hb7⟩
  have z7 := ext_trans z5 hb7
  have hl3 : (ys3.flatMap encSes).length = n * 7 := by rw [flat_len encSes 7 encSes_len, ← List.length_map (f := SesV.toSes), hy3, List.length_map, HL.out]
  go_wp2_with fail
  refine (eqSessionS_same _ _ n n n ys2 ys3 _ hm (hy2.trans hy3.symm) (Rd.of_blk (hBx.below hb7) hl2) (Rd.of_blk hB3 hl3) (fun y hy => ((hwx y hy).below hb7).sz) (fun y hy => (hw3 y hy).sz)).mono ?_; rintro e w8 ⟨rfl, hb8⟩
  have z8 := ext_trans z7 hb8
  go_wp2_with fail
  go_ret
  exact ⟨rfl, z8⟩

end Go.Proofs.Ytgljelhglgeojaa