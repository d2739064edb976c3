/- AreEvents: the reference's contract. -/
import Derived.Test.YtooodokpkmfbiaaEvC
namespace Go.Proofs.Ytooodokpkmfbiaa
open Go.RowKit

def sentL (pre : List Event) : List Int := (pre.filter fun e => e.kind == 4).map Event.packet
theorem sentL_out {l : List Event} {k : Nat} {e : Event} (he : l[k]? = some e) (h4 : (e.kind == 4) = true) : sentL (l.take (k + 1)) = sentL (l.take k) ++ [e.packet] := by
  unfold sentL; rw [take_snoc he, List.filter_append, List.map_append]; simp [h4]
theorem sentL_arr {l : List Event} {k : Nat} {e : Event} (he : l[k]? = some e) (h4 : (e.kind == 4) = false) : sentL (l.take (k + 1)) = sentL (l.take k) := by
  unfold sentL; rw [take_snoc he, List.filter_append, List.map_append]; simp [h4]
theorem sentL_len (l : List Event) (k : Nat) : (sentL (l.take k)).length ≤ k := by
  unfold sentL; rw [List.length_map]
  exact Nat.le_trans (List.length_filter_le _ _) (List.length_take_le _ _)
theorem has_sent (pre : List Event) (p : Int) : hasB (sentL pre) p = sentOf pre p := by
  unfold hasB sentL sentOf isOut
  induction pre with
  | nil => rfl
  | cons e pre ih =>
    rw [List.filter_cons, List.any_cons, ← ih]
    cases (e.kind == 4) <;> simp
theorem infoIntB : (Try.prog.info? 3).map (fun i => (i.zero, i.size, i.bytes)) = some (some (.int .i64 0), 1, 8) := by kernel_rfl
def EvS (w : World) (n : Nat) (l : List Event) (last sent i : Value) (wr : World) : Prop :=
  ∃ k : Nat, k ≤ n ∧ i = .int .i64 k ∧ last = .int .i64 (prevTick l k) ∧ (∀ j, j < k → okAt l j = true) ∧ 0 ≤ prevTick l k ∧ OwnL w 3 sent (sentL (l.take k)) wr
theorem evS_arr {w wr : World} {n k : Nat} {l : List Event} {e : Event} {sent : Value} (he : l[k]? = some e) (hlt : k < n) (hch : ∀ j, j < k → okAt l j = true) (h0 : 0 ≤ prevTick l k) (hok : okEv l k e = true) (h4 : (e.kind == 4) = false)
    (h1 : OwnL w 3 sent (sentL (l.take k)) wr) : EvS w n l (.int .i64 e.tick) sent (.int .i64 ((k : Int) + 1)) wr :=
  ⟨k + 1, by omega, by simp, by rw [prev_succ he], ok_all hch (ok_at he hok), prev_ge he h0 hok, by rw [sentL_arr he h4]; exact h1⟩
theorem evS_out {w wr : World} {n k : Nat} {l : List Event} {e : Event} {sent : Value} (he : l[k]? = some e) (hlt : k < n) (hch : ∀ j, j < k → okAt l j = true) (h0 : 0 ≤ prevTick l k) (hok : okEv l k e = true) (h4 : (e.kind == 4) = true)
    (h1 : OwnL w 3 sent (sentL (l.take k) ++ [e.packet]) wr) : EvS w n l (.int .i64 e.tick) sent (.int .i64 ((k : Int) + 1)) wr :=
  ⟨k + 1, by omega, by simp, by rw [prev_succ he], ok_all hch (ok_at he hok), prev_ge he h0 hok, by rw [sentL_out he h4]; exact h1⟩
theorem arrIdx_of_none {l : List Event} {k : Nat} {e : Event} (he : l[k]? = some e) (hc : cameOf (l.take k) e.packet = none) (h4 : (e.kind == 4) = false) : arrIdx l e.packet = k :=
  arrIdx_some he (by simp [isArr, bne, h4]) (came_none hc)

set_option maxRecDepth 100000 in
set_option maxHeartbeats 40000000 in
theorem tcGood_any (A : Option Addr) (n c : Nat) (l : List Event) (w : World) (hn : n ≤ 1048576) (hr : Rd w 5 A n (l.flatMap encEvent)) :
    Calls Try.prog 22 #[.slice A n c] w fun e w' => e = .returned (.bool (eventsB l)) ∧ Below w.heap.size w w' := by
  obtain ⟨i0, hi, hz0, hz1, hz2⟩ := info_parts infoIntB
  have hl : l.length = n := by have h1 := hr.1; rw [flat_len encEvent 5 encEvent_len] at h1; omega
  have HL := Lib.hid hl
  clear hl
  go_enter Try.func22, Try.ntmps22
  go_wp2_with fail
  go_loopw [3, 4, 10] (EvS w n l) (fun _ _ i _ => n - (intOf i).toNat)
  case atStart => exact ⟨0, Nat.zero_le _, rfl, by simp [prevTick], fun j hj => by omega, by simp [prevTick], ownL_nil (ext_refl w)⟩
  case round =>
    obtain ⟨k, hk, rfl, rfl, hch, h0, hO⟩ := hrel
    have HC := Lib.hid hch
    clear hch
    have hsll := sentL_len l k
    have hb := hO.2
    by_cases hlt : k < n
    · generalize hsl : sentL (l.take k) = sl at hO hsll
      have HSL := Lib.hid hsl
      clear hsl
      obtain ⟨A1, c1, rfl⟩ := own_shape hO.1
      have HO := Lib.hid hO
      clear hO
      obtain ⟨b, o, rfl, hblb, hcellb⟩ := hr.2 (by omega)
      have hblrbe : b < wr.heap.size := Nat.lt_of_lt_of_le hblb hb.size
      have hlxe : k < l.length := by rw [HL.out]; omega
      have hxe : l[k]? = some l[k] := List.getElem?_eq_getElem hlxe
      generalize l[k] = e at hxe
      have c0 : wr.cell? ⟨b, o + (k * 5 + 0), none⟩ = some (.int .i64 e.tick) := (hb.cell (p := ⟨b, o + (k * 5 + 0), none⟩) hblb).trans (hcellb _ _ ((flat_get encEvent 5 encEvent_len l k 0 e hxe (by omega)).trans rfl))
      have c1 : wr.cell? ⟨b, o + (k * 5 + 1), none⟩ = some (.int .i64 e.kind) := (hb.cell (p := ⟨b, o + (k * 5 + 1), none⟩) hblb).trans (hcellb _ _ ((flat_get encEvent 5 encEvent_len l k 1 e hxe (by omega)).trans rfl))
      have c2 : wr.cell? ⟨b, o + (k * 5 + 2), none⟩ = some (.int .i64 e.cls) := (hb.cell (p := ⟨b, o + (k * 5 + 2), none⟩) hblb).trans (hcellb _ _ ((flat_get encEvent 5 encEvent_len l k 2 e hxe (by omega)).trans rfl))
      have c3 : wr.cell? ⟨b, o + (k * 5 + 3), none⟩ = some (.int .i64 e.packet) := (hb.cell (p := ⟨b, o + (k * 5 + 3), none⟩) hblb).trans (hcellb _ _ ((flat_get encEvent 5 encEvent_len l k 3 e hxe (by omega)).trans rfl))
      have c4 : wr.cell? ⟨b, o + (k * 5 + 4), none⟩ = some (.int .i64 e.size) := (hb.cell (p := ⟨b, o + (k * 5 + 4), none⟩) hblb).trans (hcellb _ _ ((flat_get encEvent 5 encEvent_len l k 4 e hxe (by omega)).trans rfl))
      simp only [Nat.add_zero, ← Nat.add_assoc] at c0 c1 c2 c3 c4
      have HX := Lib.hid hxe
      clear hxe hlxe
      have HCELL := Lib.hid hcellb
      clear hcellb
      have XB := Blk.new wr 39 [.int .i64 e.tick, .int .i64 e.kind, .int .i64 e.cls, .int .i64 e.packet, .int .i64 e.size]
      have zB := ext_alloc hb (.cells (List.toArray [.int .i64 e.tick, .int .i64 e.kind, .int .i64 e.cls, .int .i64 e.packet, .int .i64 e.size]) 39)
      cases h1 : evOne e (prevTick l k) with
      | false =>
        have HF := Lib.hid (okEv_bad h1)
        have H1 := Lib.hid h1
        clear h1
        generalize prevTick l k = la at *
        go_wp2_with fail
        refine (tcOne_any e _ _).mono ?_; rintro e' w1 ⟨rfl, hb1⟩
        rw [H1.out]
        go_wp2_with fail
        go_ret
        exact ⟨ret_bool (by rw [events_false HX.out HF.out]), ext_trans zB hb1⟩
      | true =>
        have H1 := Lib.hid h1
        clear h1 zB
        cases h4 : (e.kind == 4) with
        | false =>
          have h4n : (e.kind != 4) = true := by simp [bne, h4]
          cases hcm : cameOf (l.take k) e.packet with
          | some x =>
            have HF := Lib.hid (show okEv l k e = false by rw [okEv_arr H1.out h4, hcm]; rfl)
            obtain ⟨j, hj, hav, hx⟩ := came_some hcm
            have HAV := Lib.hid hav
            have gne : ((j : Int) != (k : Int)) = true := by simp; omega
            clear hcm hav hx
            go_wp2_with fail
            refine (tcOne_any e _ _).mono ?_; rintro e' w1 ⟨rfl, hb1⟩
            rw [H1.out]
            have X1 := XB.below hb1
            have O1 := ownL_ext (ownL_ext HO.out (ext_alloc (ext_refl wr) (.cells (List.toArray [.int .i64 e.tick, .int .i64 e.kind, .int .i64 e.cls, .int .i64 e.packet, .int .i64 e.size]) 39))) hb1
            obtain ⟨yq1, xq1, d1, f1⟩ := X1.five
            clear hb1
            go_wp2_with fail
            refine (tcArrival_any _ n _ l _ _ hn (hr.below O1.2)).mono ?_; rintro e' w2 ⟨rfl, hb2⟩
            rw [HAV.out]
            have X2 := X1.below hb2
            have O2 := ownL_ext O1 hb2
            clear hb2 yq1 xq1 d1 f1 X1 O1
            obtain ⟨yq2, xq2, d2, f2⟩ := X2.five
            go_wp2_with fail
            go_ret
            exact ⟨ret_bool (by rw [events_false HX.out HF.out]), O2.2⟩
          | none =>
            have HOK := Lib.hid (show okEv l k e = true by rw [okEv_arr H1.out h4, hcm]; rfl)
            have HAV := Lib.hid (arrIdx_of_none HX.out hcm h4)
            have gne : ((k : Int) != (k : Int)) = false := by simp
            clear hcm
            go_wp2_with fail
            refine (tcOne_any e _ _).mono ?_; rintro e' w1 ⟨rfl, hb1⟩
            rw [H1.out]
            have X1 := XB.below hb1
            have O1 := ownL_ext (ownL_ext HO.out (ext_alloc (ext_refl wr) (.cells (List.toArray [.int .i64 e.tick, .int .i64 e.kind, .int .i64 e.cls, .int .i64 e.packet, .int .i64 e.size]) 39))) hb1
            obtain ⟨yq1, xq1, d1, f1⟩ := X1.five
            clear hb1
            go_wp2_with fail
            refine (tcArrival_any _ n _ l _ _ hn (hr.below O1.2)).mono ?_; rintro e' w2 ⟨rfl, hb2⟩
            rw [HAV.out]
            have X2 := X1.below hb2
            have O2 := ownL_ext O1 hb2
            clear hb2 yq1 xq1 d1 f1 X1 O1
            obtain ⟨yq2, xq2, d2, f2⟩ := X2.five
            go_wp2_with fail
            go_roundw
            case rel => exact evS_arr HX.out hlt HC.out h0 HOK.out h4 (by rw [HSL.out]; exact O2)
            case measure => simp [intOf]; omega
        | true =>
          have h4n : (e.kind != 4) = false := by simp [bne, h4]
          cases hcm : cameOf (l.take k) e.packet with
          | none =>
            have HF := Lib.hid (show okEv l k e = false by rw [okEv_out H1.out h4, fit_none hcm])
            have hcs := came_none_out hcm HX.out (show isArr e.packet e = false by simp [isArr, bne, h4])
            obtain ⟨ai, hav⟩ : ∃ ai, arrIdx l e.packet = ai := ⟨_, rfl⟩
            rw [hav] at hcs
            have HAV := Lib.hid hav
            clear hcm hav
            rcases hcs with hai | hai
            · have ga : decide (ai < 0) = true := by simp; omega
              go_wp2_with fail
              refine (tcOne_any e _ _).mono ?_; rintro e' w1 ⟨rfl, hb1⟩
              rw [H1.out]
              have X1 := XB.below hb1
              have O1 := ownL_ext (ownL_ext HO.out (ext_alloc (ext_refl wr) (.cells (List.toArray [.int .i64 e.tick, .int .i64 e.kind, .int .i64 e.cls, .int .i64 e.packet, .int .i64 e.size]) 39))) hb1
              obtain ⟨yq1, xq1, d1, f1⟩ := X1.five
              clear hb1
              go_wp2_with fail
              refine (tcArrival_any _ n _ l _ _ hn (hr.below O1.2)).mono ?_; rintro e' w2 ⟨rfl, hb2⟩
              rw [HAV.out]
              have X2 := X1.below hb2
              have O2 := ownL_ext O1 hb2
              clear hb2 yq1 xq1 d1 f1 X1 O1
              obtain ⟨yq2, xq2, d2, f2⟩ := X2.five
              go_wp2_with fail
              refine wp_region_grow (by kernel_rfl) (by kernel_rfl) ?_
              intro S hne hkS ho
              have s0 : ∀ s : InC S, s.W.cell? ⟨wr.heap.size, 0, none⟩ = some (.int .i64 e.tick) := fun s => (X2.below (ho s)).cell 0
              have s1 : ∀ s : InC S, s.W.cell? ⟨wr.heap.size, 1, none⟩ = some (.int .i64 e.kind) := fun s => (X2.below (ho s)).cell 1
              have s2 : ∀ s : InC S, s.W.cell? ⟨wr.heap.size, 2, none⟩ = some (.int .i64 e.cls) := fun s => (X2.below (ho s)).cell 2
              have s3 : ∀ s : InC S, s.W.cell? ⟨wr.heap.size, 3, none⟩ = some (.int .i64 e.packet) := fun s => (X2.below (ho s)).cell 3
              have s4 : ∀ s : InC S, s.W.cell? ⟨wr.heap.size, 4, none⟩ = some (.int .i64 e.size) := fun s => (X2.below (ho s)).cell 4
              repeat (go_big_quiet_step ((fail)))
              refine wpQuiet_nil ?_
              rintro _ ⟨s, rfl⟩
              have hg4 := ho s
              have X4 := X2.below hg4
              have O4 := ownL_ext O2 hg4
              obtain ⟨yq4, xq4, d4, f4⟩ := X4.five
              clear s0 s1 s2 s3 s4 ho hkS hne
              generalize s.W = w4 at *
              clear s S
              clear hg4 yq2 xq2 d2 f2 X2 O2
              go_wp2_with fail
              go_ret
              exact ⟨ret_bool (by rw [events_false HX.out HF.out]), O4.2⟩
            · have ga : decide (ai < 0) = false := by simp; omega
              have gb : decide ((k : Int) < ai) = true := by simp; omega
              go_wp2_with fail
              refine (tcOne_any e _ _).mono ?_; rintro e' w1 ⟨rfl, hb1⟩
              rw [H1.out]
              have X1 := XB.below hb1
              have O1 := ownL_ext (ownL_ext HO.out (ext_alloc (ext_refl wr) (.cells (List.toArray [.int .i64 e.tick, .int .i64 e.kind, .int .i64 e.cls, .int .i64 e.packet, .int .i64 e.size]) 39))) hb1
              obtain ⟨yq1, xq1, d1, f1⟩ := X1.five
              clear hb1
              go_wp2_with fail
              refine (tcArrival_any _ n _ l _ _ hn (hr.below O1.2)).mono ?_; rintro e' w2 ⟨rfl, hb2⟩
              rw [HAV.out]
              have X2 := X1.below hb2
              have O2 := ownL_ext O1 hb2
              clear hb2 yq1 xq1 d1 f1 X1 O1
              obtain ⟨yq2, xq2, d2, f2⟩ := X2.five
              go_wp2_with fail
              refine wp_region_grow (by kernel_rfl) (by kernel_rfl) ?_
              intro S hne hkS ho
              have s0 : ∀ s : InC S, s.W.cell? ⟨wr.heap.size, 0, none⟩ = some (.int .i64 e.tick) := fun s => (X2.below (ho s)).cell 0
              have s1 : ∀ s : InC S, s.W.cell? ⟨wr.heap.size, 1, none⟩ = some (.int .i64 e.kind) := fun s => (X2.below (ho s)).cell 1
              have s2 : ∀ s : InC S, s.W.cell? ⟨wr.heap.size, 2, none⟩ = some (.int .i64 e.cls) := fun s => (X2.below (ho s)).cell 2
              have s3 : ∀ s : InC S, s.W.cell? ⟨wr.heap.size, 3, none⟩ = some (.int .i64 e.packet) := fun s => (X2.below (ho s)).cell 3
              have s4 : ∀ s : InC S, s.W.cell? ⟨wr.heap.size, 4, none⟩ = some (.int .i64 e.size) := fun s => (X2.below (ho s)).cell 4
              repeat (go_big_quiet_step ((fail)))
              refine wpQuiet_nil ?_
              rintro _ ⟨s, rfl⟩
              have hg4 := ho s
              have X4 := X2.below hg4
              have O4 := ownL_ext O2 hg4
              obtain ⟨yq4, xq4, d4, f4⟩ := X4.five
              clear s0 s1 s2 s3 s4 ho hkS hne
              generalize s.W = w4 at *
              clear s S
              clear hg4 yq2 xq2 d2 f2 X2 O2
              go_wp2_with fail
              go_ret
              exact ⟨ret_bool (by rw [events_false HX.out HF.out]), O4.2⟩
          | some x =>
            obtain ⟨j, hj, hav, hx⟩ := came_some hcm
            have HAV := Lib.hid hav
            have HCM := Lib.hid hcm
            have ga : decide ((j : Int) < 0) = false := by simp
            have gb : decide ((k : Int) < (j : Int)) = false := by simp; omega
            have gb2 : decide (k < j) = false := by simp; omega
            have gj0 : (0 : Int) ≤ (j : Int) := by omega
            have gj1 : (j : Int) < (n : Int) := by omega
            have e0 : w.cell? ⟨b, o + (j * 5 + 0), none⟩ = some (.int .i64 x.tick) := HCELL.out _ _ ((flat_get encEvent 5 encEvent_len l j 0 x hx (by omega)).trans rfl)
            have e1 : w.cell? ⟨b, o + (j * 5 + 1), none⟩ = some (.int .i64 x.kind) := HCELL.out _ _ ((flat_get encEvent 5 encEvent_len l j 1 x hx (by omega)).trans rfl)
            have e2 : w.cell? ⟨b, o + (j * 5 + 2), none⟩ = some (.int .i64 x.cls) := HCELL.out _ _ ((flat_get encEvent 5 encEvent_len l j 2 x hx (by omega)).trans rfl)
            have e3 : w.cell? ⟨b, o + (j * 5 + 3), none⟩ = some (.int .i64 x.packet) := HCELL.out _ _ ((flat_get encEvent 5 encEvent_len l j 3 x hx (by omega)).trans rfl)
            have e4 : w.cell? ⟨b, o + (j * 5 + 4), none⟩ = some (.int .i64 x.size) := HCELL.out _ _ ((flat_get encEvent 5 encEvent_len l j 4 x hx (by omega)).trans rfl)
            simp only [Nat.add_zero, ← Nat.add_assoc] at e0 e1 e2 e3 e4
            have HE0 := Lib.hid e0
            have HE1 := Lib.hid e1
            have HE2 := Lib.hid e2
            have HE3 := Lib.hid e3
            have HE4 := Lib.hid e4
            clear hcm hav hx e0 e1 e2 e3 e4
            cases k1 : (x.kind != 1) with
            | true =>
              have HF := Lib.hid (show okEv l k e = false by rw [okEv_out H1.out h4, fit_some HCM.out, bne_t k1]; rfl)
              go_wp2_with fail
              refine (tcOne_any e _ _).mono ?_; rintro e' w1 ⟨rfl, hb1⟩
              rw [H1.out]
              have X1 := XB.below hb1
              have O1 := ownL_ext (ownL_ext HO.out (ext_alloc (ext_refl wr) (.cells (List.toArray [.int .i64 e.tick, .int .i64 e.kind, .int .i64 e.cls, .int .i64 e.packet, .int .i64 e.size]) 39))) hb1
              obtain ⟨yq1, xq1, d1, f1⟩ := X1.five
              clear hb1
              go_wp2_with fail
              refine (tcArrival_any _ n _ l _ _ hn (hr.below O1.2)).mono ?_; rintro e' w2 ⟨rfl, hb2⟩
              rw [HAV.out]
              have X2 := X1.below hb2
              have O2 := ownL_ext O1 hb2
              clear hb2 yq1 xq1 d1 f1 X1 O1
              obtain ⟨yq2, xq2, d2, f2⟩ := X2.five
              go_wp2_with fail
              refine wp_region_grow (by kernel_rfl) (by kernel_rfl) ?_
              intro S hne hkS ho
              have s0 : ∀ s : InC S, s.W.cell? ⟨wr.heap.size, 0, none⟩ = some (.int .i64 e.tick) := fun s => (X2.below (ho s)).cell 0
              have s1 : ∀ s : InC S, s.W.cell? ⟨wr.heap.size, 1, none⟩ = some (.int .i64 e.kind) := fun s => (X2.below (ho s)).cell 1
              have s2 : ∀ s : InC S, s.W.cell? ⟨wr.heap.size, 2, none⟩ = some (.int .i64 e.cls) := fun s => (X2.below (ho s)).cell 2
              have s3 : ∀ s : InC S, s.W.cell? ⟨wr.heap.size, 3, none⟩ = some (.int .i64 e.packet) := fun s => (X2.below (ho s)).cell 3
              have s4 : ∀ s : InC S, s.W.cell? ⟨wr.heap.size, 4, none⟩ = some (.int .i64 e.size) := fun s => (X2.below (ho s)).cell 4
              have t0 : ∀ s : InC S, s.W.cell? ⟨b, o + j * 5, none⟩ = some (.int .i64 x.tick) := fun s => ((ext_trans O2.2 (ho s)).cell (p := ⟨b, o + j * 5, none⟩) hblb).trans HE0.out
              have t1 : ∀ s : InC S, s.W.cell? ⟨b, o + j * 5 + 1, none⟩ = some (.int .i64 x.kind) := fun s => ((ext_trans O2.2 (ho s)).cell (p := ⟨b, o + j * 5 + 1, none⟩) hblb).trans HE1.out
              have t2 : ∀ s : InC S, s.W.cell? ⟨b, o + j * 5 + 2, none⟩ = some (.int .i64 x.cls) := fun s => ((ext_trans O2.2 (ho s)).cell (p := ⟨b, o + j * 5 + 2, none⟩) hblb).trans HE2.out
              have t3 : ∀ s : InC S, s.W.cell? ⟨b, o + j * 5 + 3, none⟩ = some (.int .i64 x.packet) := fun s => ((ext_trans O2.2 (ho s)).cell (p := ⟨b, o + j * 5 + 3, none⟩) hblb).trans HE3.out
              have t4 : ∀ s : InC S, s.W.cell? ⟨b, o + j * 5 + 4, none⟩ = some (.int .i64 x.size) := fun s => ((ext_trans O2.2 (ho s)).cell (p := ⟨b, o + j * 5 + 4, none⟩) hblb).trans HE4.out
              repeat (go_big_quiet_step ((fail)))
              refine wpQuiet_nil ?_
              rintro _ ⟨s, rfl⟩
              have hg4 := ho s
              have X4 := X2.below hg4
              have O4 := ownL_ext O2 hg4
              obtain ⟨yq4, xq4, d4, f4⟩ := X4.five
              clear s0 s1 s2 s3 s4 t0 t1 t2 t3 t4 ho hkS hne
              generalize s.W = w4 at *
              clear s S
              clear hg4 yq2 xq2 d2 f2 X2 O2
              go_wp2_with fail
              go_ret
              exact ⟨ret_bool (by rw [events_false HX.out HF.out]), O4.2⟩
            | false =>
              cases k2 : (x.cls != e.cls) with
              | true =>
                have HF := Lib.hid (show okEv l k e = false by rw [okEv_out H1.out h4, fit_some HCM.out, bne_f k1, bne_t k2]; rfl)
                go_wp2_with fail
                refine (tcOne_any e _ _).mono ?_; rintro e' w1 ⟨rfl, hb1⟩
                rw [H1.out]
                have X1 := XB.below hb1
                have O1 := ownL_ext (ownL_ext HO.out (ext_alloc (ext_refl wr) (.cells (List.toArray [.int .i64 e.tick, .int .i64 e.kind, .int .i64 e.cls, .int .i64 e.packet, .int .i64 e.size]) 39))) hb1
                obtain ⟨yq1, xq1, d1, f1⟩ := X1.five
                clear hb1
                go_wp2_with fail
                refine (tcArrival_any _ n _ l _ _ hn (hr.below O1.2)).mono ?_; rintro e' w2 ⟨rfl, hb2⟩
                rw [HAV.out]
                have X2 := X1.below hb2
                have O2 := ownL_ext O1 hb2
                clear hb2 yq1 xq1 d1 f1 X1 O1
                obtain ⟨yq2, xq2, d2, f2⟩ := X2.five
                go_wp2_with fail
                refine wp_region_grow (by kernel_rfl) (by kernel_rfl) ?_
                intro S hne hkS ho
                have s0 : ∀ s : InC S, s.W.cell? ⟨wr.heap.size, 0, none⟩ = some (.int .i64 e.tick) := fun s => (X2.below (ho s)).cell 0
                have s1 : ∀ s : InC S, s.W.cell? ⟨wr.heap.size, 1, none⟩ = some (.int .i64 e.kind) := fun s => (X2.below (ho s)).cell 1
                have s2 : ∀ s : InC S, s.W.cell? ⟨wr.heap.size, 2, none⟩ = some (.int .i64 e.cls) := fun s => (X2.below (ho s)).cell 2
                have s3 : ∀ s : InC S, s.W.cell? ⟨wr.heap.size, 3, none⟩ = some (.int .i64 e.packet) := fun s => (X2.below (ho s)).cell 3
                have s4 : ∀ s : InC S, s.W.cell? ⟨wr.heap.size, 4, none⟩ = some (.int .i64 e.size) := fun s => (X2.below (ho s)).cell 4
                have t0 : ∀ s : InC S, s.W.cell? ⟨b, o + j * 5, none⟩ = some (.int .i64 x.tick) := fun s => ((ext_trans O2.2 (ho s)).cell (p := ⟨b, o + j * 5, none⟩) hblb).trans HE0.out
                have t1 : ∀ s : InC S, s.W.cell? ⟨b, o + j * 5 + 1, none⟩ = some (.int .i64 x.kind) := fun s => ((ext_trans O2.2 (ho s)).cell (p := ⟨b, o + j * 5 + 1, none⟩) hblb).trans HE1.out
                have t2 : ∀ s : InC S, s.W.cell? ⟨b, o + j * 5 + 2, none⟩ = some (.int .i64 x.cls) := fun s => ((ext_trans O2.2 (ho s)).cell (p := ⟨b, o + j * 5 + 2, none⟩) hblb).trans HE2.out
                have t3 : ∀ s : InC S, s.W.cell? ⟨b, o + j * 5 + 3, none⟩ = some (.int .i64 x.packet) := fun s => ((ext_trans O2.2 (ho s)).cell (p := ⟨b, o + j * 5 + 3, none⟩) hblb).trans HE3.out
                have t4 : ∀ s : InC S, s.W.cell? ⟨b, o + j * 5 + 4, none⟩ = some (.int .i64 x.size) := fun s => ((ext_trans O2.2 (ho s)).cell (p := ⟨b, o + j * 5 + 4, none⟩) hblb).trans HE4.out
                repeat (go_big_quiet_step ((fail)))
                refine wpQuiet_nil ?_
                rintro _ ⟨s, rfl⟩
                have hg4 := ho s
                have X4 := X2.below hg4
                have O4 := ownL_ext O2 hg4
                obtain ⟨yq4, xq4, d4, f4⟩ := X4.five
                clear s0 s1 s2 s3 s4 t0 t1 t2 t3 t4 ho hkS hne
                generalize s.W = w4 at *
                clear s S
                clear hg4 yq2 xq2 d2 f2 X2 O2
                go_wp2_with fail
                go_ret
                exact ⟨ret_bool (by rw [events_false HX.out HF.out]), O4.2⟩
              | false =>
                cases k3 : (x.size != e.size) with
                | true =>
                  have HF := Lib.hid (show okEv l k e = false by rw [okEv_out H1.out h4, fit_some HCM.out, bne_f k1, bne_f k2, bne_t k3]; rfl)
                  go_wp2_with fail
                  refine (tcOne_any e _ _).mono ?_; rintro e' w1 ⟨rfl, hb1⟩
                  rw [H1.out]
                  have X1 := XB.below hb1
                  have O1 := ownL_ext (ownL_ext HO.out (ext_alloc (ext_refl wr) (.cells (List.toArray [.int .i64 e.tick, .int .i64 e.kind, .int .i64 e.cls, .int .i64 e.packet, .int .i64 e.size]) 39))) hb1
                  obtain ⟨yq1, xq1, d1, f1⟩ := X1.five
                  clear hb1
                  go_wp2_with fail
                  refine (tcArrival_any _ n _ l _ _ hn (hr.below O1.2)).mono ?_; rintro e' w2 ⟨rfl, hb2⟩
                  rw [HAV.out]
                  have X2 := X1.below hb2
                  have O2 := ownL_ext O1 hb2
                  clear hb2 yq1 xq1 d1 f1 X1 O1
                  obtain ⟨yq2, xq2, d2, f2⟩ := X2.five
                  go_wp2_with fail
                  refine wp_region_grow (by kernel_rfl) (by kernel_rfl) ?_
                  intro S hne hkS ho
                  have s0 : ∀ s : InC S, s.W.cell? ⟨wr.heap.size, 0, none⟩ = some (.int .i64 e.tick) := fun s => (X2.below (ho s)).cell 0
                  have s1 : ∀ s : InC S, s.W.cell? ⟨wr.heap.size, 1, none⟩ = some (.int .i64 e.kind) := fun s => (X2.below (ho s)).cell 1
                  have s2 : ∀ s : InC S, s.W.cell? ⟨wr.heap.size, 2, none⟩ = some (.int .i64 e.cls) := fun s => (X2.below (ho s)).cell 2
                  have s3 : ∀ s : InC S, s.W.cell? ⟨wr.heap.size, 3, none⟩ = some (.int .i64 e.packet) := fun s => (X2.below (ho s)).cell 3
                  have s4 : ∀ s : InC S, s.W.cell? ⟨wr.heap.size, 4, none⟩ = some (.int .i64 e.size) := fun s => (X2.below (ho s)).cell 4
                  have t0 : ∀ s : InC S, s.W.cell? ⟨b, o + j * 5, none⟩ = some (.int .i64 x.tick) := fun s => ((ext_trans O2.2 (ho s)).cell (p := ⟨b, o + j * 5, none⟩) hblb).trans HE0.out
                  have t1 : ∀ s : InC S, s.W.cell? ⟨b, o + j * 5 + 1, none⟩ = some (.int .i64 x.kind) := fun s => ((ext_trans O2.2 (ho s)).cell (p := ⟨b, o + j * 5 + 1, none⟩) hblb).trans HE1.out
                  have t2 : ∀ s : InC S, s.W.cell? ⟨b, o + j * 5 + 2, none⟩ = some (.int .i64 x.cls) := fun s => ((ext_trans O2.2 (ho s)).cell (p := ⟨b, o + j * 5 + 2, none⟩) hblb).trans HE2.out
                  have t3 : ∀ s : InC S, s.W.cell? ⟨b, o + j * 5 + 3, none⟩ = some (.int .i64 x.packet) := fun s => ((ext_trans O2.2 (ho s)).cell (p := ⟨b, o + j * 5 + 3, none⟩) hblb).trans HE3.out
                  have t4 : ∀ s : InC S, s.W.cell? ⟨b, o + j * 5 + 4, none⟩ = some (.int .i64 x.size) := fun s => ((ext_trans O2.2 (ho s)).cell (p := ⟨b, o + j * 5 + 4, none⟩) hblb).trans HE4.out
                  repeat (go_big_quiet_step ((fail)))
                  refine wpQuiet_nil ?_
                  rintro _ ⟨s, rfl⟩
                  have hg4 := ho s
                  have X4 := X2.below hg4
                  have O4 := ownL_ext O2 hg4
                  obtain ⟨yq4, xq4, d4, f4⟩ := X4.five
                  clear s0 s1 s2 s3 s4 t0 t1 t2 t3 t4 ho hkS hne
                  generalize s.W = w4 at *
                  clear s S
                  clear hg4 yq2 xq2 d2 f2 X2 O2
                  go_wp2_with fail
                  go_ret
                  exact ⟨ret_bool (by rw [events_false HX.out HF.out]), O4.2⟩
                | false =>
                  cases hsv : sentOf (l.take k) e.packet with
                  | true =>
                    have HF := Lib.hid (show okEv l k e = false by rw [okEv_out H1.out h4, fit_some HCM.out, hsv, bne_f k1, bne_f k2, bne_f k3]; rfl)
                    have HSV := Lib.hid (show hasB sl e.packet = true by rw [← HSL.out, has_sent]; exact hsv)
                    clear hsv
                    go_wp2_with fail
                    refine (tcOne_any e _ _).mono ?_; rintro e' w1 ⟨rfl, hb1⟩
                    rw [H1.out]
                    have X1 := XB.below hb1
                    have O1 := ownL_ext (ownL_ext HO.out (ext_alloc (ext_refl wr) (.cells (List.toArray [.int .i64 e.tick, .int .i64 e.kind, .int .i64 e.cls, .int .i64 e.packet, .int .i64 e.size]) 39))) hb1
                    obtain ⟨yq1, xq1, d1, f1⟩ := X1.five
                    clear hb1
                    go_wp2_with fail
                    refine (tcArrival_any _ n _ l _ _ hn (hr.below O1.2)).mono ?_; rintro e' w2 ⟨rfl, hb2⟩
                    rw [HAV.out]
                    have X2 := X1.below hb2
                    have O2 := ownL_ext O1 hb2
                    clear hb2 yq1 xq1 d1 f1 X1 O1
                    obtain ⟨yq2, xq2, d2, f2⟩ := X2.five
                    go_wp2_with fail
                    refine wp_region_grow (by kernel_rfl) (by kernel_rfl) ?_
                    intro S hne hkS ho
                    have s0 : ∀ s : InC S, s.W.cell? ⟨wr.heap.size, 0, none⟩ = some (.int .i64 e.tick) := fun s => (X2.below (ho s)).cell 0
                    have s1 : ∀ s : InC S, s.W.cell? ⟨wr.heap.size, 1, none⟩ = some (.int .i64 e.kind) := fun s => (X2.below (ho s)).cell 1
                    have s2 : ∀ s : InC S, s.W.cell? ⟨wr.heap.size, 2, none⟩ = some (.int .i64 e.cls) := fun s => (X2.below (ho s)).cell 2
                    have s3 : ∀ s : InC S, s.W.cell? ⟨wr.heap.size, 3, none⟩ = some (.int .i64 e.packet) := fun s => (X2.below (ho s)).cell 3
                    have s4 : ∀ s : InC S, s.W.cell? ⟨wr.heap.size, 4, none⟩ = some (.int .i64 e.size) := fun s => (X2.below (ho s)).cell 4
                    have t0 : ∀ s : InC S, s.W.cell? ⟨b, o + j * 5, none⟩ = some (.int .i64 x.tick) := fun s => ((ext_trans O2.2 (ho s)).cell (p := ⟨b, o + j * 5, none⟩) hblb).trans HE0.out
                    have t1 : ∀ s : InC S, s.W.cell? ⟨b, o + j * 5 + 1, none⟩ = some (.int .i64 x.kind) := fun s => ((ext_trans O2.2 (ho s)).cell (p := ⟨b, o + j * 5 + 1, none⟩) hblb).trans HE1.out
                    have t2 : ∀ s : InC S, s.W.cell? ⟨b, o + j * 5 + 2, none⟩ = some (.int .i64 x.cls) := fun s => ((ext_trans O2.2 (ho s)).cell (p := ⟨b, o + j * 5 + 2, none⟩) hblb).trans HE2.out
                    have t3 : ∀ s : InC S, s.W.cell? ⟨b, o + j * 5 + 3, none⟩ = some (.int .i64 x.packet) := fun s => ((ext_trans O2.2 (ho s)).cell (p := ⟨b, o + j * 5 + 3, none⟩) hblb).trans HE3.out
                    have t4 : ∀ s : InC S, s.W.cell? ⟨b, o + j * 5 + 4, none⟩ = some (.int .i64 x.size) := fun s => ((ext_trans O2.2 (ho s)).cell (p := ⟨b, o + j * 5 + 4, none⟩) hblb).trans HE4.out
                    have HRD : ∀ s : InC S, Rd s.W 1 A1 sl.length (sl.map (Value.int .i64)) := fun s => (Rd.of_own O2.1).below (ho s)
                    repeat (go_big_quiet_step ((go_at_call 32; exact grow_same (l1Has_any _ _ _ sl _ _ (by omega) (HRD _)) (bool_is HSV.out))))
                    refine wpQuiet_nil ?_
                    rintro _ ⟨s, rfl⟩
                    have hg4 := ho s
                    have X4 := X2.below hg4
                    have O4 := ownL_ext O2 hg4
                    obtain ⟨yq4, xq4, d4, f4⟩ := X4.five
                    clear s0 s1 s2 s3 s4 t0 t1 t2 t3 t4 HRD ho hkS hne
                    generalize s.W = w4 at *
                    clear s S
                    clear hg4 yq2 xq2 d2 f2 X2 O2
                    go_wp2_with fail
                    go_ret
                    exact ⟨ret_bool (by rw [events_false HX.out HF.out]), O4.2⟩
                  | false =>
                    have HOK := Lib.hid (show okEv l k e = true by rw [okEv_out H1.out h4, fit_some HCM.out, hsv, bne_f k1, bne_f k2, bne_f k3]; rfl)
                    have HSV := Lib.hid (show hasB sl e.packet = false by rw [← HSL.out, has_sent]; exact hsv)
                    clear hsv
                    go_wp2_with fail
                    refine (tcOne_any e _ _).mono ?_; rintro e' w1 ⟨rfl, hb1⟩
                    rw [H1.out]
                    have X1 := XB.below hb1
                    have O1 := ownL_ext (ownL_ext HO.out (ext_alloc (ext_refl wr) (.cells (List.toArray [.int .i64 e.tick, .int .i64 e.kind, .int .i64 e.cls, .int .i64 e.packet, .int .i64 e.size]) 39))) hb1
                    obtain ⟨yq1, xq1, d1, f1⟩ := X1.five
                    clear hb1
                    go_wp2_with fail
                    refine (tcArrival_any _ n _ l _ _ hn (hr.below O1.2)).mono ?_; rintro e' w2 ⟨rfl, hb2⟩
                    rw [HAV.out]
                    have X2 := X1.below hb2
                    have O2 := ownL_ext O1 hb2
                    clear hb2 yq1 xq1 d1 f1 X1 O1
                    obtain ⟨yq2, xq2, d2, f2⟩ := X2.five
                    go_wp2_with fail
                    refine wp_region_grow (by kernel_rfl) (by kernel_rfl) ?_
                    intro S hne hkS ho
                    have s0 : ∀ s : InC S, s.W.cell? ⟨wr.heap.size, 0, none⟩ = some (.int .i64 e.tick) := fun s => (X2.below (ho s)).cell 0
                    have s1 : ∀ s : InC S, s.W.cell? ⟨wr.heap.size, 1, none⟩ = some (.int .i64 e.kind) := fun s => (X2.below (ho s)).cell 1
                    have s2 : ∀ s : InC S, s.W.cell? ⟨wr.heap.size, 2, none⟩ = some (.int .i64 e.cls) := fun s => (X2.below (ho s)).cell 2
                    have s3 : ∀ s : InC S, s.W.cell? ⟨wr.heap.size, 3, none⟩ = some (.int .i64 e.packet) := fun s => (X2.below (ho s)).cell 3
                    have s4 : ∀ s : InC S, s.W.cell? ⟨wr.heap.size, 4, none⟩ = some (.int .i64 e.size) := fun s => (X2.below (ho s)).cell 4
                    have t0 : ∀ s : InC S, s.W.cell? ⟨b, o + j * 5, none⟩ = some (.int .i64 x.tick) := fun s => ((ext_trans O2.2 (ho s)).cell (p := ⟨b, o + j * 5, none⟩) hblb).trans HE0.out
                    have t1 : ∀ s : InC S, s.W.cell? ⟨b, o + j * 5 + 1, none⟩ = some (.int .i64 x.kind) := fun s => ((ext_trans O2.2 (ho s)).cell (p := ⟨b, o + j * 5 + 1, none⟩) hblb).trans HE1.out
                    have t2 : ∀ s : InC S, s.W.cell? ⟨b, o + j * 5 + 2, none⟩ = some (.int .i64 x.cls) := fun s => ((ext_trans O2.2 (ho s)).cell (p := ⟨b, o + j * 5 + 2, none⟩) hblb).trans HE2.out
                    have t3 : ∀ s : InC S, s.W.cell? ⟨b, o + j * 5 + 3, none⟩ = some (.int .i64 x.packet) := fun s => ((ext_trans O2.2 (ho s)).cell (p := ⟨b, o + j * 5 + 3, none⟩) hblb).trans HE3.out
                    have t4 : ∀ s : InC S, s.W.cell? ⟨b, o + j * 5 + 4, none⟩ = some (.int .i64 x.size) := fun s => ((ext_trans O2.2 (ho s)).cell (p := ⟨b, o + j * 5 + 4, none⟩) hblb).trans HE4.out
                    have HRD : ∀ s : InC S, Rd s.W 1 A1 sl.length (sl.map (Value.int .i64)) := fun s => (Rd.of_own O2.1).below (ho s)
                    repeat (go_big_quiet_step ((go_at_call 32; exact grow_same (l1Has_any _ _ _ sl _ _ (by omega) (HRD _)) (bool_is HSV.out))))
                    refine wpQuiet_nil ?_
                    rintro _ ⟨s, rfl⟩
                    have hg4 := ho s
                    have X4 := X2.below hg4
                    have O4 := ownL_ext O2 hg4
                    obtain ⟨yq4, xq4, d4, f4⟩ := X4.five
                    clear s0 s1 s2 s3 s4 t0 t1 t2 t3 t4 HRD ho hkS hne
                    generalize s.W = w4 at *
                    clear s S
                    clear hg4 yq2 xq2 d2 f2 X2 O2
                    go_wp2_with (at_builtin; refine wpList_append_own _ rfl (.tmp 72) (.tmp 75) 32 rfl w.heap.size 3 i0 (.int .i64 0) 1 8 Try.underlying32 hi hz0 hz1 hz2 rfl (by decide) _ _ _ rfl (O4.1.alloc _) ⟨w4.heap.size, 0, none⟩ 1 1 [.int .i64 e.packet] rfl rfl ?c1 ?c2 ?c3 ?c4 ?c5 ?_)
                    case c1 => exact cell_one_new _ _ _
                    case c2 => simp [Value.oneCell']
                    case c3 => unfold maxLen; omega
                    case c4 => omega
                    case c5 => have := O4.2.size; simp; omega
                    intro v' w5 hown1 hg1 _
                    have O5 := ownL_push O4 hown1 hg1
                    have HO5 := Lib.hid O5
                    have X5 := (X4.alloc (.cells #[.int .i64 e.packet] 3)).grown hg1 (box_ne (O4.1.alloc (.cells #[.int .i64 e.packet] 3)) (X4.alloc (.cells #[.int .i64 e.packet] 3)) (by decide))
                    clear O5 hown1 hg1 O4 yq4 xq4 d4 f4 X4
                    go_wp2_with fail
                    go_roundw
                    case rel => first | exact evS_out HX.out hlt HC.out h0 HOK.out h4 (by rw [HSL.out]; exact HO5.out) | ((repeat apply Exists.intro); exact ⟨evS_out HX.out hlt HC.out h0 HOK.out h4 (by rw [HSL.out]; exact HO5.out), rfl⟩)
                    case measure => simp [intOf]; omega
    · have HL2 := Lib.hid hO
      clear hO
      go_wp2_with fail
      go_ret
      exact ⟨ret_bool (by rw [events_true (fun j hj => HC.out j (by rw [HL.out] at hj; omega)), HL.out]; rw [Bool.eq_iff_iff]; simp; omega), hb⟩

set_option maxHeartbeats 400000 in
theorem specAreEvents_any (A : Option Addr) (n c : Nat) (l : List Event) (w : World) (hn : n ≤ 1048576) (hr : Rd w 5 A n (l.flatMap encEvent)) :
    Calls Try.prog 8 #[.slice A n c] w fun e w' => e = .returned (.bool (eventsB l)) ∧ Below w.heap.size w w' := by
  go_enter Try.func8, Try.ntmps8
  go_wp2_with (go_at_call 22; refine (tcGood_any _ _ _ l _ hn hr).mono ?_; rintro e w1 ⟨rfl, hb1⟩)
  go_ret
  exact ⟨rfl, hb1⟩

set_option maxHeartbeats 4000000 in
theorem walkAreEvents (Al : Option Addr) (nl cl : Nat) (l : List Event) (hnl : nl ≤ 9223372036854775807) (w : World) (hrl : Rd w 5 Al nl (l.flatMap encEvent)) :
    Calls Try.prog 3 #[.slice Al nl cl] w fun e w' => e = .returned (.bool true) ∧ Below w.heap.size w w' := by
  by_cases hbigl : 1048576 < nl
  · go_enter Try.func3, Try.ntmps3
    go_wp2_with (first | (go_at_call 7; refine (szEventS_any Al nl cl _ _ hnl (by omega) (by omega)).mono ?_; rintro e w1 ⟨rfl, rfl⟩; have hsl : (if (1048576 : Int) < (nl : Int) then (-1 : Int) else 1048576 - nl) = -1 := by {{ split <;> omega }}; rw [hsl]; clear hsl) | fail)
    go_ret
    exact ⟨rfl, ext_refl w⟩
  have hml : nl ≤ 1048576 := by omega
  have z0 : Below w.heap.size w w := ext_refl w
  go_enter Try.func3, Try.ntmps3
  go_wp2_with fail
  refine (szEventS_any Al nl cl _ _ hnl (by omega) (by omega)).mono ?_; rintro e w' ⟨rfl, rfl⟩
  have hsl : (if (1048576 : Int) < (nl : Int) then (-1 : Int) else 1048576 - nl) = 1048576 - nl := by { split <;> omega }
  rw [hsl]
  clear hsl
  go_wp2_with fail
  refine (toEventS_any Al nl cl l _ hml (hrl.below z0)).mono ?_; rintro e w1 ⟨gt1, rfl, owt1, hb1⟩
  have ot11 := own_base owt1 z0.size
  have z1 := ext_trans z0 hb1
  go_wp2_with fail
  refine (specAreEvents_any _ nl _ l _ hml (Rd.of_own ot11)).mono ?_; rintro e w2 ⟨rfl, hb2⟩
  have ot12 := own_ext ot11 hb2
  have z2 := ext_trans z1 hb2
  go_wp2_with fail
  refine (toEventS_any Al nl cl l _ hml (hrl.below z2)).mono ?_; rintro e w3 ⟨gxl, rfl, owxl, hb3⟩
  have apxlt1 := apart_before ot12.lt owxl.lt
  have ot13 := own_ext ot12 hb3
  have oxl3 := own_base owxl z2.size
  have z3 := ext_trans z2 hb3
  go_wp2_with fail
  refine (implAreEvents_any _ nl _ l _ hml (Rd.of_own oxl3)).mono ?_; rintro e w4 ⟨rfl, hb4⟩
  have ot14 := own_ext ot13 hb4
  have oxl4 := own_ext oxl3 hb4
  have z4 := ext_trans z3 hb4
  go_wp2_with fail
  refine (toEventS_any Al nl cl l _ hml (hrl.below z4)).mono ?_; rintro e w5 ⟨gt3, rfl, owt3, hb5⟩
  have apt3t1 := apart_before ot14.lt owt3.lt
  have ot15 := own_ext ot14 hb5
  have apt3xl := apart_before oxl4.lt owt3.lt
  have oxl5 := own_ext oxl4 hb5
  have ot35 := own_base owt3 z4.size
  have z5 := ext_trans z4 hb5
  go_wp2_with fail
  refine (eqEventS_same _ _ nl _ _ l _ hml (Rd.of_own oxl5) (Rd.of_own ot35)).mono ?_; rintro e w6 ⟨rfl, hb6⟩
  have ot16 := own_ext ot15 hb6
  have oxl6 := own_ext oxl5 hb6
  have ot36 := own_ext ot35 hb6
  have z6 := ext_trans z5 hb6
  go_wp2_with fail
  go_ret
  exact ⟨rfl, z6⟩

end Go.Proofs.Ytooodokpkmfbiaa