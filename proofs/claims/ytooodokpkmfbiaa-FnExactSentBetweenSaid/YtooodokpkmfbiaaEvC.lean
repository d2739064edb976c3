/- AreEvents: the program's contract. -/
import Derived.Test.YtooodokpkmfbiaaEvB
namespace Go.Proofs.Ytooodokpkmfbiaa
open Go.RowKit

theorem bne_t {a b : Int} (h : (a != b) = true) : (a == b) = false := by simpa [bne] using h
theorem bne_f {a b : Int} (h : (a != b) = false) : (a == b) = true := by simpa [bne] using h
theorem take_snoc {α : Type} {xs : List α} {k : Nat} {x : α} (h : xs[k]? = some x) : xs.take (k + 1) = xs.take k ++ [x] := by rw [List.take_add_one, h]; rfl
def cameM (l : List Event) (k : Nat) (p : Int) : Option Value := (cameOf (l.take k) p).map fun e => Value.agg (encEvent e).toArray
def sentM (l : List Event) (k : Nat) (p : Int) : Option Value := if sentOf (l.take k) p then some (.bool true) else none
theorem cameM_none {l : List Event} {k : Nat} {p : Int} (h : cameOf (l.take k) p = none) : cameM l k p = none := by simp [cameM, h]
theorem cameM_some {l : List Event} {k : Nat} {p : Int} {x : Event} (h : cameOf (l.take k) p = some x) : cameM l k p = some (.agg (encEvent x).toArray) := by simp [cameM, h]
theorem sentM_get {l : List Event} {k : Nat} {p : Int} : (sentM l k p).getD (.bool false) = .bool (sentOf (l.take k) p) := by unfold sentM; cases sentOf (l.take k) p <;> rfl
theorem cameM_arr {l : List Event} {k : Nat} {e : Event} (he : l[k]? = some e) (h4 : (e.kind == 4) = false) (hc : cameOf (l.take k) e.packet = none) : cameM l (k + 1) = fun q => if q = e.packet then some (.agg (encEvent e).toArray) else cameM l k q := by
  funext q
  unfold cameM
  rw [take_snoc he, came_snoc]
  by_cases hq : q = e.packet
  · subst hq
    have : isArr e.packet e = true := by simp [isArr, bne, h4]
    simp [hc, this]
  · have : isArr q e = false := by simp [isArr]; intro _; exact fun h => hq h.symm
    simp [this, hq]
theorem cameM_out {l : List Event} {k : Nat} {e : Event} (he : l[k]? = some e) (h4 : (e.kind == 4) = true) : cameM l (k + 1) = cameM l k := by
  funext q
  unfold cameM
  rw [take_snoc he, came_snoc]
  have : isArr q e = false := by simp [isArr, bne, h4]
  simp [this]
theorem sentM_out {l : List Event} {k : Nat} {e : Event} (he : l[k]? = some e) (h4 : (e.kind == 4) = true) : sentM l (k + 1) = fun q => if q = e.packet then some (.bool true) else sentM l k q := by
  funext q
  unfold sentM
  rw [take_snoc he, sent_snoc]
  by_cases hq : q = e.packet
  · subst hq; simp [isOut, h4]
  · have : isOut q e = false := by simp [isOut]; intro _; exact fun h => hq h.symm
    simp [this, hq]
theorem sentM_arr {l : List Event} {k : Nat} {e : Event} (he : l[k]? = some e) (h4 : (e.kind == 4) = false) : sentM l (k + 1) = sentM l k := by
  funext q
  unfold sentM
  rw [take_snoc he, sent_snoc]
  have : isOut q e = false := by simp [isOut, h4]
  simp [this]
theorem evOne_up {e : Event} {t : Int} (ht : 0 ≤ t) (h : evOne e 0 = false) : evOne e t = false := by
  cases h2 : evOne e t with
  | false => rfl
  | true =>
    exfalso
    have b := (evOne_bd h2).1
    have : evOne e 0 = true := by
      simp only [evOne, Bool.and_eq_true, inB_iff] at h2 ⊢
      exact ⟨⟨⟨⟨by omega, h2.1.1.1.2⟩, h2.1.1.2⟩, h2.1.2⟩, h2.2⟩
    rw [h] at this; cases this
theorem evOne_ge {e : Event} {t : Int} (ht : t ≤ e.tick) (h : evOne e 0 = true) : evOne e t = true := by
  simp only [evOne, Bool.and_eq_true, inB_iff] at h ⊢
  exact ⟨⟨⟨⟨by omega, h.1.1.1.2⟩, h.1.1.2⟩, h.1.2⟩, h.2⟩
theorem evOne_lt {e : Event} {t : Int} (ht : e.tick < t) : evOne e t = false := by
  have : inB e.tick t 1000000 = false := by simp [inB]; omega
  simp [evOne, this]
theorem okEv_bad {l : List Event} {k : Nat} {e : Event} (h : evOne e (prevTick l k) = false) : okEv l k e = false := by simp [okEv, h]
theorem okEv_out {l : List Event} {k : Nat} {e : Event} (h1 : evOne e (prevTick l k) = true) (h4 : (e.kind == 4) = true) : okEv l k e = fitOut (l.take k) e := by
  have : e.kind = 4 := by simpa using h4
  unfold okEv; rw [h1, if_pos this]; rfl
theorem okEv_arr {l : List Event} {k : Nat} {e : Event} (h1 : evOne e (prevTick l k) = true) (h4 : (e.kind == 4) = false) : okEv l k e = (cameOf (l.take k) e.packet).isNone := by
  have : ¬ e.kind = 4 := by simpa using h4
  unfold okEv; rw [h1, if_neg this]; rfl
theorem fit_none {pre : List Event} {e : Event} (h : cameOf pre e.packet = none) : fitOut pre e = false := by simp [fitOut, h]
theorem fit_some {pre : List Event} {e x : Event} (h : cameOf pre e.packet = some x) : fitOut pre e = ((x.kind == 1) && (x.cls == e.cls) && (x.size == e.size) && !sentOf pre e.packet) := by simp [fitOut, h]
theorem ok_at {l : List Event} {k : Nat} {e : Event} (he : l[k]? = some e) (h : okEv l k e = true) : okAt l k = true := by simp [okAt, he, h]
theorem ok_all {l : List Event} {k : Nat} (hch : ∀ j, j < k → okAt l j = true) (h : okAt l k = true) : ∀ j, j < k + 1 → okAt l j = true := fun j hj => by
  by_cases hjk : j = k
  · subst hjk; exact h
  · exact hch j (by omega)
theorem one_of_ok {l : List Event} {k : Nat} {e : Event} (h : okEv l k e = true) : evOne e (prevTick l k) = true := by simp only [okEv, Bool.and_eq_true] at h; exact h.1
theorem prev_ge {l : List Event} {k : Nat} {e : Event} (he : l[k]? = some e) (h0 : 0 ≤ prevTick l k) (h : okEv l k e = true) : 0 ≤ prevTick l (k + 1) := by
  rw [prev_succ he]
  have := (evOne_bd (one_of_ok h)).1
  omega
theorem keys_in {e : Event} {t : Int} (h : evOne e t = true) : -9223372036854775808 ≤ e.packet ∧ e.packet ≤ 9223372036854775807 := by have := (evOne_bd h).2.2.1; omega
theorem zeroE (w : World) : (zeroValue 39).run Try.prog w = .ok (.agg #[.int .i64 0, .int .i64 0, .int .i64 0, .int .i64 0, .int .i64 0]) w := by kernel_rfl
theorem zeroB (w : World) : (zeroValue 4).run Try.prog w = .ok (.bool false) w := by kernel_rfl

def EvI (w : World) (n : Nat) (l : List Event) (bc bs : Nat) (i : Value) (wr : World) : Prop :=
  ∃ k : Nat, k ≤ n ∧ i = .int .i64 k ∧ (∀ j, j < k → okAt l j = true) ∧ 0 ≤ prevTick l k ∧ (∃ m, m ≤ k ∧ OwnM wr Try.prog 3 bc m (cameM l k)) ∧ (∃ m, m ≤ k ∧ OwnM wr Try.prog 3 bs m (sentM l k)) ∧ Below w.heap.size w wr
theorem evI_arr {w wr : World} {n k m m2 bc bs : Nat} {l : List Event} {e : Event} (he : l[k]? = some e) (hlt : k < n) (hch : ∀ j, j < k → okAt l j = true) (h0 : 0 ≤ prevTick l k) (hok : okEv l k e = true) (h4 : (e.kind == 4) = false) (hc : cameOf (l.take k) e.packet = none)
    (hm : m ≤ k) (h1 : OwnM wr Try.prog 3 bc (m + 1) (fun q => if q = e.packet then some (.agg (encEvent e).toArray) else cameM l k q)) (hm2 : m2 ≤ k) (h2 : OwnM wr Try.prog 3 bs m2 (sentM l k)) (hb : Below w.heap.size w wr) : EvI w n l bc bs (.int .i64 ((k : Int) + 1)) wr :=
  ⟨k + 1, by omega, by simp, ok_all hch (ok_at he hok), prev_ge he h0 hok, ⟨m + 1, by omega, by rw [cameM_arr he h4 hc]; exact h1⟩, ⟨m2, by omega, by rw [sentM_arr he h4]; exact h2⟩, hb⟩
theorem evI_out {w wr : World} {n k m m2 bc bs : Nat} {l : List Event} {e : Event} (he : l[k]? = some e) (hlt : k < n) (hch : ∀ j, j < k → okAt l j = true) (h0 : 0 ≤ prevTick l k) (hok : okEv l k e = true) (h4 : (e.kind == 4) = true)
    (hm : m ≤ k) (h1 : OwnM wr Try.prog 3 bc m (cameM l k)) (hm2 : m2 ≤ k) (h2 : OwnM wr Try.prog 3 bs (m2 + 1) (fun q => if q = e.packet then some (.bool true) else sentM l k q)) (hb : Below w.heap.size w wr) : EvI w n l bc bs (.int .i64 ((k : Int) + 1)) wr :=
  ⟨k + 1, by omega, by simp, ok_all hch (ok_at he hok), prev_ge he h0 hok, ⟨m, by omega, by rw [cameM_out he h4]; exact h1⟩, ⟨m2 + 1, by omega, by rw [sentM_out he h4]; exact h2⟩, hb⟩

set_option maxRecDepth 100000 in
set_option maxHeartbeats 40000000 in
theorem implAreEvents_any (A : Option Addr) (n c : Nat) (l : List Event) (w : World) (hn : n ≤ 1048576) (hr : Rd w 5 A n (l.flatMap encEvent)) :
    Calls Try.prog 10 #[.slice A n c] w fun e w' => e = .returned (.bool (eventsB l)) ∧ Below w.heap.size w w' := by
  have hl : l.length = n := by have h1 := hr.1; rw [flat_len encEvent 5 encEvent_len] at h1; omega
  by_cases h80 : 80 < n
  · have HE := Lib.hid (show eventsB l = false by unfold eventsB; rw [show decide (l.length ≤ 80) = false by simp; omega, Bool.and_false])
    go_enter Try.func10, Try.ntmps10
    go_wp2_with fail
    go_ret
    exact ⟨ret_bool (by rw [HE.out]), ext_refl w⟩
  have h80' : n ≤ 80 := by omega
  have HL := Lib.hid hl
  clear hl
  have hmm := @run_makeMap Try.prog
  go_enter Try.func10, Try.ntmps10
  go_wp2_with fail
  clear hmm
  go_loopw [16] (EvI w n l w.heap.size (w.heap.size + 1)) (fun i _ => n - (intOf i).toNat)
  case atStart =>
    refine ⟨0, Nat.zero_le _, rfl, fun j hj => by omega, by simp [prevTick], ⟨0, Nat.le_refl _, ?_⟩, ⟨0, Nat.le_refl _, ?_⟩, ext_alloc (ext_alloc (ext_refl w) _) _⟩
    · exact (ownM_made w _ _).alloc _
    · have h := ownM_made (w.alloc (.map #[] 0)) Try.prog 3
      rw [World.size_alloc] at h
      exact h
  case round =>
    obtain ⟨k, hk, rfl, hch, h0, ⟨m1, hm1, HMC⟩, ⟨m2, hm2, HMS⟩, hb⟩ := hrel
    have HC := Lib.hid hch
    clear hch
    by_cases hlt : k < n
    ·
      obtain ⟨b, o, rfl, hblb, hcellb⟩ := hr.2 (by omega)
      have hblrbe : b < wr.heap.size := Nat.lt_of_lt_of_le hblb hb.size
      have hlxe : k < l.length := by rw [HL.out]; omega
      have hxe : l[k]? = some l[k] := List.getElem?_eq_getElem hlxe
      generalize l[k] = e at hxe
      have c0 : wr.cell? ⟨b, o + (k * 5 + 0), none⟩ = some (.int .i64 e.tick) := (hb.cell (p := ⟨b, o + (k * 5 + 0), none⟩) hblb).trans (hcellb _ _ ((flat_get encEvent 5 encEvent_len l k 0 e hxe (by omega)).trans rfl))
      have c1 : wr.cell? ⟨b, o + (k * 5 + 1), none⟩ = some (.int .i64 e.kind) := (hb.cell (p := ⟨b, o + (k * 5 + 1), none⟩) hblb).trans (hcellb _ _ ((flat_get encEvent 5 encEvent_len l k 1 e hxe (by omega)).trans rfl))
      have c2 : wr.cell? ⟨b, o + (k * 5 + 2), none⟩ = some (.int .i64 e.cls) := (hb.cell (p := ⟨b, o + (k * 5 + 2), none⟩) hblb).trans (hcellb _ _ ((flat_get encEvent 5 encEvent_len l k 2 e hxe (by omega)).trans rfl))
      have c3 : wr.cell? ⟨b, o + (k * 5 + 3), none⟩ = some (.int .i64 e.packet) := (hb.cell (p := ⟨b, o + (k * 5 + 3), none⟩) hblb).trans (hcellb _ _ ((flat_get encEvent 5 encEvent_len l k 3 e hxe (by omega)).trans rfl))
      have c4 : wr.cell? ⟨b, o + (k * 5 + 4), none⟩ = some (.int .i64 e.size) := (hb.cell (p := ⟨b, o + (k * 5 + 4), none⟩) hblb).trans (hcellb _ _ ((flat_get encEvent 5 encEvent_len l k 4 e hxe (by omega)).trans rfl))
      simp only [Nat.add_zero, ← Nat.add_assoc] at c0 c1 c2 c3 c4
      have HX := Lib.hid hxe
      clear hxe hlxe
      have HCELL := Lib.hid hcellb
      clear hcellb
      have XB := Blk.new wr 39 [.int .i64 e.tick, .int .i64 e.kind, .int .i64 e.cls, .int .i64 e.packet, .int .i64 e.size]
      have zB := ext_alloc hb (.cells (List.toArray [.int .i64 e.tick, .int .i64 e.kind, .int .i64 e.cls, .int .i64 e.packet, .int .i64 e.size]) 39)
      have wz := hb.size
      cases h1 : evOne e 0 with
      | false =>
        have HF := Lib.hid (okEv_bad (l := l) (k := k) (evOne_up h0 h1))
        go_wp2_with fail
        refine wp_region_grow (by kernel_rfl) (by kernel_rfl) ?_
        intro S hne hkS ho
        have s0 : ∀ s : InC S, s.W.cell? ⟨wr.heap.size, 0, none⟩ = some (.int .i64 e.tick) := fun s => (XB.below (ho s)).cell 0
        have s1 : ∀ s : InC S, s.W.cell? ⟨wr.heap.size, 1, none⟩ = some (.int .i64 e.kind) := fun s => (XB.below (ho s)).cell 1
        have s2 : ∀ s : InC S, s.W.cell? ⟨wr.heap.size, 2, none⟩ = some (.int .i64 e.cls) := fun s => (XB.below (ho s)).cell 2
        have s3 : ∀ s : InC S, s.W.cell? ⟨wr.heap.size, 3, none⟩ = some (.int .i64 e.packet) := fun s => (XB.below (ho s)).cell 3
        have s4 : ∀ s : InC S, s.W.cell? ⟨wr.heap.size, 4, none⟩ = some (.int .i64 e.size) := fun s => (XB.below (ho s)).cell 4
        repeat (go_big_quiet_step ((go_at_call 24; exact grow_call hkS (eventRight_any e _) (bool_is h1))))
        refine wpQuiet_nil ?_
        rintro _ ⟨s, rfl⟩
        have hg1 := ho s
        have X1 := XB.below hg1
        have z1 := ext_trans zB hg1
        have C1 := (HMC.alloc _).below hg1
        have S1 := (HMS.alloc _).below hg1
        obtain ⟨yq1, xq1, d1, f1⟩ := X1.five
        clear s0 s1 s2 s3 s4 ho hkS hne
        generalize s.W = w1 at *
        clear s S
        clear hg1
        go_wp2_with fail
        go_ret
        exact ⟨ret_bool (by rw [events_false HX.out HF.out]), z1⟩
      | true =>
        by_cases hk0 : k = 0
        · have g0 : decide (0 < k) = false := by simp; omega
          have hone : evOne e (prevTick l k) = true := by subst hk0; exact h1
          have HK0 := Lib.hid hk0
          clear hk0
          have H1 := Lib.hid hone
          have HK := Lib.hid (keys_in hone)
          clear hone
          cases h4 : (e.kind == 4) with
          | false =>
            cases hcm : cameOf (l.take k) e.packet with
            | some x =>
              have HF := Lib.hid (show okEv l k e = false by rw [okEv_arr H1.out h4, hcm]; rfl)
              have HCM := Lib.hid hcm
              clear hcm
              go_wp2_with fail
              refine wp_region_grow (by kernel_rfl) (by kernel_rfl) ?_
              intro S hne hkS ho
              have s0 : ∀ s : InC S, s.W.cell? ⟨wr.heap.size, 0, none⟩ = some (.int .i64 e.tick) := fun s => (XB.below (ho s)).cell 0
              have s1 : ∀ s : InC S, s.W.cell? ⟨wr.heap.size, 1, none⟩ = some (.int .i64 e.kind) := fun s => (XB.below (ho s)).cell 1
              have s2 : ∀ s : InC S, s.W.cell? ⟨wr.heap.size, 2, none⟩ = some (.int .i64 e.cls) := fun s => (XB.below (ho s)).cell 2
              have s3 : ∀ s : InC S, s.W.cell? ⟨wr.heap.size, 3, none⟩ = some (.int .i64 e.packet) := fun s => (XB.below (ho s)).cell 3
              have s4 : ∀ s : InC S, s.W.cell? ⟨wr.heap.size, 4, none⟩ = some (.int .i64 e.size) := fun s => (XB.below (ho s)).cell 4
              repeat (go_big_quiet_step ((go_at_call 24; exact grow_call hkS (eventRight_any e _) (bool_is h1))))
              refine wpQuiet_nil ?_
              rintro _ ⟨s, rfl⟩
              have hg1 := ho s
              have X1 := XB.below hg1
              have z1 := ext_trans zB hg1
              have C1 := (HMC.alloc _).below hg1
              have S1 := (HMS.alloc _).below hg1
              obtain ⟨yq1, xq1, d1, f1⟩ := X1.five
              clear s0 s1 s2 s3 s4 ho hkS hne
              generalize s.W = w1 at *
              clear s S
              clear hg1
              have lk : (Instr.lookup 42 (.map (some w.heap.size)) (.int .i64 e.packet) true).run Try.prog w1 = .ok (.tuple #[.agg #[.int .i64 x.tick, .int .i64 x.kind, .int .i64 x.cls, .int .i64 x.packet, .int .i64 x.size], .bool true]) w1 := by
                have h := C1.look_ok (t := 42) Try.underlying3 Try.underlying42 (zeroE w1) HK.out
                rw [cameM_some HCM.out] at h; exact h
              have X2 := X1.alloc (.cells (List.toArray [.int .i64 x.tick, .int .i64 x.kind, .int .i64 x.cls, .int .i64 x.packet, .int .i64 x.size]) 39)
              have Y2 := Blk.new w1 39 [.int .i64 x.tick, .int .i64 x.kind, .int .i64 x.cls, .int .i64 x.packet, .int .i64 x.size]
              have z2 := ext_alloc z1 (.cells (List.toArray [.int .i64 x.tick, .int .i64 x.kind, .int .i64 x.cls, .int .i64 x.packet, .int .i64 x.size]) 39)
              have C2 := C1.alloc (.cells (List.toArray [.int .i64 x.tick, .int .i64 x.kind, .int .i64 x.cls, .int .i64 x.packet, .int .i64 x.size]) 39)
              have S2 := S1.alloc (.cells (List.toArray [.int .i64 x.tick, .int .i64 x.kind, .int .i64 x.cls, .int .i64 x.packet, .int .i64 x.size]) 39)
              go_wp2_with fail
              go_ret
              exact ⟨ret_bool (by rw [events_false HX.out HF.out]), z2⟩
            | none =>
              have HOK := Lib.hid (show okEv l k e = true by rw [okEv_arr H1.out h4, hcm]; rfl)
              have HCM := Lib.hid hcm
              clear hcm
              go_wp2_with fail
              refine wp_region_grow (by kernel_rfl) (by kernel_rfl) ?_
              intro S hne hkS ho
              have s0 : ∀ s : InC S, s.W.cell? ⟨wr.heap.size, 0, none⟩ = some (.int .i64 e.tick) := fun s => (XB.below (ho s)).cell 0
              have s1 : ∀ s : InC S, s.W.cell? ⟨wr.heap.size, 1, none⟩ = some (.int .i64 e.kind) := fun s => (XB.below (ho s)).cell 1
              have s2 : ∀ s : InC S, s.W.cell? ⟨wr.heap.size, 2, none⟩ = some (.int .i64 e.cls) := fun s => (XB.below (ho s)).cell 2
              have s3 : ∀ s : InC S, s.W.cell? ⟨wr.heap.size, 3, none⟩ = some (.int .i64 e.packet) := fun s => (XB.below (ho s)).cell 3
              have s4 : ∀ s : InC S, s.W.cell? ⟨wr.heap.size, 4, none⟩ = some (.int .i64 e.size) := fun s => (XB.below (ho s)).cell 4
              repeat (go_big_quiet_step ((go_at_call 24; exact grow_call hkS (eventRight_any e _) (bool_is h1))))
              refine wpQuiet_nil ?_
              rintro _ ⟨s, rfl⟩
              have hg1 := ho s
              have X1 := XB.below hg1
              have z1 := ext_trans zB hg1
              have C1 := (HMC.alloc _).below hg1
              have S1 := (HMS.alloc _).below hg1
              obtain ⟨yq1, xq1, d1, f1⟩ := X1.five
              clear s0 s1 s2 s3 s4 ho hkS hne
              generalize s.W = w1 at *
              clear s S
              clear hg1
              have lk : (Instr.lookup 42 (.map (some w.heap.size)) (.int .i64 e.packet) true).run Try.prog w1 = .ok (.tuple #[.agg #[.int .i64 0, .int .i64 0, .int .i64 0, .int .i64 0, .int .i64 0], .bool false]) w1 := by
                have h := C1.look_ok (t := 42) Try.underlying3 Try.underlying42 (zeroE w1) HK.out
                rw [cameM_none HCM.out] at h; exact h
              have X2 := X1.alloc (.cells (List.toArray [.int .i64 0, .int .i64 0, .int .i64 0, .int .i64 0, .int .i64 0]) 39)
              have Y2 := Blk.new w1 39 [.int .i64 0, .int .i64 0, .int .i64 0, .int .i64 0, .int .i64 0]
              have z2 := ext_alloc z1 (.cells (List.toArray [.int .i64 0, .int .i64 0, .int .i64 0, .int .i64 0, .int .i64 0]) 39)
              have C2 := C1.alloc (.cells (List.toArray [.int .i64 0, .int .i64 0, .int .i64 0, .int .i64 0, .int .i64 0]) 39)
              have S2 := S1.alloc (.cells (List.toArray [.int .i64 0, .int .i64 0, .int .i64 0, .int .i64 0, .int .i64 0]) 39)
              obtain ⟨w3, hrun, C3, hg3⟩ := C2.update (t := 42) Try.underlying3 Try.underlying42 (by unfold maxLen; omega) HK.out (.agg #[.int .i64 e.tick, .int .i64 e.kind, .int .i64 e.cls, .int .i64 e.packet, .int .i64 e.size])
              have S3 := S2.kept hg3 (by simp)
              have z3 := z2.grown hg3 z2.size (fun q hq => by simp at hq; omega)
              clear C2 S2 z2 hg3 C1 S1
              go_wp2_with fail
              go_roundw
              case rel => exact evI_arr HX.out hlt HC.out h0 HOK.out h4 HCM.out hm1 C3 hm2 S3 z3
              case measure => simp [intOf]; omega
          | true =>
            cases hcm : cameOf (l.take k) e.packet with
            | none =>
              have HF := Lib.hid (show okEv l k e = false by rw [okEv_out H1.out h4, fit_none hcm])
              have HCM := Lib.hid hcm
              clear hcm
              go_wp2_with fail
              refine wp_region_grow (by kernel_rfl) (by kernel_rfl) ?_
              intro S hne hkS ho
              have s0 : ∀ s : InC S, s.W.cell? ⟨wr.heap.size, 0, none⟩ = some (.int .i64 e.tick) := fun s => (XB.below (ho s)).cell 0
              have s1 : ∀ s : InC S, s.W.cell? ⟨wr.heap.size, 1, none⟩ = some (.int .i64 e.kind) := fun s => (XB.below (ho s)).cell 1
              have s2 : ∀ s : InC S, s.W.cell? ⟨wr.heap.size, 2, none⟩ = some (.int .i64 e.cls) := fun s => (XB.below (ho s)).cell 2
              have s3 : ∀ s : InC S, s.W.cell? ⟨wr.heap.size, 3, none⟩ = some (.int .i64 e.packet) := fun s => (XB.below (ho s)).cell 3
              have s4 : ∀ s : InC S, s.W.cell? ⟨wr.heap.size, 4, none⟩ = some (.int .i64 e.size) := fun s => (XB.below (ho s)).cell 4
              repeat (go_big_quiet_step ((go_at_call 24; exact grow_call hkS (eventRight_any e _) (bool_is h1))))
              refine wpQuiet_nil ?_
              rintro _ ⟨s, rfl⟩
              have hg1 := ho s
              have X1 := XB.below hg1
              have z1 := ext_trans zB hg1
              have C1 := (HMC.alloc _).below hg1
              have S1 := (HMS.alloc _).below hg1
              obtain ⟨yq1, xq1, d1, f1⟩ := X1.five
              clear s0 s1 s2 s3 s4 ho hkS hne
              generalize s.W = w1 at *
              clear s S
              clear hg1
              have lk : (Instr.lookup 42 (.map (some w.heap.size)) (.int .i64 e.packet) true).run Try.prog w1 = .ok (.tuple #[.agg #[.int .i64 0, .int .i64 0, .int .i64 0, .int .i64 0, .int .i64 0], .bool false]) w1 := by
                have h := C1.look_ok (t := 42) Try.underlying3 Try.underlying42 (zeroE w1) HK.out
                rw [cameM_none HCM.out] at h; exact h
              have X2 := X1.alloc (.cells (List.toArray [.int .i64 0, .int .i64 0, .int .i64 0, .int .i64 0, .int .i64 0]) 39)
              have Y2 := Blk.new w1 39 [.int .i64 0, .int .i64 0, .int .i64 0, .int .i64 0, .int .i64 0]
              have z2 := ext_alloc z1 (.cells (List.toArray [.int .i64 0, .int .i64 0, .int .i64 0, .int .i64 0, .int .i64 0]) 39)
              have C2 := C1.alloc (.cells (List.toArray [.int .i64 0, .int .i64 0, .int .i64 0, .int .i64 0, .int .i64 0]) 39)
              have S2 := S1.alloc (.cells (List.toArray [.int .i64 0, .int .i64 0, .int .i64 0, .int .i64 0, .int .i64 0]) 39)
              go_wp2_with fail
              go_ret
              exact ⟨ret_bool (by rw [events_false HX.out HF.out]), z2⟩
            | some x =>
              have HCM := Lib.hid hcm
              clear hcm
              cases k1 : (x.kind != 1) with
              | true =>
                have HF := Lib.hid (show okEv l k e = false by rw [okEv_out H1.out h4, fit_some HCM.out, bne_t k1]; rfl)
                go_wp2_with fail
                refine wp_region_grow (by kernel_rfl) (by kernel_rfl) ?_
                intro S hne hkS ho
                have s0 : ∀ s : InC S, s.W.cell? ⟨wr.heap.size, 0, none⟩ = some (.int .i64 e.tick) := fun s => (XB.below (ho s)).cell 0
                have s1 : ∀ s : InC S, s.W.cell? ⟨wr.heap.size, 1, none⟩ = some (.int .i64 e.kind) := fun s => (XB.below (ho s)).cell 1
                have s2 : ∀ s : InC S, s.W.cell? ⟨wr.heap.size, 2, none⟩ = some (.int .i64 e.cls) := fun s => (XB.below (ho s)).cell 2
                have s3 : ∀ s : InC S, s.W.cell? ⟨wr.heap.size, 3, none⟩ = some (.int .i64 e.packet) := fun s => (XB.below (ho s)).cell 3
                have s4 : ∀ s : InC S, s.W.cell? ⟨wr.heap.size, 4, none⟩ = some (.int .i64 e.size) := fun s => (XB.below (ho s)).cell 4
                repeat (go_big_quiet_step ((go_at_call 24; exact grow_call hkS (eventRight_any e _) (bool_is h1))))
                refine wpQuiet_nil ?_
                rintro _ ⟨s, rfl⟩
                have hg1 := ho s
                have X1 := XB.below hg1
                have z1 := ext_trans zB hg1
                have C1 := (HMC.alloc _).below hg1
                have S1 := (HMS.alloc _).below hg1
                obtain ⟨yq1, xq1, d1, f1⟩ := X1.five
                clear s0 s1 s2 s3 s4 ho hkS hne
                generalize s.W = w1 at *
                clear s S
                clear hg1
                have lk : (Instr.lookup 42 (.map (some w.heap.size)) (.int .i64 e.packet) true).run Try.prog w1 = .ok (.tuple #[.agg #[.int .i64 x.tick, .int .i64 x.kind, .int .i64 x.cls, .int .i64 x.packet, .int .i64 x.size], .bool true]) w1 := by
                  have h := C1.look_ok (t := 42) Try.underlying3 Try.underlying42 (zeroE w1) HK.out
                  rw [cameM_some HCM.out] at h; exact h
                have X2 := X1.alloc (.cells (List.toArray [.int .i64 x.tick, .int .i64 x.kind, .int .i64 x.cls, .int .i64 x.packet, .int .i64 x.size]) 39)
                have Y2 := Blk.new w1 39 [.int .i64 x.tick, .int .i64 x.kind, .int .i64 x.cls, .int .i64 x.packet, .int .i64 x.size]
                have z2 := ext_alloc z1 (.cells (List.toArray [.int .i64 x.tick, .int .i64 x.kind, .int .i64 x.cls, .int .i64 x.packet, .int .i64 x.size]) 39)
                have C2 := C1.alloc (.cells (List.toArray [.int .i64 x.tick, .int .i64 x.kind, .int .i64 x.cls, .int .i64 x.packet, .int .i64 x.size]) 39)
                have S2 := S1.alloc (.cells (List.toArray [.int .i64 x.tick, .int .i64 x.kind, .int .i64 x.cls, .int .i64 x.packet, .int .i64 x.size]) 39)
                go_wp2_with fail
                go_ret
                exact ⟨ret_bool (by rw [events_false HX.out HF.out]), z2⟩
              | false =>
                cases k2 : (x.cls != e.cls) with
                | true =>
                  have HF := Lib.hid (show okEv l k e = false by rw [okEv_out H1.out h4, fit_some HCM.out, bne_f k1, bne_t k2]; rfl)
                  go_wp2_with fail
                  refine wp_region_grow (by kernel_rfl) (by kernel_rfl) ?_
                  intro S hne hkS ho
                  have s0 : ∀ s : InC S, s.W.cell? ⟨wr.heap.size, 0, none⟩ = some (.int .i64 e.tick) := fun s => (XB.below (ho s)).cell 0
                  have s1 : ∀ s : InC S, s.W.cell? ⟨wr.heap.size, 1, none⟩ = some (.int .i64 e.kind) := fun s => (XB.below (ho s)).cell 1
                  have s2 : ∀ s : InC S, s.W.cell? ⟨wr.heap.size, 2, none⟩ = some (.int .i64 e.cls) := fun s => (XB.below (ho s)).cell 2
                  have s3 : ∀ s : InC S, s.W.cell? ⟨wr.heap.size, 3, none⟩ = some (.int .i64 e.packet) := fun s => (XB.below (ho s)).cell 3
                  have s4 : ∀ s : InC S, s.W.cell? ⟨wr.heap.size, 4, none⟩ = some (.int .i64 e.size) := fun s => (XB.below (ho s)).cell 4
                  repeat (go_big_quiet_step ((go_at_call 24; exact grow_call hkS (eventRight_any e _) (bool_is h1))))
                  refine wpQuiet_nil ?_
                  rintro _ ⟨s, rfl⟩
                  have hg1 := ho s
                  have X1 := XB.below hg1
                  have z1 := ext_trans zB hg1
                  have C1 := (HMC.alloc _).below hg1
                  have S1 := (HMS.alloc _).below hg1
                  obtain ⟨yq1, xq1, d1, f1⟩ := X1.five
                  clear s0 s1 s2 s3 s4 ho hkS hne
                  generalize s.W = w1 at *
                  clear s S
                  clear hg1
                  have lk : (Instr.lookup 42 (.map (some w.heap.size)) (.int .i64 e.packet) true).run Try.prog w1 = .ok (.tuple #[.agg #[.int .i64 x.tick, .int .i64 x.kind, .int .i64 x.cls, .int .i64 x.packet, .int .i64 x.size], .bool true]) w1 := by
                    have h := C1.look_ok (t := 42) Try.underlying3 Try.underlying42 (zeroE w1) HK.out
                    rw [cameM_some HCM.out] at h; exact h
                  have X2 := X1.alloc (.cells (List.toArray [.int .i64 x.tick, .int .i64 x.kind, .int .i64 x.cls, .int .i64 x.packet, .int .i64 x.size]) 39)
                  have Y2 := Blk.new w1 39 [.int .i64 x.tick, .int .i64 x.kind, .int .i64 x.cls, .int .i64 x.packet, .int .i64 x.size]
                  have z2 := ext_alloc z1 (.cells (List.toArray [.int .i64 x.tick, .int .i64 x.kind, .int .i64 x.cls, .int .i64 x.packet, .int .i64 x.size]) 39)
                  have C2 := C1.alloc (.cells (List.toArray [.int .i64 x.tick, .int .i64 x.kind, .int .i64 x.cls, .int .i64 x.packet, .int .i64 x.size]) 39)
                  have S2 := S1.alloc (.cells (List.toArray [.int .i64 x.tick, .int .i64 x.kind, .int .i64 x.cls, .int .i64 x.packet, .int .i64 x.size]) 39)
                  go_wp2_with fail
                  go_ret
                  exact ⟨ret_bool (by rw [events_false HX.out HF.out]), z2⟩
                | false =>
                  cases k3 : (x.size != e.size) with
                  | true =>
                    have HF := Lib.hid (show okEv l k e = false by rw [okEv_out H1.out h4, fit_some HCM.out, bne_f k1, bne_f k2, bne_t k3]; rfl)
                    go_wp2_with fail
                    refine wp_region_grow (by kernel_rfl) (by kernel_rfl) ?_
                    intro S hne hkS ho
                    have s0 : ∀ s : InC S, s.W.cell? ⟨wr.heap.size, 0, none⟩ = some (.int .i64 e.tick) := fun s => (XB.below (ho s)).cell 0
                    have s1 : ∀ s : InC S, s.W.cell? ⟨wr.heap.size, 1, none⟩ = some (.int .i64 e.kind) := fun s => (XB.below (ho s)).cell 1
                    have s2 : ∀ s : InC S, s.W.cell? ⟨wr.heap.size, 2, none⟩ = some (.int .i64 e.cls) := fun s => (XB.below (ho s)).cell 2
                    have s3 : ∀ s : InC S, s.W.cell? ⟨wr.heap.size, 3, none⟩ = some (.int .i64 e.packet) := fun s => (XB.below (ho s)).cell 3
                    have s4 : ∀ s : InC S, s.W.cell? ⟨wr.heap.size, 4, none⟩ = some (.int .i64 e.size) := fun s => (XB.below (ho s)).cell 4
                    repeat (go_big_quiet_step ((go_at_call 24; exact grow_call hkS (eventRight_any e _) (bool_is h1))))
                    refine wpQuiet_nil ?_
                    rintro _ ⟨s, rfl⟩
                    have hg1 := ho s
                    have X1 := XB.below hg1
                    have z1 := ext_trans zB hg1
                    have C1 := (HMC.alloc _).below hg1
                    have S1 := (HMS.alloc _).below hg1
                    obtain ⟨yq1, xq1, d1, f1⟩ := X1.five
                    clear s0 s1 s2 s3 s4 ho hkS hne
                    generalize s.W = w1 at *
                    clear s S
                    clear hg1
                    have lk : (Instr.lookup 42 (.map (some w.heap.size)) (.int .i64 e.packet) true).run Try.prog w1 = .ok (.tuple #[.agg #[.int .i64 x.tick, .int .i64 x.kind, .int .i64 x.cls, .int .i64 x.packet, .int .i64 x.size], .bool true]) w1 := by
                      have h := C1.look_ok (t := 42) Try.underlying3 Try.underlying42 (zeroE w1) HK.out
                      rw [cameM_some HCM.out] at h; exact h
                    have X2 := X1.alloc (.cells (List.toArray [.int .i64 x.tick, .int .i64 x.kind, .int .i64 x.cls, .int .i64 x.packet, .int .i64 x.size]) 39)
                    have Y2 := Blk.new w1 39 [.int .i64 x.tick, .int .i64 x.kind, .int .i64 x.cls, .int .i64 x.packet, .int .i64 x.size]
                    have z2 := ext_alloc z1 (.cells (List.toArray [.int .i64 x.tick, .int .i64 x.kind, .int .i64 x.cls, .int .i64 x.packet, .int .i64 x.size]) 39)
                    have C2 := C1.alloc (.cells (List.toArray [.int .i64 x.tick, .int .i64 x.kind, .int .i64 x.cls, .int .i64 x.packet, .int .i64 x.size]) 39)
                    have S2 := S1.alloc (.cells (List.toArray [.int .i64 x.tick, .int .i64 x.kind, .int .i64 x.cls, .int .i64 x.packet, .int .i64 x.size]) 39)
                    go_wp2_with fail
                    go_ret
                    exact ⟨ret_bool (by rw [events_false HX.out HF.out]), z2⟩
                  | false =>
                    cases hsv : sentOf (l.take k) e.packet with
                    | true =>
                      have HF := Lib.hid (show okEv l k e = false by rw [okEv_out H1.out h4, fit_some HCM.out, hsv, bne_f k1, bne_f k2, bne_f k3]; rfl)
                      have HSV := Lib.hid hsv
                      clear hsv
                      go_wp2_with fail
                      refine wp_region_grow (by kernel_rfl) (by kernel_rfl) ?_
                      intro S hne hkS ho
                      have s0 : ∀ s : InC S, s.W.cell? ⟨wr.heap.size, 0, none⟩ = some (.int .i64 e.tick) := fun s => (XB.below (ho s)).cell 0
                      have s1 : ∀ s : InC S, s.W.cell? ⟨wr.heap.size, 1, none⟩ = some (.int .i64 e.kind) := fun s => (XB.below (ho s)).cell 1
                      have s2 : ∀ s : InC S, s.W.cell? ⟨wr.heap.size, 2, none⟩ = some (.int .i64 e.cls) := fun s => (XB.below (ho s)).cell 2
                      have s3 : ∀ s : InC S, s.W.cell? ⟨wr.heap.size, 3, none⟩ = some (.int .i64 e.packet) := fun s => (XB.below (ho s)).cell 3
                      have s4 : ∀ s : InC S, s.W.cell? ⟨wr.heap.size, 4, none⟩ = some (.int .i64 e.size) := fun s => (XB.below (ho s)).cell 4
                      repeat (go_big_quiet_step ((go_at_call 24; exact grow_call hkS (eventRight_any e _) (bool_is h1))))
                      refine wpQuiet_nil ?_
                      rintro _ ⟨s, rfl⟩
                      have hg1 := ho s
                      have X1 := XB.below hg1
                      have z1 := ext_trans zB hg1
                      have C1 := (HMC.alloc _).below hg1
                      have S1 := (HMS.alloc _).below hg1
                      obtain ⟨yq1, xq1, d1, f1⟩ := X1.five
                      clear s0 s1 s2 s3 s4 ho hkS hne
                      generalize s.W = w1 at *
                      clear s S
                      clear hg1
                      have lk : (Instr.lookup 42 (.map (some w.heap.size)) (.int .i64 e.packet) true).run Try.prog w1 = .ok (.tuple #[.agg #[.int .i64 x.tick, .int .i64 x.kind, .int .i64 x.cls, .int .i64 x.packet, .int .i64 x.size], .bool true]) w1 := by
                        have h := C1.look_ok (t := 42) Try.underlying3 Try.underlying42 (zeroE w1) HK.out
                        rw [cameM_some HCM.out] at h; exact h
                      have X2 := X1.alloc (.cells (List.toArray [.int .i64 x.tick, .int .i64 x.kind, .int .i64 x.cls, .int .i64 x.packet, .int .i64 x.size]) 39)
                      have Y2 := Blk.new w1 39 [.int .i64 x.tick, .int .i64 x.kind, .int .i64 x.cls, .int .i64 x.packet, .int .i64 x.size]
                      have z2 := ext_alloc z1 (.cells (List.toArray [.int .i64 x.tick, .int .i64 x.kind, .int .i64 x.cls, .int .i64 x.packet, .int .i64 x.size]) 39)
                      have C2 := C1.alloc (.cells (List.toArray [.int .i64 x.tick, .int .i64 x.kind, .int .i64 x.cls, .int .i64 x.packet, .int .i64 x.size]) 39)
                      have S2 := S1.alloc (.cells (List.toArray [.int .i64 x.tick, .int .i64 x.kind, .int .i64 x.cls, .int .i64 x.packet, .int .i64 x.size]) 39)
                      have lk2 : (Instr.lookup 43 (.map (some (w.heap.size + 1))) (.int .i64 e.packet) false).run Try.prog (w1.alloc (.cells (List.toArray [.int .i64 x.tick, .int .i64 x.kind, .int .i64 x.cls, .int .i64 x.packet, .int .i64 x.size]) 39)) = .ok (.bool true) (w1.alloc (.cells (List.toArray [.int .i64 x.tick, .int .i64 x.kind, .int .i64 x.cls, .int .i64 x.packet, .int .i64 x.size]) 39)) := by
                        have h := S2.look (t := 43) Try.underlying3 Try.underlying43 (zeroB _) HK.out
                        rw [sentM_get, HSV.out] at h; exact h
                      go_wp2_with fail
                      go_ret
                      exact ⟨ret_bool (by rw [events_false HX.out HF.out]), z2⟩
                    | false =>
                      have HOK := Lib.hid (show okEv l k e = true by rw [okEv_out H1.out h4, fit_some HCM.out, hsv, bne_f k1, bne_f k2, bne_f k3]; rfl)
                      have HSV := Lib.hid hsv
                      clear hsv
                      go_wp2_with fail
                      refine wp_region_grow (by kernel_rfl) (by kernel_rfl) ?_
                      intro S hne hkS ho
                      have s0 : ∀ s : InC S, s.W.cell? ⟨wr.heap.size, 0, none⟩ = some (.int .i64 e.tick) := fun s => (XB.below (ho s)).cell 0
                      have s1 : ∀ s : InC S, s.W.cell? ⟨wr.heap.size, 1, none⟩ = some (.int .i64 e.kind) := fun s => (XB.below (ho s)).cell 1
                      have s2 : ∀ s : InC S, s.W.cell? ⟨wr.heap.size, 2, none⟩ = some (.int .i64 e.cls) := fun s => (XB.below (ho s)).cell 2
                      have s3 : ∀ s : InC S, s.W.cell? ⟨wr.heap.size, 3, none⟩ = some (.int .i64 e.packet) := fun s => (XB.below (ho s)).cell 3
                      have s4 : ∀ s : InC S, s.W.cell? ⟨wr.heap.size, 4, none⟩ = some (.int .i64 e.size) := fun s => (XB.below (ho s)).cell 4
                      repeat (go_big_quiet_step ((go_at_call 24; exact grow_call hkS (eventRight_any e _) (bool_is h1))))
                      refine wpQuiet_nil ?_
                      rintro _ ⟨s, rfl⟩
                      have hg1 := ho s
                      have X1 := XB.below hg1
                      have z1 := ext_trans zB hg1
                      have C1 := (HMC.alloc _).below hg1
                      have S1 := (HMS.alloc _).below hg1
                      obtain ⟨yq1, xq1, d1, f1⟩ := X1.five
                      clear s0 s1 s2 s3 s4 ho hkS hne
                      generalize s.W = w1 at *
                      clear s S
                      clear hg1
                      have lk : (Instr.lookup 42 (.map (some w.heap.size)) (.int .i64 e.packet) true).run Try.prog w1 = .ok (.tuple #[.agg #[.int .i64 x.tick, .int .i64 x.kind, .int .i64 x.cls, .int .i64 x.packet, .int .i64 x.size], .bool true]) w1 := by
                        have h := C1.look_ok (t := 42) Try.underlying3 Try.underlying42 (zeroE w1) HK.out
                        rw [cameM_some HCM.out] at h; exact h
                      have X2 := X1.alloc (.cells (List.toArray [.int .i64 x.tick, .int .i64 x.kind, .int .i64 x.cls, .int .i64 x.packet, .int .i64 x.size]) 39)
                      have Y2 := Blk.new w1 39 [.int .i64 x.tick, .int .i64 x.kind, .int .i64 x.cls, .int .i64 x.packet, .int .i64 x.size]
                      have z2 := ext_alloc z1 (.cells (List.toArray [.int .i64 x.tick, .int .i64 x.kind, .int .i64 x.cls, .int .i64 x.packet, .int .i64 x.size]) 39)
                      have C2 := C1.alloc (.cells (List.toArray [.int .i64 x.tick, .int .i64 x.kind, .int .i64 x.cls, .int .i64 x.packet, .int .i64 x.size]) 39)
                      have S2 := S1.alloc (.cells (List.toArray [.int .i64 x.tick, .int .i64 x.kind, .int .i64 x.cls, .int .i64 x.packet, .int .i64 x.size]) 39)
                      have lk2 : (Instr.lookup 43 (.map (some (w.heap.size + 1))) (.int .i64 e.packet) false).run Try.prog (w1.alloc (.cells (List.toArray [.int .i64 x.tick, .int .i64 x.kind, .int .i64 x.cls, .int .i64 x.packet, .int .i64 x.size]) 39)) = .ok (.bool false) (w1.alloc (.cells (List.toArray [.int .i64 x.tick, .int .i64 x.kind, .int .i64 x.cls, .int .i64 x.packet, .int .i64 x.size]) 39)) := by
                        have h := S2.look (t := 43) Try.underlying3 Try.underlying43 (zeroB _) HK.out
                        rw [sentM_get, HSV.out] at h; exact h
                      obtain ⟨w5, hrun, S5, hg5⟩ := S2.update (t := 43) Try.underlying3 Try.underlying43 (by unfold maxLen; omega) HK.out (.bool true)
                      have C5 := C2.kept hg5 (by simp)
                      have z5 := z2.grown hg5 z2.size (fun q hq => by simp at hq; omega)
                      clear hg5 C1 S1 C2 S2 z2
                      go_wp2_with fail
                      go_roundw
                      case rel => exact evI_out HX.out hlt HC.out h0 HOK.out h4 hm1 C5 hm2 S5 z5
                      case measure => simp [intOf]; omega
        · have g0 : decide (0 < k) = true := by simp; omega
          have hkj : k = (k - 1) + 1 := by omega
          have hly : k - 1 < l.length := by rw [HL.out]; omega
          have hy : l[k - 1]? = some l[k - 1] := List.getElem?_eq_getElem hly
          generalize l[k - 1] = y at hy
          have e0 : w.cell? ⟨b, o + ((k - 1) * 5 + 0), none⟩ = some (.int .i64 y.tick) := HCELL.out _ _ ((flat_get encEvent 5 encEvent_len l (k - 1) 0 y hy (by omega)).trans rfl)
          simp only [Nat.add_zero] at e0
          have hpt : prevTick l k = y.tick := by rw [hkj]; exact prev_succ hy
          have HE0 := Lib.hid e0
          have HPT := Lib.hid hpt
          have i0 : (0 : Int) ≤ (k : Int) - 1 := by omega
          have i1 : (1 : Int) ≤ (k : Int) := by omega
          have i2 : ((k : Int) - 1).toNat = k - 1 := by omega
          have i3 : (k : Int) - 1 < (n : Int) := by omega
          have hwk := wrap_in ((k : Int) - 1) (by omega) (by omega)
          clear hy hkj hly e0 hk0 hpt
          cases g1 : decide (e.tick < y.tick) with
          | true =>
            have HF := Lib.hid (okEv_bad (l := l) (k := k) (show evOne e (prevTick l k) = false by rw [HPT.out]; exact evOne_lt (of_decide_eq_true g1)))
            go_wp2_with fail
            refine wp_region_grow (by kernel_rfl) (by kernel_rfl) ?_
            intro S hne hkS ho
            have s0 : ∀ s : InC S, s.W.cell? ⟨wr.heap.size, 0, none⟩ = some (.int .i64 e.tick) := fun s => (XB.below (ho s)).cell 0
            have s1 : ∀ s : InC S, s.W.cell? ⟨wr.heap.size, 1, none⟩ = some (.int .i64 e.kind) := fun s => (XB.below (ho s)).cell 1
            have s2 : ∀ s : InC S, s.W.cell? ⟨wr.heap.size, 2, none⟩ = some (.int .i64 e.cls) := fun s => (XB.below (ho s)).cell 2
            have s3 : ∀ s : InC S, s.W.cell? ⟨wr.heap.size, 3, none⟩ = some (.int .i64 e.packet) := fun s => (XB.below (ho s)).cell 3
            have s4 : ∀ s : InC S, s.W.cell? ⟨wr.heap.size, 4, none⟩ = some (.int .i64 e.size) := fun s => (XB.below (ho s)).cell 4
            have s5 : ∀ s : InC S, s.W.cell? ⟨b, o + (k - 1) * 5, none⟩ = some (.int .i64 y.tick) := fun s => ((ext_trans zB (ho s)).cell (p := ⟨b, o + (k - 1) * 5, none⟩) hblb).trans HE0.out
            repeat (go_big_quiet_step ((go_at_call 24; exact grow_call hkS (eventRight_any e _) (bool_is h1))))
            refine wpQuiet_nil ?_
            rintro _ ⟨s, rfl⟩
            have hg1 := ho s
            have X1 := XB.below hg1
            have z1 := ext_trans zB hg1
            have C1 := (HMC.alloc _).below hg1
            have S1 := (HMS.alloc _).below hg1
            obtain ⟨yq1, xq1, d1, f1⟩ := X1.five
            clear s0 s1 s2 s3 s4 s5 ho hkS hne
            generalize s.W = w1 at *
            clear s S
            clear hg1
            go_wp2_with fail
            go_ret
            exact ⟨ret_bool (by rw [events_false HX.out HF.out]), z1⟩
          | false =>
            have hone : evOne e (prevTick l k) = true := by rw [HPT.out]; exact evOne_ge (by have := of_decide_eq_false g1; omega) h1
            have H1 := Lib.hid hone
            have HK := Lib.hid (keys_in hone)
            clear hone
            cases h4 : (e.kind == 4) with
            | false =>
              cases hcm : cameOf (l.take k) e.packet with
              | some x =>
                have HF := Lib.hid (show okEv l k e = false by rw [okEv_arr H1.out h4, hcm]; rfl)
                have HCM := Lib.hid hcm
                clear hcm
                go_wp2_with fail
                refine wp_region_grow (by kernel_rfl) (by kernel_rfl) ?_
                intro S hne hkS ho
                have s0 : ∀ s : InC S, s.W.cell? ⟨wr.heap.size, 0, none⟩ = some (.int .i64 e.tick) := fun s => (XB.below (ho s)).cell 0
                have s1 : ∀ s : InC S, s.W.cell? ⟨wr.heap.size, 1, none⟩ = some (.int .i64 e.kind) := fun s => (XB.below (ho s)).cell 1
                have s2 : ∀ s : InC S, s.W.cell? ⟨wr.heap.size, 2, none⟩ = some (.int .i64 e.cls) := fun s => (XB.below (ho s)).cell 2
                have s3 : ∀ s : InC S, s.W.cell? ⟨wr.heap.size, 3, none⟩ = some (.int .i64 e.packet) := fun s => (XB.below (ho s)).cell 3
                have s4 : ∀ s : InC S, s.W.cell? ⟨wr.heap.size, 4, none⟩ = some (.int .i64 e.size) := fun s => (XB.below (ho s)).cell 4
                have s5 : ∀ s : InC S, s.W.cell? ⟨b, o + (k - 1) * 5, none⟩ = some (.int .i64 y.tick) := fun s => ((ext_trans zB (ho s)).cell (p := ⟨b, o + (k - 1) * 5, none⟩) hblb).trans HE0.out
                repeat (go_big_quiet_step ((go_at_call 24; exact grow_call hkS (eventRight_any e _) (bool_is h1))))
                refine wpQuiet_nil ?_
                rintro _ ⟨s, rfl⟩
                have hg1 := ho s
                have X1 := XB.below hg1
                have z1 := ext_trans zB hg1
                have C1 := (HMC.alloc _).below hg1
                have S1 := (HMS.alloc _).below hg1
                obtain ⟨yq1, xq1, d1, f1⟩ := X1.five
                clear s0 s1 s2 s3 s4 s5 ho hkS hne
                generalize s.W = w1 at *
                clear s S
                clear hg1
                have lk : (Instr.lookup 42 (.map (some w.heap.size)) (.int .i64 e.packet) true).run Try.prog w1 = .ok (.tuple #[.agg #[.int .i64 x.tick, .int .i64 x.kind, .int .i64 x.cls, .int .i64 x.packet, .int .i64 x.size], .bool true]) w1 := by
                  have h := C1.look_ok (t := 42) Try.underlying3 Try.underlying42 (zeroE w1) HK.out
                  rw [cameM_some HCM.out] at h; exact h
                have X2 := X1.alloc (.cells (List.toArray [.int .i64 x.tick, .int .i64 x.kind, .int .i64 x.cls, .int .i64 x.packet, .int .i64 x.size]) 39)
                have Y2 := Blk.new w1 39 [.int .i64 x.tick, .int .i64 x.kind, .int .i64 x.cls, .int .i64 x.packet, .int .i64 x.size]
                have z2 := ext_alloc z1 (.cells (List.toArray [.int .i64 x.tick, .int .i64 x.kind, .int .i64 x.cls, .int .i64 x.packet, .int .i64 x.size]) 39)
                have C2 := C1.alloc (.cells (List.toArray [.int .i64 x.tick, .int .i64 x.kind, .int .i64 x.cls, .int .i64 x.packet, .int .i64 x.size]) 39)
                have S2 := S1.alloc (.cells (List.toArray [.int .i64 x.tick, .int .i64 x.kind, .int .i64 x.cls, .int .i64 x.packet, .int .i64 x.size]) 39)
                go_wp2_with fail
                go_ret
                exact ⟨ret_bool (by rw [events_false HX.out HF.out]), z2⟩
              | none =>
                have HOK := Lib.hid (show okEv l k e = true by rw [okEv_arr H1.out h4, hcm]; rfl)
                have HCM := Lib.hid hcm
                clear hcm
                go_wp2_with fail
                refine wp_region_grow (by kernel_rfl) (by kernel_rfl) ?_
                intro S hne hkS ho
                have s0 : ∀ s : InC S, s.W.cell? ⟨wr.heap.size, 0, none⟩ = some (.int .i64 e.tick) := fun s => (XB.below (ho s)).cell 0
                have s1 : ∀ s : InC S, s.W.cell? ⟨wr.heap.size, 1, none⟩ = some (.int .i64 e.kind) := fun s => (XB.below (ho s)).cell 1
                have s2 : ∀ s : InC S, s.W.cell? ⟨wr.heap.size, 2, none⟩ = some (.int .i64 e.cls) := fun s => (XB.below (ho s)).cell 2
                have s3 : ∀ s : InC S, s.W.cell? ⟨wr.heap.size, 3, none⟩ = some (.int .i64 e.packet) := fun s => (XB.below (ho s)).cell 3
                have s4 : ∀ s : InC S, s.W.cell? ⟨wr.heap.size, 4, none⟩ = some (.int .i64 e.size) := fun s => (XB.below (ho s)).cell 4
                have s5 : ∀ s : InC S, s.W.cell? ⟨b, o + (k - 1) * 5, none⟩ = some (.int .i64 y.tick) := fun s => ((ext_trans zB (ho s)).cell (p := ⟨b, o + (k - 1) * 5, none⟩) hblb).trans HE0.out
                repeat (go_big_quiet_step ((go_at_call 24; exact grow_call hkS (eventRight_any e _) (bool_is h1))))
                refine wpQuiet_nil ?_
                rintro _ ⟨s, rfl⟩
                have hg1 := ho s
                have X1 := XB.below hg1
                have z1 := ext_trans zB hg1
                have C1 := (HMC.alloc _).below hg1
                have S1 := (HMS.alloc _).below hg1
                obtain ⟨yq1, xq1, d1, f1⟩ := X1.five
                clear s0 s1 s2 s3 s4 s5 ho hkS hne
                generalize s.W = w1 at *
                clear s S
                clear hg1
                have lk : (Instr.lookup 42 (.map (some w.heap.size)) (.int .i64 e.packet) true).run Try.prog w1 = .ok (.tuple #[.agg #[.int .i64 0, .int .i64 0, .int .i64 0, .int .i64 0, .int .i64 0], .bool false]) w1 := by
                  have h := C1.look_ok (t := 42) Try.underlying3 Try.underlying42 (zeroE w1) HK.out
                  rw [cameM_none HCM.out] at h; exact h
                have X2 := X1.alloc (.cells (List.toArray [.int .i64 0, .int .i64 0, .int .i64 0, .int .i64 0, .int .i64 0]) 39)
                have Y2 := Blk.new w1 39 [.int .i64 0, .int .i64 0, .int .i64 0, .int .i64 0, .int .i64 0]
                have z2 := ext_alloc z1 (.cells (List.toArray [.int .i64 0, .int .i64 0, .int .i64 0, .int .i64 0, .int .i64 0]) 39)
                have C2 := C1.alloc (.cells (List.toArray [.int .i64 0, .int .i64 0, .int .i64 0, .int .i64 0, .int .i64 0]) 39)
                have S2 := S1.alloc (.cells (List.toArray [.int .i64 0, .int .i64 0, .int .i64 0, .int .i64 0, .int .i64 0]) 39)
                obtain ⟨w3, hrun, C3, hg3⟩ := C2.update (t := 42) Try.underlying3 Try.underlying42 (by unfold maxLen; omega) HK.out (.agg #[.int .i64 e.tick, .int .i64 e.kind, .int .i64 e.cls, .int .i64 e.packet, .int .i64 e.size])
                have S3 := S2.kept hg3 (by simp)
                have z3 := z2.grown hg3 z2.size (fun q hq => by simp at hq; omega)
                clear C2 S2 z2 hg3 C1 S1
                go_wp2_with fail
                go_roundw
                case rel => exact evI_arr HX.out hlt HC.out h0 HOK.out h4 HCM.out hm1 C3 hm2 S3 z3
                case measure => simp [intOf]; omega
            | true =>
              cases hcm : cameOf (l.take k) e.packet with
              | none =>
                have HF := Lib.hid (show okEv l k e = false by rw [okEv_out H1.out h4, fit_none hcm])
                have HCM := Lib.hid hcm
                clear hcm
                go_wp2_with fail
                refine wp_region_grow (by kernel_rfl) (by kernel_rfl) ?_
                intro S hne hkS ho
                have s0 : ∀ s : InC S, s.W.cell? ⟨wr.heap.size, 0, none⟩ = some (.int .i64 e.tick) := fun s => (XB.below (ho s)).cell 0
                have s1 : ∀ s : InC S, s.W.cell? ⟨wr.heap.size, 1, none⟩ = some (.int .i64 e.kind) := fun s => (XB.below (ho s)).cell 1
                have s2 : ∀ s : InC S, s.W.cell? ⟨wr.heap.size, 2, none⟩ = some (.int .i64 e.cls) := fun s => (XB.below (ho s)).cell 2
                have s3 : ∀ s : InC S, s.W.cell? ⟨wr.heap.size, 3, none⟩ = some (.int .i64 e.packet) := fun s => (XB.below (ho s)).cell 3
                have s4 : ∀ s : InC S, s.W.cell? ⟨wr.heap.size, 4, none⟩ = some (.int .i64 e.size) := fun s => (XB.below (ho s)).cell 4
                have s5 : ∀ s : InC S, s.W.cell? ⟨b, o + (k - 1) * 5, none⟩ = some (.int .i64 y.tick) := fun s => ((ext_trans zB (ho s)).cell (p := ⟨b, o + (k - 1) * 5, none⟩) hblb).trans HE0.out
                repeat (go_big_quiet_step ((go_at_call 24; exact grow_call hkS (eventRight_any e _) (bool_is h1))))
                refine wpQuiet_nil ?_
                rintro _ ⟨s, rfl⟩
                have hg1 := ho s
                have X1 := XB.below hg1
                have z1 := ext_trans zB hg1
                have C1 := (HMC.alloc _).below hg1
                have S1 := (HMS.alloc _).below hg1
                obtain ⟨yq1, xq1, d1, f1⟩ := X1.five
                clear s0 s1 s2 s3 s4 s5 ho hkS hne
                generalize s.W = w1 at *
                clear s S
                clear hg1
                have lk : (Instr.lookup 42 (.map (some w.heap.size)) (.int .i64 e.packet) true).run Try.prog w1 = .ok (.tuple #[.agg #[.int .i64 0, .int .i64 0, .int .i64 0, .int .i64 0, .int .i64 0], .bool false]) w1 := by
                  have h := C1.look_ok (t := 42) Try.underlying3 Try.underlying42 (zeroE w1) HK.out
                  rw [cameM_none HCM.out] at h; exact h
                have X2 := X1.alloc (.cells (List.toArray [.int .i64 0, .int .i64 0, .int .i64 0, .int .i64 0, .int .i64 0]) 39)
                have Y2 := Blk.new w1 39 [.int .i64 0, .int .i64 0, .int .i64 0, .int .i64 0, .int .i64 0]
                have z2 := ext_alloc z1 (.cells (List.toArray [.int .i64 0, .int .i64 0, .int .i64 0, .int .i64 0, .int .i64 0]) 39)
                have C2 := C1.alloc (.cells (List.toArray [.int .i64 0, .int .i64 0, .int .i64 0, .int .i64 0, .int .i64 0]) 39)
                have S2 := S1.alloc (.cells (List.toArray [.int .i64 0, .int .i64 0, .int .i64 0, .int .i64 0, .int .i64 0]) 39)
                go_wp2_with fail
                go_ret
                exact ⟨ret_bool (by rw [events_false HX.out HF.out]), z2⟩
              | some x =>
                have HCM := Lib.hid hcm
                clear hcm
                cases k1 : (x.kind != 1) with
                | true =>
                  have HF := Lib.hid (show okEv l k e = false by rw [okEv_out H1.out h4, fit_some HCM.out, bne_t k1]; rfl)
                  go_wp2_with fail
                  refine wp_region_grow (by kernel_rfl) (by kernel_rfl) ?_
                  intro S hne hkS ho
                  have s0 : ∀ s : InC S, s.W.cell? ⟨wr.heap.size, 0, none⟩ = some (.int .i64 e.tick) := fun s => (XB.below (ho s)).cell 0
                  have s1 : ∀ s : InC S, s.W.cell? ⟨wr.heap.size, 1, none⟩ = some (.int .i64 e.kind) := fun s => (XB.below (ho s)).cell 1
                  have s2 : ∀ s : InC S, s.W.cell? ⟨wr.heap.size, 2, none⟩ = some (.int .i64 e.cls) := fun s => (XB.below (ho s)).cell 2
                  have s3 : ∀ s : InC S, s.W.cell? ⟨wr.heap.size, 3, none⟩ = some (.int .i64 e.packet) := fun s => (XB.below (ho s)).cell 3
                  have s4 : ∀ s : InC S, s.W.cell? ⟨wr.heap.size, 4, none⟩ = some (.int .i64 e.size) := fun s => (XB.below (ho s)).cell 4
                  have s5 : ∀ s : InC S, s.W.cell? ⟨b, o + (k - 1) * 5, none⟩ = some (.int .i64 y.tick) := fun s => ((ext_trans zB (ho s)).cell (p := ⟨b, o + (k - 1) * 5, none⟩) hblb).trans HE0.out
                  repeat (go_big_quiet_step ((go_at_call 24; exact grow_call hkS (eventRight_any e _) (bool_is h1))))
                  refine wpQuiet_nil ?_
                  rintro _ ⟨s, rfl⟩
                  have hg1 := ho s
                  have X1 := XB.below hg1
                  have z1 := ext_trans zB hg1
                  have C1 := (HMC.alloc _).below hg1
                  have S1 := (HMS.alloc _).below hg1
                  obtain ⟨yq1, xq1, d1, f1⟩ := X1.five
                  clear s0 s1 s2 s3 s4 s5 ho hkS hne
                  generalize s.W = w1 at *
                  clear s S
                  clear hg1
                  have lk : (Instr.lookup 42 (.map (some w.heap.size)) (.int .i64 e.packet) true).run Try.prog w1 = .ok (.tuple #[.agg #[.int .i64 x.tick, .int .i64 x.kind, .int .i64 x.cls, .int .i64 x.packet, .int .i64 x.size], .bool true]) w1 := by
                    have h := C1.look_ok (t := 42) Try.underlying3 Try.underlying42 (zeroE w1) HK.out
                    rw [cameM_some HCM.out] at h; exact h
                  have X2 := X1.alloc (.cells (List.toArray [.int .i64 x.tick, .int .i64 x.kind, .int .i64 x.cls, .int .i64 x.packet, .int .i64 x.size]) 39)
                  have Y2 := Blk.new w1 39 [.int .i64 x.tick, .int .i64 x.kind, .int .i64 x.cls, .int .i64 x.packet, .int .i64 x.size]
                  have z2 := ext_alloc z1 (.cells (List.toArray [.int .i64 x.tick, .int .i64 x.kind, .int .i64 x.cls, .int .i64 x.packet, .int .i64 x.size]) 39)
                  have C2 := C1.alloc (.cells (List.toArray [.int .i64 x.tick, .int .i64 x.kind, .int .i64 x.cls, .int .i64 x.packet, .int .i64 x.size]) 39)
                  have S2 := S1.alloc (.cells (List.toArray [.int .i64 x.tick, .int .i64 x.kind, .int .i64 x.cls, .int .i64 x.packet, .int .i64 x.size]) 39)
                  go_wp2_with fail
                  go_ret
                  exact ⟨ret_bool (by rw [events_false HX.out HF.out]), z2⟩
                | false =>
                  cases k2 : (x.cls != e.cls) with
                  | true =>
                    have HF := Lib.hid (show okEv l k e = false by rw [okEv_out H1.out h4, fit_some HCM.out, bne_f k1, bne_t k2]; rfl)
                    go_wp2_with fail
                    refine wp_region_grow (by kernel_rfl) (by kernel_rfl) ?_
                    intro S hne hkS ho
                    have s0 : ∀ s : InC S, s.W.cell? ⟨wr.heap.size, 0, none⟩ = some (.int .i64 e.tick) := fun s => (XB.below (ho s)).cell 0
                    have s1 : ∀ s : InC S, s.W.cell? ⟨wr.heap.size, 1, none⟩ = some (.int .i64 e.kind) := fun s => (XB.below (ho s)).cell 1
                    have s2 : ∀ s : InC S, s.W.cell? ⟨wr.heap.size, 2, none⟩ = some (.int .i64 e.cls) := fun s => (XB.below (ho s)).cell 2
                    have s3 : ∀ s : InC S, s.W.cell? ⟨wr.heap.size, 3, none⟩ = some (.int .i64 e.packet) := fun s => (XB.below (ho s)).cell 3
                    have s4 : ∀ s : InC S, s.W.cell? ⟨wr.heap.size, 4, none⟩ = some (.int .i64 e.size) := fun s => (XB.below (ho s)).cell 4
                    have s5 : ∀ s : InC S, s.W.cell? ⟨b, o + (k - 1) * 5, none⟩ = some (.int .i64 y.tick) := fun s => ((ext_trans zB (ho s)).cell (p := ⟨b, o + (k - 1) * 5, none⟩) hblb).trans HE0.out
                    repeat (go_big_quiet_step ((go_at_call 24; exact grow_call hkS (eventRight_any e _) (bool_is h1))))
                    refine wpQuiet_nil ?_
                    rintro _ ⟨s, rfl⟩
                    have hg1 := ho s
                    have X1 := XB.below hg1
                    have z1 := ext_trans zB hg1
                    have C1 := (HMC.alloc _).below hg1
                    have S1 := (HMS.alloc _).below hg1
                    obtain ⟨yq1, xq1, d1, f1⟩ := X1.five
                    clear s0 s1 s2 s3 s4 s5 ho hkS hne
                    generalize s.W = w1 at *
                    clear s S
                    clear hg1
                    have lk : (Instr.lookup 42 (.map (some w.heap.size)) (.int .i64 e.packet) true).run Try.prog w1 = .ok (.tuple #[.agg #[.int .i64 x.tick, .int .i64 x.kind, .int .i64 x.cls, .int .i64 x.packet, .int .i64 x.size], .bool true]) w1 := by
                      have h := C1.look_ok (t := 42) Try.underlying3 Try.underlying42 (zeroE w1) HK.out
                      rw [cameM_some HCM.out] at h; exact h
                    have X2 := X1.alloc (.cells (List.toArray [.int .i64 x.tick, .int .i64 x.kind, .int .i64 x.cls, .int .i64 x.packet, .int .i64 x.size]) 39)
                    have Y2 := Blk.new w1 39 [.int .i64 x.tick, .int .i64 x.kind, .int .i64 x.cls, .int .i64 x.packet, .int .i64 x.size]
                    have z2 := ext_alloc z1 (.cells (List.toArray [.int .i64 x.tick, .int .i64 x.kind, .int .i64 x.cls, .int .i64 x.packet, .int .i64 x.size]) 39)
                    have C2 := C1.alloc (.cells (List.toArray [.int .i64 x.tick, .int .i64 x.kind, .int .i64 x.cls, .int .i64 x.packet, .int .i64 x.size]) 39)
                    have S2 := S1.alloc (.cells (List.toArray [.int .i64 x.tick, .int .i64 x.kind, .int .i64 x.cls, .int .i64 x.packet, .int .i64 x.size]) 39)
                    go_wp2_with fail
                    go_ret
                    exact ⟨ret_bool (by rw [events_false HX.out HF.out]), z2⟩
                  | false =>
                    cases k3 : (x.size != e.size) with
                    | true =>
                      have HF := Lib.hid (show okEv l k e = false by rw [okEv_out H1.out h4, fit_some HCM.out, bne_f k1, bne_f k2, bne_t k3]; rfl)
                      go_wp2_with fail
                      refine wp_region_grow (by kernel_rfl) (by kernel_rfl) ?_
                      intro S hne hkS ho
                      have s0 : ∀ s : InC S, s.W.cell? ⟨wr.heap.size, 0, none⟩ = some (.int .i64 e.tick) := fun s => (XB.below (ho s)).cell 0
                      have s1 : ∀ s : InC S, s.W.cell? ⟨wr.heap.size, 1, none⟩ = some (.int .i64 e.kind) := fun s => (XB.below (ho s)).cell 1
                      have s2 : ∀ s : InC S, s.W.cell? ⟨wr.heap.size, 2, none⟩ = some (.int .i64 e.cls) := fun s => (XB.below (ho s)).cell 2
                      have s3 : ∀ s : InC S, s.W.cell? ⟨wr.heap.size, 3, none⟩ = some (.int .i64 e.packet) := fun s => (XB.below (ho s)).cell 3
                      have s4 : ∀ s : InC S, s.W.cell? ⟨wr.heap.size, 4, none⟩ = some (.int .i64 e.size) := fun s => (XB.below (ho s)).cell 4
                      have s5 : ∀ s : InC S, s.W.cell? ⟨b, o + (k - 1) * 5, none⟩ = some (.int .i64 y.tick) := fun s => ((ext_trans zB (ho s)).cell (p := ⟨b, o + (k - 1) * 5, none⟩) hblb).trans HE0.out
                      repeat (go_big_quiet_step ((go_at_call 24; exact grow_call hkS (eventRight_any e _) (bool_is h1))))
                      refine wpQuiet_nil ?_
                      rintro _ ⟨s, rfl⟩
                      have hg1 := ho s
                      have X1 := XB.below hg1
                      have z1 := ext_trans zB hg1
                      have C1 := (HMC.alloc _).below hg1
                      have S1 := (HMS.alloc _).below hg1
                      obtain ⟨yq1, xq1, d1, f1⟩ := X1.five
                      clear s0 s1 s2 s3 s4 s5 ho hkS hne
                      generalize s.W = w1 at *
                      clear s S
                      clear hg1
                      have lk : (Instr.lookup 42 (.map (some w.heap.size)) (.int .i64 e.packet) true).run Try.prog w1 = .ok (.tuple #[.agg #[.int .i64 x.tick, .int .i64 x.kind, .int .i64 x.cls, .int .i64 x.packet, .int .i64 x.size], .bool true]) w1 := by
                        have h := C1.look_ok (t := 42) Try.underlying3 Try.underlying42 (zeroE w1) HK.out
                        rw [cameM_some HCM.out] at h; exact h
                      have X2 := X1.alloc (.cells (List.toArray [.int .i64 x.tick, .int .i64 x.kind, .int .i64 x.cls, .int .i64 x.packet, .int .i64 x.size]) 39)
                      have Y2 := Blk.new w1 39 [.int .i64 x.tick, .int .i64 x.kind, .int .i64 x.cls, .int .i64 x.packet, .int .i64 x.size]
                      have z2 := ext_alloc z1 (.cells (List.toArray [.int .i64 x.tick, .int .i64 x.kind, .int .i64 x.cls, .int .i64 x.packet, .int .i64 x.size]) 39)
                      have C2 := C1.alloc (.cells (List.toArray [.int .i64 x.tick, .int .i64 x.kind, .int .i64 x.cls, .int .i64 x.packet, .int .i64 x.size]) 39)
                      have S2 := S1.alloc (.cells (List.toArray [.int .i64 x.tick, .int .i64 x.kind, .int .i64 x.cls, .int .i64 x.packet, .int .i64 x.size]) 39)
                      go_wp2_with fail
                      go_ret
                      exact ⟨ret_bool (by rw [events_false HX.out HF.out]), z2⟩
                    | false =>
                      cases hsv : sentOf (l.take k) e.packet with
                      | true =>
                        have HF := Lib.hid (show okEv l k e = false by rw [okEv_out H1.out h4, fit_some HCM.out, hsv, bne_f k1, bne_f k2, bne_f k3]; rfl)
                        have HSV := Lib.hid hsv
                        clear hsv
                        go_wp2_with fail
                        refine wp_region_grow (by kernel_rfl) (by kernel_rfl) ?_
                        intro S hne hkS ho
                        have s0 : ∀ s : InC S, s.W.cell? ⟨wr.heap.size, 0, none⟩ = some (.int .i64 e.tick) := fun s => (XB.below (ho s)).cell 0
                        have s1 : ∀ s : InC S, s.W.cell? ⟨wr.heap.size, 1, none⟩ = some (.int .i64 e.kind) := fun s => (XB.below (ho s)).cell 1
                        have s2 : ∀ s : InC S, s.W.cell? ⟨wr.heap.size, 2, none⟩ = some (.int .i64 e.cls) := fun s => (XB.below (ho s)).cell 2
                        have s3 : ∀ s : InC S, s.W.cell? ⟨wr.heap.size, 3, none⟩ = some (.int .i64 e.packet) := fun s => (XB.below (ho s)).cell 3
                        have s4 : ∀ s : InC S, s.W.cell? ⟨wr.heap.size, 4, none⟩ = some (.int .i64 e.size) := fun s => (XB.below (ho s)).cell 4
                        have s5 : ∀ s : InC S, s.W.cell? ⟨b, o + (k - 1) * 5, none⟩ = some (.int .i64 y.tick) := fun s => ((ext_trans zB (ho s)).cell (p := ⟨b, o + (k - 1) * 5, none⟩) hblb).trans HE0.out
                        repeat (go_big_quiet_step ((go_at_call 24; exact grow_call hkS (eventRight_any e _) (bool_is h1))))
                        refine wpQuiet_nil ?_
                        rintro _ ⟨s, rfl⟩
                        have hg1 := ho s
                        have X1 := XB.below hg1
                        have z1 := ext_trans zB hg1
                        have C1 := (HMC.alloc _).below hg1
                        have S1 := (HMS.alloc _).below hg1
                        obtain ⟨yq1, xq1, d1, f1⟩ := X1.five
                        clear s0 s1 s2 s3 s4 s5 ho hkS hne
                        generalize s.W = w1 at *
                        clear s S
                        clear hg1
                        have lk : (Instr.lookup 42 (.map (some w.heap.size)) (.int .i64 e.packet) true).run Try.prog w1 = .ok (.tuple #[.agg #[.int .i64 x.tick, .int .i64 x.kind, .int .i64 x.cls, .int .i64 x.packet, .int .i64 x.size], .bool true]) w1 := by
                          have h := C1.look_ok (t := 42) Try.underlying3 Try.underlying42 (zeroE w1) HK.out
                          rw [cameM_some HCM.out] at h; exact h
                        have X2 := X1.alloc (.cells (List.toArray [.int .i64 x.tick, .int .i64 x.kind, .int .i64 x.cls, .int .i64 x.packet, .int .i64 x.size]) 39)
                        have Y2 := Blk.new w1 39 [.int .i64 x.tick, .int .i64 x.kind, .int .i64 x.cls, .int .i64 x.packet, .int .i64 x.size]
                        have z2 := ext_alloc z1 (.cells (List.toArray [.int .i64 x.tick, .int .i64 x.kind, .int .i64 x.cls, .int .i64 x.packet, .int .i64 x.size]) 39)
                        have C2 := C1.alloc (.cells (List.toArray [.int .i64 x.tick, .int .i64 x.kind, .int .i64 x.cls, .int .i64 x.packet, .int .i64 x.size]) 39)
                        have S2 := S1.alloc (.cells (List.toArray [.int .i64 x.tick, .int .i64 x.kind, .int .i64 x.cls, .int .i64 x.packet, .int .i64 x.size]) 39)
                        have lk2 : (Instr.lookup 43 (.map (some (w.heap.size + 1))) (.int .i64 e.packet) false).run Try.prog (w1.alloc (.cells (List.toArray [.int .i64 x.tick, .int .i64 x.kind, .int .i64 x.cls, .int .i64 x.packet, .int .i64 x.size]) 39)) = .ok (.bool true) (w1.alloc (.cells (List.toArray [.int .i64 x.tick, .int .i64 x.kind, .int .i64 x.cls, .int .i64 x.packet, .int .i64 x.size]) 39)) := by
                          have h := S2.look (t := 43) Try.underlying3 Try.underlying43 (zeroB _) HK.out
                          rw [sentM_get, HSV.out] at h; exact h
                        go_wp2_with fail
                        go_ret
                        exact ⟨ret_bool (by rw [events_false HX.out HF.out]), z2⟩
                      | false =>
                        have HOK := Lib.hid (show okEv l k e = true by rw [okEv_out H1.out h4, fit_some HCM.out, hsv, bne_f k1, bne_f k2, bne_f k3]; rfl)
                        have HSV := Lib.hid hsv
                        clear hsv
                        go_wp2_with fail
                        refine wp_region_grow (by kernel_rfl) (by kernel_rfl) ?_
                        intro S hne hkS ho
                        have s0 : ∀ s : InC S, s.W.cell? ⟨wr.heap.size, 0, none⟩ = some (.int .i64 e.tick) := fun s => (XB.below (ho s)).cell 0
                        have s1 : ∀ s : InC S, s.W.cell? ⟨wr.heap.size, 1, none⟩ = some (.int .i64 e.kind) := fun s => (XB.below (ho s)).cell 1
                        have s2 : ∀ s : InC S, s.W.cell? ⟨wr.heap.size, 2, none⟩ = some (.int .i64 e.cls) := fun s => (XB.below (ho s)).cell 2
                        have s3 : ∀ s : InC S, s.W.cell? ⟨wr.heap.size, 3, none⟩ = some (.int .i64 e.packet) := fun s => (XB.below (ho s)).cell 3
                        have s4 : ∀ s : InC S, s.W.cell? ⟨wr.heap.size, 4, none⟩ = some (.int .i64 e.size) := fun s => (XB.below (ho s)).cell 4
                        have s5 : ∀ s : InC S, s.W.cell? ⟨b, o + (k - 1) * 5, none⟩ = some (.int .i64 y.tick) := fun s => ((ext_trans zB (ho s)).cell (p := ⟨b, o + (k - 1) * 5, none⟩) hblb).trans HE0.out
                        repeat (go_big_quiet_step ((go_at_call 24; exact grow_call hkS (eventRight_any e _) (bool_is h1))))
                        refine wpQuiet_nil ?_
                        rintro _ ⟨s, rfl⟩
                        have hg1 := ho s
                        have X1 := XB.below hg1
                        have z1 := ext_trans zB hg1
                        have C1 := (HMC.alloc _).below hg1
                        have S1 := (HMS.alloc _).below hg1
                        obtain ⟨yq1, xq1, d1, f1⟩ := X1.five
                        clear s0 s1 s2 s3 s4 s5 ho hkS hne
                        generalize s.W = w1 at *
                        clear s S
                        clear hg1
                        have lk : (Instr.lookup 42 (.map (some w.heap.size)) (.int .i64 e.packet) true).run Try.prog w1 = .ok (.tuple #[.agg #[.int .i64 x.tick, .int .i64 x.kind, .int .i64 x.cls, .int .i64 x.packet, .int .i64 x.size], .bool true]) w1 := by
                          have h := C1.look_ok (t := 42) Try.underlying3 Try.underlying42 (zeroE w1) HK.out
                          rw [cameM_some HCM.out] at h; exact h
                        have X2 := X1.alloc (.cells (List.toArray [.int .i64 x.tick, .int .i64 x.kind, .int .i64 x.cls, .int .i64 x.packet, .int .i64 x.size]) 39)
                        have Y2 := Blk.new w1 39 [.int .i64 x.tick, .int .i64 x.kind, .int .i64 x.cls, .int .i64 x.packet, .int .i64 x.size]
                        have z2 := ext_alloc z1 (.cells (List.toArray [.int .i64 x.tick, .int .i64 x.kind, .int .i64 x.cls, .int .i64 x.packet, .int .i64 x.size]) 39)
                        have C2 := C1.alloc (.cells (List.toArray [.int .i64 x.tick, .int .i64 x.kind, .int .i64 x.cls, .int .i64 x.packet, .int .i64 x.size]) 39)
                        have S2 := S1.alloc (.cells (List.toArray [.int .i64 x.tick, .int .i64 x.kind, .int .i64 x.cls, .int .i64 x.packet, .int .i64 x.size]) 39)
                        have lk2 : (Instr.lookup 43 (.map (some (w.heap.size + 1))) (.int .i64 e.packet) false).run Try.prog (w1.alloc (.cells (List.toArray [.int .i64 x.tick, .int .i64 x.kind, .int .i64 x.cls, .int .i64 x.packet, .int .i64 x.size]) 39)) = .ok (.bool false) (w1.alloc (.cells (List.toArray [.int .i64 x.tick, .int .i64 x.kind, .int .i64 x.cls, .int .i64 x.packet, .int .i64 x.size]) 39)) := by
                          have h := S2.look (t := 43) Try.underlying3 Try.underlying43 (zeroB _) HK.out
                          rw [sentM_get, HSV.out] at h; exact h
                        obtain ⟨w5, hrun, S5, hg5⟩ := S2.update (t := 43) Try.underlying3 Try.underlying43 (by unfold maxLen; omega) HK.out (.bool true)
                        have C5 := C2.kept hg5 (by simp)
                        have z5 := z2.grown hg5 z2.size (fun q hq => by simp at hq; omega)
                        clear hg5 C1 S1 C2 S2 z2
                        go_wp2_with fail
                        go_roundw
                        case rel => exact evI_out HX.out hlt HC.out h0 HOK.out h4 hm1 C5 hm2 S5 z5
                        case measure => simp [intOf]; omega
    · go_wp2_with fail
      go_ret
      exact ⟨ret_bool (by rw [events_true (fun j hj => HC.out j (by rw [HL.out] at hj; omega)), HL.out]; simp; omega), hb⟩

end Go.Proofs.Ytooodokpkmfbiaa