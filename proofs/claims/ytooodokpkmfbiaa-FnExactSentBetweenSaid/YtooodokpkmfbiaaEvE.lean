/- WaitsOf and StillWaiting: contracts of the program's and the reference's; the laws' walks. -/
import Derived.Test.YtooodokpkmfbiaaEvD
namespace Go.Proofs.Ytooodokpkmfbiaa
open Go.RowKit

def Keep3 (a b c : Addr) (x y z : Value) (w : World) : Prop := w.cell? a = some x ∧ w.cell? b = some y ∧ w.cell? c = some z
theorem keep3_below {a b c : Addr} {x y z : Value} {W W' : World} (h : Keep3 a b c x y z W) (hb : Below W.heap.size W W') : Keep3 a b c x y z W' :=
  ⟨(hb.cell (World.block_lt_of_cell? W _ h.1)).trans h.1, (hb.cell (World.block_lt_of_cell? W _ h.2.1)).trans h.2.1, (hb.cell (World.block_lt_of_cell? W _ h.2.2)).trans h.2.2⟩
theorem keep3_alloc {a b c : Addr} {x y z : Value} {W : World} (h : Keep3 a b c x y z W) (o : Obj) : Keep3 a b c x y z (W.alloc o) := keep3_below h (ext_alloc (ext_refl W) o)
theorem keep3_grown {a b c : Addr} {x y z : Value} {W W' : World} {row : Option Nat} (h : Keep3 a b c x y z W) (hg : W.grownBy W' row) (ha : some a.block ≠ row) (hb : some b.block ≠ row) (hc : some c.block ≠ row) : Keep3 a b c x y z W' :=
  ⟨hg.cell h.1 ha, hg.cell h.2.1 hb, hg.cell h.2.2 hc⟩
theorem ownL_up {w0 w wr : World} {t : TypeId} {v : Value} {l : List Int} (h : OwnL w t v l wr) (z : Below w0.heap.size w0 w) : OwnL w0 t v l wr := ⟨own_base h.1 z.size, ext_trans z h.2⟩
theorem ownL_alloc {w wr : World} {t : TypeId} {v : Value} {l : List Int} (h : OwnL w t v l wr) (o : Obj) : OwnL w t v l (wr.alloc o) := ⟨h.1.alloc o, ext_alloc h.2 o⟩
theorem ownL_drew {w wr : World} {t : TypeId} {v : Value} {l : List Int} (h : OwnL w t v l wr) : OwnL w t v l wr.drew := ⟨h.1.drew, ext_drew h.2⟩
theorem map_ne {w : World} {P : Program} {kt : TypeId} {b m : Nat} {f : Int → Option Value} {base : Nat} {e : TypeId} {s n : Nat} {v : Value} {xs : List Value} (h : w.ownsRow base e s v n xs) (hM : OwnM w P kt b m f) : some b ≠ v.ownBlock := by
  obtain ⟨D, ⟨es, clock, h1, _⟩, _⟩ := hM
  rcases h.2 with ⟨rfl, _⟩ | ⟨g', cap, cur, rfl, _, hg, _⟩
  · simp [Value.ownBlock]
  · intro he
    have e1 : b = g' := by simpa [Value.ownBlock] using he
    subst e1
    rw [hg] at h1
    cases h1
theorem keep3_push {w W W' : World} {g b i i2 q : Nat} {t et : TypeId} {v x y z : Value} {l : List Int} {cs : List Value} {o : Obj} (h : Keep3 ⟨g, i, none⟩ ⟨g, i2, none⟩ ⟨b, q, none⟩ x y z W) (hO : OwnL w t v l W) (hB : Blk W g et cs) (hne : t ≠ et) (hb : b < w.heap.size)
    (hg : (W.alloc o).grownBy W' v.ownBlock) : Keep3 ⟨g, i, none⟩ ⟨g, i2, none⟩ ⟨b, q, none⟩ x y z W' :=
  keep3_grown (keep3_alloc h o) hg (box_ne hO.1 hB hne) (box_ne hO.1 hB hne) (fun e => by have := (hO.1.lt b e.symm).1; omega)
/-! ### Waits -/
def waitE (l : List Event) (k : Nat) (e : Event) : Int := e.tick - (match cameOf (l.take k) e.packet with
  | some x => x.tick
  | none => 0)
def waitsTo (l : List Event) : Nat → List Int
  | 0 => []
  | k + 1 => match l[k]? with
    | none => waitsTo l k
    | some e => waitsTo l k ++ (if e.kind == 4 then [waitE l k e] else [])
theorem waitsTo_out {l : List Event} {k : Nat} {e : Event} (he : l[k]? = some e) (h : (e.kind == 4) = true) : waitsTo l (k + 1) = waitsTo l k ++ [waitE l k e] := by simp [waitsTo, he, h]
theorem waitsTo_not {l : List Event} {k : Nat} {e : Event} (he : l[k]? = some e) (h : (e.kind == 4) = false) : waitsTo l (k + 1) = waitsTo l k := by simp [waitsTo, he, h]
theorem waitsTo_len (l : List Event) : ∀ k, (waitsTo l k).length ≤ k
  | 0 => by simp [waitsTo]
  | k + 1 => by
    have := waitsTo_len l k
    unfold waitsTo
    split
    · omega
    · split <;> simp <;> omega
def waitsR (l : List Event) : List Int := if eventsB l then waitsTo l l.length else []
theorem waitsR_len (l : List Event) : (waitsR l).length ≤ 80 := by
  unfold waitsR
  split
  · rename_i h
    have := events_len h
    have := waitsTo_len l l.length
    omega
  · simp
/-- What a good list has at a sent packet: its arrival. -/
theorem out_at {l : List Event} (h : eventsB l = true) {k : Nat} {e : Event} (he : l[k]? = some e) (h4 : (e.kind == 4) = true) : ∃ x, cameOf (l.take k) e.packet = some x ∧ (x.kind == 1) = true ∧ sentOf (l.take k) e.packet = false := by
  have h1 := events_at h he
  rw [okEv_out (one_of_ok h1) h4] at h1
  cases hc : cameOf (l.take k) e.packet with
  | none => rw [fit_none hc] at h1; cases h1
  | some x =>
    rw [fit_some hc] at h1
    simp only [Bool.and_eq_true, Bool.not_eq_true'] at h1
    exact ⟨x, rfl, h1.1.1.1, h1.2⟩
theorem arr_none {l : List Event} (h : eventsB l = true) {k : Nat} {e : Event} (he : l[k]? = some e) (h4 : (e.kind == 4) = false) : cameOf (l.take k) e.packet = none := by
  have h1 := events_at h he
  rw [okEv_arr (one_of_ok h1) h4] at h1
  simpa using h1
theorem ev_bd {l : List Event} (h : eventsB l = true) {k : Nat} {e : Event} (he : l[k]? = some e) : (0 ≤ e.tick ∧ e.tick ≤ 1000000) ∧ (-9223372036854775808 ≤ e.packet ∧ e.packet ≤ 9223372036854775807) ∧ (1 ≤ e.size ∧ e.size ≤ 1500) := by
  have key : ∀ k (e : Event), l[k]? = some e → 0 ≤ e.tick ∧ 0 ≤ prevTick l k := by
    intro k
    induction k with
    | zero => intro e he; have h1 := (evOne_bd (one_of_ok (events_at h he))).1; simp only [prevTick] at h1 ⊢; omega
    | succ k ih =>
      intro e he
      have hy : l[k]? = some (l[k]'(by have := (List.getElem?_eq_some_iff.1 he).1; omega)) := List.getElem?_eq_getElem _
      have h0 := (ih _ hy).1
      have h1 := (evOne_bd (one_of_ok (events_at h he))).1
      rw [prev_succ hy] at h1 ⊢
      omega
  have h1 := evOne_bd (one_of_ok (events_at h he))
  have h2 := (key k e he).1
  refine ⟨by omega, by omega, h1.2.2.2⟩
def inM (l : List Event) (k : Nat) (p : Int) : Option Value := (cameOf (l.take k) p).bind fun x => if x.kind == 1 then some (.int .i64 x.tick) else none
theorem inM_in {l : List Event} {k : Nat} {e : Event} (he : l[k]? = some e) (h1 : (e.kind == 1) = true) (h4 : (e.kind == 4) = false) (hc : cameOf (l.take k) e.packet = none) : inM l (k + 1) = fun q => if q = e.packet then some (.int .i64 e.tick) else inM l k q := by
  funext q
  unfold inM
  rw [take_snoc he, came_snoc]
  by_cases hq : q = e.packet
  · subst hq
    have : isArr e.packet e = true := by simp [isArr, bne, h4]
    have e1 : e.kind = 1 := by simpa using h1
    simp [hc, this, e1]
  · have : isArr q e = false := by simp [isArr]; intro _; exact fun h => hq h.symm
    simp [this, hq]
theorem inM_arr {l : List Event} {k : Nat} {e : Event} (he : l[k]? = some e) (h1 : (e.kind == 1) = false) (h4 : (e.kind == 4) = false) (hc : cameOf (l.take k) e.packet = none) : inM l (k + 1) = inM l k := by
  funext q
  unfold inM
  rw [take_snoc he, came_snoc]
  by_cases hq : q = e.packet
  · subst hq
    have : isArr e.packet e = true := by simp [isArr, bne, h4]
    have e1 : ¬ e.kind = 1 := by simpa using h1
    simp [hc, this, e1]
  · have : isArr q e = false := by simp [isArr]; intro _; exact fun h => hq h.symm
    simp [this]
theorem inM_out {l : List Event} {k : Nat} {e : Event} (he : l[k]? = some e) (h4 : (e.kind == 4) = true) : inM l (k + 1) = inM l k := by
  funext q
  unfold inM
  rw [take_snoc he, came_snoc]
  have : isArr q e = false := by simp [isArr, bne, h4]
  simp [this]
theorem inM_get {l : List Event} {k : Nat} {p : Int} {x : Event} (h : cameOf (l.take k) p = some x) (h1 : (x.kind == 1) = true) : (inM l k p).getD (.int .i64 0) = .int .i64 x.tick := by
  have e1 : x.kind = 1 := by simpa using h1
  simp [inM, h, e1]
theorem waitE_some {l : List Event} {k : Nat} {e x : Event} (h : cameOf (l.take k) e.packet = some x) : waitE l k e = e.tick - x.tick := by simp [waitE, h]
theorem zeroI (w : World) : (zeroValue 3).run Try.prog w = .ok (.int .i64 0) w := by kernel_rfl
def WtS (w : World) (n : Nat) (l : List Event) (out i : Value) (wr : World) : Prop := ∃ k : Nat, k ≤ n ∧ i = .int .i64 k ∧ OwnL w 3 out (waitsTo l k) wr
def WtI (w : World) (n : Nat) (l : List Event) (bc : Nat) (out i : Value) (wr : World) : Prop := ∃ k : Nat, k ≤ n ∧ i = .int .i64 k ∧ OwnL w 3 out (waitsTo l k) wr ∧ ∃ m, m ≤ k ∧ OwnM wr Try.prog 3 bc m (inM l k)
theorem rd_new1 {W : World} {g : Nat} {t : TypeId} {x : Value} (hg : W.heap.size = g) : Rd (W.alloc (.cells (List.toArray [x]) t)) 1 (some ⟨g, 0, none⟩) 1 [x] := by subst hg; exact Rd.of_blk (Blk.new W t [x]) (by simp)

set_option maxRecDepth 100000 in
set_option maxHeartbeats 8000000 in
theorem specWaitsOf_any (A : Option Addr) (n c : Nat) (l : List Event) (w : World) (hn : n ≤ 1048576) (hr : Rd w 5 A n (l.flatMap encEvent)) :
    Calls Try.prog 14 #[.slice A n c] w (RetInts 3 w (waitsR l) (eventsB l)) := by
  obtain ⟨i0, hi, hz0, hz1, hz2⟩ := info_parts infoIntB
  cases h : eventsB l with
  | false =>
    have hR : waitsR l = [] := by simp [waitsR, h]
    rw [hR]
    clear hR
    go_enter Try.func14, Try.ntmps14
    go_wp2_with (go_at_call 22; refine (tcGood_any A n _ l _ hn hr).mono ?_; rintro e' w1 ⟨rfl, hb1⟩)
    go_ret2
    exact retInts_nil hb1
  | true =>
    have hR : waitsR l = waitsTo l n := by simp only [waitsR, h, if_true]; congr 1; have h1 := hr.1; rw [flat_len encEvent 5 encEvent_len] at h1; omega
    rw [hR]
    clear hR
    have hl : l.length = n := by have h1 := hr.1; rw [flat_len encEvent 5 encEvent_len] at h1; omega
    have h80 : n ≤ 80 := by have := events_len h; omega
    have HL := Lib.hid hl
    have HE := Lib.hid h
    clear hl
    go_enter Try.func14, Try.ntmps14
    go_wp2_with (go_at_call 22; refine (tcGood_any A n _ l _ hn hr).mono ?_; rintro e' w1 ⟨rfl, hb1⟩)
    clear h
    go_loopw [4, 12] (WtS w n l) (fun _ i _ => n - (intOf i).toNat)
    case atStart => exact ⟨0, Nat.zero_le _, rfl, ownL_nil hb1⟩
    case round =>
      obtain ⟨k, hk, rfl, hO⟩ := hrel
      have hlo := waitsTo_len l k
      by_cases hlt : k < n
      · have hb := hO.2
        obtain ⟨b, o, rfl, hblb, hcellb⟩ := hr.2 (by omega)
        have hblrbe : b < wr.heap.size := Nat.lt_of_lt_of_le hblb hb.size
        have hlxe : k < l.length := by rw [HL.out]; omega
        have hxe : l[k]? = some l[k] := List.getElem?_eq_getElem hlxe
        generalize l[k] = e at hxe
        have c0 : wr.cell? ⟨b, o + (k * 5 + 0), none⟩ = some (.int .i64 e.tick) := (hb.cell (p := ⟨b, o + (k * 5 + 0), none⟩) hblb).trans (hcellb _ _ ((flat_get encEvent 5 encEvent_len l k 0 e hxe (by omega)).trans rfl))
        have c1 : wr.cell? ⟨b, o + (k * 5 + 1), none⟩ = some (.int .i64 e.kind) := (hb.cell (p := ⟨b, o + (k * 5 + 1), none⟩) hblb).trans (hcellb _ _ ((flat_get encEvent 5 encEvent_len l k 1 e hxe (by omega)).trans rfl))
        have c2 : wr.cell? ⟨b, o + (k * 5 + 2), none⟩ = some (.int .i64 e.cls) := (hb.cell (p := ⟨b, o + (k * 5 + 2), none⟩) hblb).trans (hcellb _ _ ((flat_get encEvent 5 encEvent_len l k 2 e hxe (by omega)).trans rfl))
        have c3 : wr.cell? ⟨b, o + (k * 5 + 3), none⟩ = some (.int .i64 e.packet) := (hb.cell (p := ⟨b, o + (k * 5 + 3), none⟩) hblb).trans (hcellb _ _ ((flat_get encEvent 5 encEvent_len l k 3 e hxe (by omega)).trans rfl))
        have c4 : wr.cell? ⟨b, o + (k * 5 + 4), none⟩ = some (.int .i64 e.size) := (hb.cell (p := ⟨b, o + (k * 5 + 4), none⟩) hblb).trans (hcellb _ _ ((flat_get encEvent 5 encEvent_len l k 4 e hxe (by omega)).trans rfl))
        simp only [Nat.add_zero, ← Nat.add_assoc] at c0 c1 c2 c3 c4
        have HX := Lib.hid hxe
        clear hxe hlxe
        have HCELL := Lib.hid hcellb
        clear hcellb
        have heb := ev_bd HE.out HX.out
        generalize hwl : waitsTo l k = wl at hO hlo
        have HWL := Lib.hid hwl
        clear hwl
        cases h4 : (e.kind == 4) with
        | false =>
          go_wp2_with fail
          go_roundw
          case rel => exact ⟨k + 1, by omega, by go_num, by rw [waitsTo_not HX.out h4, HWL.out]; exact ownL_alloc hO _⟩
          case measure => simp [intOf]; omega
        | true =>
          obtain ⟨x, hc, hx1, hs⟩ := out_at HE.out HX.out h4
          obtain ⟨j, hj, hav, hx⟩ := came_some hc
          have hxb := (ev_bd HE.out hx).1
          have e0 : w.cell? ⟨b, o + (j * 5 + 0), none⟩ = some (.int .i64 x.tick) := HCELL.out _ _ ((flat_get encEvent 5 encEvent_len l j 0 x hx (by omega)).trans rfl)
          simp only [Nat.add_zero] at e0
          have HV := Lib.hid (waitE_some hc)
          have HAV := Lib.hid hav
          have gj0 : (0 : Int) ≤ (j : Int) := by omega
          have gj1 : (j : Int) < (n : Int) := by omega
          clear hc hx1 hs hav hx
          have K0 : Keep3 ⟨wr.heap.size, 0, none⟩ ⟨wr.heap.size, 3, none⟩ ⟨b, o + j * 5, none⟩ (.int .i64 e.tick) (.int .i64 e.packet) (.int .i64 x.tick) (wr.alloc (.cells (List.toArray [.int .i64 e.tick, .int .i64 e.kind, .int .i64 e.cls, .int .i64 e.packet, .int .i64 e.size]) 39)).drew := ⟨(Blk.new wr 39 [.int .i64 e.tick, .int .i64 e.kind, .int .i64 e.cls, .int .i64 e.packet, .int .i64 e.size]).cell 0, (Blk.new wr 39 [.int .i64 e.tick, .int .i64 e.kind, .int .i64 e.cls, .int .i64 e.packet, .int .i64 e.size]).cell 3, ((ext_alloc hb (.cells (List.toArray [.int .i64 e.tick, .int .i64 e.kind, .int .i64 e.cls, .int .i64 e.packet, .int .i64 e.size]) 39)).cell (p := ⟨b, o + j * 5, none⟩) hblb).trans e0⟩
          have O0 : OwnL w 3 _ wl (wr.alloc (.cells (List.toArray [.int .i64 e.tick, .int .i64 e.kind, .int .i64 e.cls, .int .i64 e.packet, .int .i64 e.size]) 39)).drew := ownL_drew (ownL_alloc hO (.cells (List.toArray [.int .i64 e.tick, .int .i64 e.kind, .int .i64 e.cls, .int .i64 e.packet, .int .i64 e.size]) 39))
          have NB0 := Blk.new wr 39 [.int .i64 e.tick, .int .i64 e.kind, .int .i64 e.cls, .int .i64 e.packet, .int .i64 e.size]
          have hw1 := wrap_in (e.tick - x.tick) (by omega) (by omega)
          clear e0
          go_wp2_with fail
          go_region_held3 (fun w' => w'.cell? ⟨wr.heap.size, 0, none⟩ = some (.int .i64 e.tick) ∧ w'.cell? ⟨wr.heap.size, 3, none⟩ = some (.int .i64 e.packet) ∧ w'.cell? ⟨b, o + j * 5, none⟩ = some (.int .i64 x.tick))
            (first | exact keep3_push K1 O1 NB1 (by decide) hblb hg1 | exact keep3_alloc K1 _ | exact K1 | exact K0)
            (first | (go_at_call 31; refine (tcArrival_any _ n _ l _ _ hn (hr.below O0.2)).mono ?_; rintro e' w3 ⟨rfl, hb3⟩; rw [HAV.out]; have K1 := keep3_below K0 hb3; have O1 := ownL_ext O0 hb3; have NB1 := NB0.drew.below hb3; have hs3 := O1.2.size) | (refine step_append_rd (size := 1) (bytes := 8) (base := w.heap.size) (by rfl) _ _ (by rfl) Try.underlying32 hi hz0 hz1 hz2 rfl (by decide) (by rfl) (O1.1.alloc _) (some ⟨w3.heap.size, 0, none⟩) 1 1 [.int .i64 (e.tick - x.tick)] (by rfl) (rd_new1 (by simp)) (by intro u hu; simp at hu; subst hu; rfl) (by unfold maxLen; omega) (by omega) (by simp; omega) ?_; intro v' w4 hown1 hg1))
          clear hw1
          have hO5 := ownL_push O1 hown1 hg1
          have HO5 := Lib.hid hO5
          clear hO5 hown1 hg1 O1 O0 NB0 NB1 K0 K1
          go_wp2_with fail
          go_roundw
          case rel => first | exact ⟨k + 1, by omega, by go_num, by rw [waitsTo_out HX.out h4, HWL.out, HV.out]; exact HO5.out⟩ | ((repeat apply Exists.intro); exact ⟨⟨k + 1, by omega, by go_num, by rw [waitsTo_out HX.out h4, HWL.out, HV.out]; exact HO5.out⟩, rfl⟩)
          case measure => simp [intOf]; omega
      · obtain rfl : k = n := by omega
        go_wp2_with fail
        go_ret2
        exact ownL_ret hO

set_option maxRecDepth 100000 in
set_option maxHeartbeats 8000000 in
theorem implWaitsOf_any (A : Option Addr) (n c : Nat) (l : List Event) (w : World) (hn : n ≤ 1048576) (hr : Rd w 5 A n (l.flatMap encEvent)) :
    Calls Try.prog 15 #[.slice A n c] w (RetInts 3 w (waitsR l) (eventsB l)) := by
  obtain ⟨i0, hi, hz0, hz1, hz2⟩ := info_parts infoIntB
  cases h : eventsB l with
  | false =>
    have hR : waitsR l = [] := by simp [waitsR, h]
    rw [hR]
    clear hR
    go_enter Try.func15, Try.ntmps15
    go_wp2_with (go_at_call 10; refine (implAreEvents_any A n _ l _ hn hr).mono ?_; rintro e' w1 ⟨rfl, hb1⟩)
    go_ret2
    exact retInts_nil hb1
  | true =>
    have hR : waitsR l = waitsTo l n := by simp only [waitsR, h, if_true]; congr 1; have h1 := hr.1; rw [flat_len encEvent 5 encEvent_len] at h1; omega
    rw [hR]
    clear hR
    have hl : l.length = n := by have h1 := hr.1; rw [flat_len encEvent 5 encEvent_len] at h1; omega
    have h80 : n ≤ 80 := by have := events_len h; omega
    have HL := Lib.hid hl
    have HE := Lib.hid h
    clear hl
    have hmm := @run_makeMap Try.prog
    go_enter Try.func15, Try.ntmps15
    go_wp2_with (go_at_call 10; refine (implAreEvents_any A n _ l _ hn hr).mono ?_; rintro e' w1 ⟨rfl, hb1⟩)
    clear hmm h
    have hs1 := hb1.size
    go_loopw [5, 15] (WtI w n l w1.heap.size) (fun _ i _ => n - (intOf i).toNat)
    case atStart =>
      refine ⟨0, Nat.zero_le _, rfl, ?_, 0, Nat.le_refl _, (ownM_made w1 _ _).alloc _⟩
      have h := ownL_empty (t := 3) (ext_alloc hb1 (.map #[] 0))
      rw [World.size_alloc] at h
      exact h
    case round =>
      obtain ⟨k, hk, rfl, hO, m, hm, HM⟩ := hrel
      have hlo := waitsTo_len l k
      by_cases hlt : k < n
      · have hb := hO.2
        obtain ⟨b, o, rfl, hblb, hcellb⟩ := hr.2 (by omega)
        have hblrbe : b < wr.heap.size := Nat.lt_of_lt_of_le hblb hb.size
        have hlxe : k < l.length := by rw [HL.out]; omega
        have hxe : l[k]? = some l[k] := List.getElem?_eq_getElem hlxe
        generalize l[k] = e at hxe
        have c0 : wr.cell? ⟨b, o + (k * 5 + 0), none⟩ = some (.int .i64 e.tick) := (hb.cell (p := ⟨b, o + (k * 5 + 0), none⟩) hblb).trans (hcellb _ _ ((flat_get encEvent 5 encEvent_len l k 0 e hxe (by omega)).trans rfl))
        have c1 : wr.cell? ⟨b, o + (k * 5 + 1), none⟩ = some (.int .i64 e.kind) := (hb.cell (p := ⟨b, o + (k * 5 + 1), none⟩) hblb).trans (hcellb _ _ ((flat_get encEvent 5 encEvent_len l k 1 e hxe (by omega)).trans rfl))
        have c2 : wr.cell? ⟨b, o + (k * 5 + 2), none⟩ = some (.int .i64 e.cls) := (hb.cell (p := ⟨b, o + (k * 5 + 2), none⟩) hblb).trans (hcellb _ _ ((flat_get encEvent 5 encEvent_len l k 2 e hxe (by omega)).trans rfl))
        have c3 : wr.cell? ⟨b, o + (k * 5 + 3), none⟩ = some (.int .i64 e.packet) := (hb.cell (p := ⟨b, o + (k * 5 + 3), none⟩) hblb).trans (hcellb _ _ ((flat_get encEvent 5 encEvent_len l k 3 e hxe (by omega)).trans rfl))
        have c4 : wr.cell? ⟨b, o + (k * 5 + 4), none⟩ = some (.int .i64 e.size) := (hb.cell (p := ⟨b, o + (k * 5 + 4), none⟩) hblb).trans (hcellb _ _ ((flat_get encEvent 5 encEvent_len l k 4 e hxe (by omega)).trans rfl))
        simp only [Nat.add_zero, ← Nat.add_assoc] at c0 c1 c2 c3 c4
        have HX := Lib.hid hxe
        clear hxe hlxe hcellb
        have heb := ev_bd HE.out HX.out
        generalize hwl : waitsTo l k = wl at hO hlo
        have HWL := Lib.hid hwl
        clear hwl
        cases h1 : (e.kind == 1) with
        | true =>
          have h4 : (e.kind == 4) = false := by rw [show e.kind = 1 from by simpa using h1]; rfl
          have HC := Lib.hid (arr_none HE.out HX.out h4)
          obtain ⟨w5, hrun, C5, hg5⟩ := (HM.alloc (.cells (List.toArray [.int .i64 e.tick, .int .i64 e.kind, .int .i64 e.cls, .int .i64 e.packet, .int .i64 e.size]) 39)).update (t := 50) Try.underlying3 Try.underlying50 (by unfold maxLen; omega) heb.2.1 (.int .i64 e.tick)
          have hne := map_ne (hO.1.alloc (.cells (List.toArray [.int .i64 e.tick, .int .i64 e.kind, .int .i64 e.cls, .int .i64 e.packet, .int .i64 e.size]) 39)) (HM.alloc (.cells (List.toArray [.int .i64 e.tick, .int .i64 e.kind, .int .i64 e.cls, .int .i64 e.packet, .int .i64 e.size]) 39))
          have hO5 : OwnL w 3 _ wl w5 := ⟨(hO.1.alloc (.cells (List.toArray [.int .i64 e.tick, .int .i64 e.kind, .int .i64 e.cls, .int .i64 e.packet, .int .i64 e.size]) 39)).kept hg5 (.inr (fun hq => hne hq.symm)), (ext_alloc hb (.cells (List.toArray [.int .i64 e.tick, .int .i64 e.kind, .int .i64 e.cls, .int .i64 e.packet, .int .i64 e.size]) 39)).grown hg5 (ext_alloc hb (.cells (List.toArray [.int .i64 e.tick, .int .i64 e.kind, .int .i64 e.cls, .int .i64 e.packet, .int .i64 e.size]) 39)).size (fun q hq => by simp at hq; omega)⟩
          clear hg5 hO hne
          go_wp2_with fail
          go_roundw
          case rel => exact ⟨k + 1, by omega, by go_num, by rw [waitsTo_not HX.out h4, HWL.out]; exact hO5, m + 1, by omega, by rw [inM_in HX.out h1 h4 HC.out]; exact C5⟩
          case measure => simp [intOf]; omega
        | false =>
          cases h4 : (e.kind == 4) with
          | false =>
            have HC := Lib.hid (arr_none HE.out HX.out h4)
            go_wp2_with fail
            go_roundw
            case rel => exact ⟨k + 1, by omega, by go_num, by rw [waitsTo_not HX.out h4, HWL.out]; exact ownL_alloc hO _, m, by omega, by rw [inM_arr HX.out h1 h4 HC.out]; exact HM.alloc _⟩
            case measure => simp [intOf]; omega
          | true =>
            obtain ⟨x, hc, hx1, hs⟩ := out_at HE.out HX.out h4
            obtain ⟨j, hj, hav, hx⟩ := came_some hc
            have hxb := (ev_bd HE.out hx).1
            have HV := Lib.hid (waitE_some hc)
            have lk : (Instr.lookup 50 (.map (some w1.heap.size)) (.int .i64 e.packet) false).run Try.prog (wr.alloc (.cells (List.toArray [.int .i64 e.tick, .int .i64 e.kind, .int .i64 e.cls, .int .i64 e.packet, .int .i64 e.size]) 39)) = .ok (.int .i64 x.tick) (wr.alloc (.cells (List.toArray [.int .i64 e.tick, .int .i64 e.kind, .int .i64 e.cls, .int .i64 e.packet, .int .i64 e.size]) 39)) := by
              have h := (HM.alloc (.cells (List.toArray [.int .i64 e.tick, .int .i64 e.kind, .int .i64 e.cls, .int .i64 e.packet, .int .i64 e.size]) 39)).look (t := 50) Try.underlying3 Try.underlying50 (zeroI _) heb.2.1
              rw [inM_get hc hx1] at h; exact h
            clear hc hx1 hs hav hx
            have O0 := ownL_alloc hO (.cells (List.toArray [.int .i64 e.tick, .int .i64 e.kind, .int .i64 e.cls, .int .i64 e.packet, .int .i64 e.size]) 39)
            go_wp2_with (at_builtin; refine wpList_append_own _ rfl (.tmp 30) (.tmp 38) 32 rfl w.heap.size 3 i0 (.int .i64 0) 1 8 Try.underlying32 hi hz0 hz1 hz2 rfl (by decide) _ _ _ rfl (O0.1.alloc _) ⟨wr.heap.size + 1, 0, none⟩ 1 1 [.int .i64 (e.tick - x.tick)] rfl rfl ?c1 ?c2 ?c3 ?c4 ?c5 ?_)
            case c1 => have h := cell_one_new (wr.alloc (.cells (List.toArray [.int .i64 e.tick, .int .i64 e.kind, .int .i64 e.cls, .int .i64 e.packet, .int .i64 e.size]) 39)) (.int .i64 (e.tick - x.tick)) 3; rw [World.size_alloc] at h; exact h
            case c2 => simp [Value.oneCell']
            case c3 => unfold maxLen; omega
            case c4 => omega
            case c5 => have := hO.2.size; simp; omega
            intro v' w3 hown1 hg1 _
            have hO3 := ownL_push O0 hown1 hg1
            have HO3 := Lib.hid hO3
            have HM3 := ((HM.alloc (.cells (List.toArray [.int .i64 e.tick, .int .i64 e.kind, .int .i64 e.cls, .int .i64 e.packet, .int .i64 e.size]) 39)).alloc (.cells #[.int .i64 (e.tick - x.tick)] 3)).kept hg1 (map_ne (O0.1.alloc (.cells #[.int .i64 (e.tick - x.tick)] 3)) ((HM.alloc (.cells (List.toArray [.int .i64 e.tick, .int .i64 e.kind, .int .i64 e.cls, .int .i64 e.packet, .int .i64 e.size]) 39)).alloc (.cells #[.int .i64 (e.tick - x.tick)] 3)))
            clear hO3 hown1 hg1 O0 lk
            go_wp2_with fail
            go_roundw
            case rel => first | exact ⟨k + 1, by omega, by go_num, by rw [waitsTo_out HX.out h4, HWL.out, HV.out]; exact HO3.out, m, by omega, by rw [inM_out HX.out h4]; exact HM3⟩ | ((repeat apply Exists.intro); exact ⟨⟨k + 1, by omega, by go_num, by rw [waitsTo_out HX.out h4, HWL.out, HV.out]; exact HO3.out, m, by omega, by rw [inM_out HX.out h4]; exact HM3⟩, rfl⟩)
            case measure => simp [intOf]; omega
      · obtain rfl : k = n := by omega
        go_wp2_with fail
        go_ret2
        exact ownL_ret hO

set_option maxHeartbeats 4000000 in
theorem walkWaitsOf (Al : Option Addr) (nl cl : Nat) (l : List Event) (hnl : nl ≤ 9223372036854775807) (w : World) (hrl : Rd w 5 Al nl (l.flatMap encEvent)) :
    Calls Try.prog 5 #[.slice Al nl cl] w fun e w' => e = .returned (.bool true) ∧ Below w.heap.size w w' := by
  by_cases hbigl : 1048576 < nl
  · go_enter Try.func5, Try.ntmps5
    go_wp2_with (first | (go_at_call 7; refine (szEventS_any Al nl cl _ _ hnl (by omega) (by omega)).mono ?_; rintro e w1 ⟨rfl, rfl⟩; have hsl : (if (1048576 : Int) < (nl : Int) then (-1 : Int) else 1048576 - nl) = -1 := by {{ split <;> omega }}; rw [hsl]; clear hsl) | fail)
    go_ret
    exact ⟨rfl, ext_refl w⟩
  have hml : nl ≤ 1048576 := by omega
  have hR : (waitsR l).length ≤ 1048576 := by have := waitsR_len l; omega
  have z0 : Below w.heap.size w w := ext_refl w
  go_enter Try.func5, Try.ntmps5
  go_wp2_with fail
  refine (szEventS_any Al nl cl _ _ hnl (by omega) (by omega)).mono ?_; rintro e w' ⟨rfl, rfl⟩
  have hsl : (if (1048576 : Int) < (nl : Int) then (-1 : Int) else 1048576 - nl) = 1048576 - nl := by { split <;> omega }
  rw [hsl]
  clear hsl
  go_wp2_with fail
  refine (toEventS_any Al nl cl l _ hml (hrl.below z0)).mono ?_; rintro e w1 ⟨gt1, rfl, owt1, hb1⟩
  have ot11 := own_base owt1 z0.size
  have z1 := ext_trans z0 hb1
  go_wp2_with fail
  refine (specWaitsOf_any _ nl _ l _ hml (Rd.of_own ot11)).mono ?_; rintro e w2 ⟨Aw, Cw, rfl, oww, hb2⟩
  have apwt1 := apart_before ot11.lt oww.lt
  have ot12 := own_ext ot11 hb2
  have ow2 := own_base oww z1.size
  have z2 := ext_trans z1 hb2
  go_wp2_with fail
  refine (toEventS_any Al nl cl l _ hml (hrl.below z2)).mono ?_; rintro e w3 ⟨gxl, rfl, owxl, hb3⟩
  have apxlt1 := apart_before ot12.lt owxl.lt
  have ot13 := own_ext ot12 hb3
  have apxlw := apart_before ow2.lt owxl.lt
  have ow3 := own_ext ow2 hb3
  have oxl3 := own_base owxl z2.size
  have z3 := ext_trans z2 hb3
  go_wp2_with fail
  refine (implWaitsOf_any _ nl _ l _ hml (Rd.of_own oxl3)).mono ?_; rintro e w4 ⟨Ag, Cg, rfl, owg, hb4⟩
  have apgt1 := apart_before ot13.lt owg.lt
  have ot14 := own_ext ot13 hb4
  have apgw := apart_before ow3.lt owg.lt
  have ow4 := own_ext ow3 hb4
  have apgxl := apart_before oxl3.lt owg.lt
  have oxl4 := own_ext oxl3 hb4
  have og4 := own_base owg z3.size
  have z4 := ext_trans z3 hb4
  go_wp2_with fail
  refine (eqIntS_same _ _ (waitsR l).length _ _ (waitsR l) _ hR (Rd.of_own og4) (Rd.of_own ow4)).mono ?_; rintro e w5 ⟨rfl, hb5⟩
  have ot15 := own_ext ot14 hb5
  have ow5 := own_ext ow4 hb5
  have oxl5 := own_ext oxl4 hb5
  have og5 := own_ext og4 hb5
  have z5 := ext_trans z4 hb5
  go_wp2_with fail
  refine (toEventS_any Al nl cl l _ hml (hrl.below z5)).mono ?_; rintro e w6 ⟨gt3, rfl, owt3, hb6⟩
  have apt3t1 := apart_before ot15.lt owt3.lt
  have ot16 := own_ext ot15 hb6
  have apt3w := apart_before ow5.lt owt3.lt
  have ow6 := own_ext ow5 hb6
  have apt3xl := apart_before oxl5.lt owt3.lt
  have oxl6 := own_ext oxl5 hb6
  have apt3g := apart_before og5.lt owt3.lt
  have og6 := own_ext og5 hb6
  have ot36 := own_base owt3 z5.size
  have z6 := ext_trans z5 hb6
  go_wp2_with fail
  refine (eqEventS_same _ _ nl _ _ l _ hml (Rd.of_own oxl6) (Rd.of_own ot36)).mono ?_; rintro e w7 ⟨rfl, hb7⟩
  have ot17 := own_ext ot16 hb7
  have ow7 := own_ext ow6 hb7
  have oxl7 := own_ext oxl6 hb7
  have og7 := own_ext og6 hb7
  have ot37 := own_ext ot36 hb7
  have z7 := ext_trans z6 hb7
  go_wp2_with fail
  refine (markEventS_own _ nl _ _ _ _ _ hml (by omega) (by omega) oxl7).mono ?_; rintro e w8 ⟨rfl, oxl8, hg8⟩
  have z8 := below_marked z7 oxl7 (Nat.le_refl _) hg8
  have ot18 := ot17.kept hg8 apxlt1.1
  have ow8 := ow7.kept hg8 apxlw.1
  have og8 := og7.kept hg8 apgxl.2
  go_wp2_with fail
  refine (eqIntS_same _ _ (waitsR l).length _ _ (waitsR l) _ hR (Rd.of_own og8) (Rd.of_own ow8)).mono ?_; rintro e w9 ⟨rfl, hb9⟩
  have ot19 := own_ext ot18 hb9
  have ow9 := own_ext ow8 hb9
  have oxl9 := own_ext oxl8 hb9
  have og9 := own_ext og8 hb9
  have z9 := ext_trans z8 hb9
  go_wp2_with fail
  refine (markIntS_own _ (waitsR l).length _ _ _ 1 _ hR (by omega) (by omega) og9).mono ?_; rintro e w10 ⟨rfl, og10, hg10⟩
  have z10 := below_marked z9 og9 (Nat.le_refl _) hg10
  have ot110 := ot19.kept hg10 apgt1.1
  have ow10 := ow9.kept hg10 apgw.1
  have oxl10 := oxl9.kept hg10 apgxl.1
  go_wp2_with fail
  refine (heldIntS_any _ (waitsR l).length _ 1 _ hR (by omega) (by omega) (Rd.of_own og10)).mono ?_; rintro e w11 ⟨rfl, rfl⟩
  go_wp2_with fail
  refine (toEventS_any Al nl cl l _ hml (hrl.below z10)).mono ?_; rintro e w12 ⟨gt4, rfl, owt4, hb12⟩
  have apt4t1 := apart_before ot110.lt owt4.lt
  have ot112 := own_ext ot110 hb12
  have apt4w := apart_before ow10.lt owt4.lt
  have ow12 := own_ext ow10 hb12
  have apt4g := apart_before og10.lt owt4.lt
  have og12 := own_ext og10 hb12
  have ot412 := own_base owt4 z10.size
  have z12 := ext_trans z10 hb12
  go_wp2_with fail
  refine (implWaitsOf_any _ nl _ l _ hml (Rd.of_own ot412)).mono ?_; rintro e w13 ⟨Ah, Ch, rfl, owh, hb13⟩
  have apht1 := apart_before ot112.lt owh.lt
  have ot113 := own_ext ot112 hb13
  have aphw := apart_before ow12.lt owh.lt
  have ow13 := own_ext ow12 hb13
  have aphg := apart_before og12.lt owh.lt
  have og13 := own_ext og12 hb13
  have apht4 := apart_before ot412.lt owh.lt
  have ot413 := own_ext ot412 hb13
  have oh13 := own_base owh z12.size
  have z13 := ext_trans z12 hb13
  go_wp2_with fail
  refine (eqIntS_same _ _ (waitsR l).length _ _ (waitsR l) _ hR (Rd.of_own oh13) (Rd.of_own ow13)).mono ?_; rintro e w14 ⟨rfl, hb14⟩
  have ot114 := own_ext ot113 hb14
  have ow14 := own_ext ow13 hb14
  have og14 := own_ext og13 hb14
  have ot414 := own_ext ot413 hb14
  have oh14 := own_ext oh13 hb14
  have z14 := ext_trans z13 hb14
  go_wp2_with fail
  refine (heldIntS_any _ (waitsR l).length _ 1 _ hR (by omega) (by omega) (Rd.of_own og14)).mono ?_; rintro e w15 ⟨rfl, rfl⟩
  go_wp2_with fail
  go_ret
  exact ⟨rfl, z14⟩

end Go.Proofs.Ytooodokpkmfbiaa