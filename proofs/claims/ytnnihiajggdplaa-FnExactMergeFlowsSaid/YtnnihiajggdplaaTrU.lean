/- FlowUntil: contracts of the program's and the reference's. -/
import Derived.Test.YtnnihiajggdplaaTrP
import Derived.Deep.RegionHeld3
namespace Go.Proofs.Ytnnihiajggdplaa
open Go.RowKit

def OwnT (w : World) (t : TypeId) (v : Value) (l : List Timed) (wr : World) : Prop := wr.ownsRow w.heap.size t 7 v l.length (l.flatMap encTimed) ∧ Below w.heap.size w wr
theorem ownT_ext {w wr w1 : World} {t : TypeId} {v : Value} {l : List Timed} (h : OwnT w t v l wr) (hb : Below wr.heap.size wr w1) : OwnT w t v l w1 := ⟨own_ext h.1 hb, ext_trans h.2 hb⟩
theorem ownT_alloc {w wr : World} {t : TypeId} {v : Value} {l : List Timed} (h : OwnT w t v l wr) (o : Obj) : OwnT w t v l (wr.alloc o) := ⟨h.1.alloc o, ext_alloc h.2 o⟩
theorem ownT_nil {w wr : World} {t : TypeId} (hb : Below w.heap.size w wr) : OwnT w t (.slice none 0 0) [] wr := ⟨World.ownsRow_nil _ _ _ _, hb⟩
theorem ownT_empty {w wr : World} {t : TypeId} (hb : Below w.heap.size w wr) : OwnT w t (.slice (some ⟨wr.heap.size, 0, none⟩) 0 0) [] (wr.alloc (.cells #[] t)) :=
  ⟨World.ownsRow_made wr #[] 0 hb.size (by unfold maxLen; omega) (by simp), ext_alloc hb _⟩
theorem ownT_push {w wr w1 : World} {t : TypeId} {v v' : Value} {l : List Timed} {x : Timed} (h : OwnT w t v l wr) (h1 : w1.ownsRow w.heap.size t 7 v' (l.length + 1) (l.flatMap encTimed ++ encTimed x)) (hg : wr.grownBy w1 v.ownBlock) : OwnT w t v' (l ++ [x]) w1 := by
  refine ⟨by simpa using h1, h.2.grown hg h.2.size (fun k hk => (h.1.lt k hk).1)⟩
def RetT (t : TypeId) (w : World) (rs : List Timed) (e : Ending) (w' : World) : Prop := ∃ A c, e = .returned (.slice A rs.length c) ∧ w'.ownsRow w.heap.size t 7 (.slice A rs.length c) rs.length (rs.flatMap encTimed) ∧ Below w.heap.size w w'
def RetTB (t : TypeId) (w : World) (rs : List Timed) (ok : Bool) (e : Ending) (w' : World) : Prop := ∃ A c, e = .returned (.tuple #[.slice A rs.length c, .bool ok]) ∧ w'.ownsRow w.heap.size t 7 (.slice A rs.length c) rs.length (rs.flatMap encTimed) ∧ Below w.heap.size w w'
theorem retT_own {t : TypeId} {w w' : World} {v : Value} {l : List Timed} (h : OwnT w t v l w') : RetT t w l (.returned v) w' := by
  obtain ⟨A, c, rfl⟩ := own_shape h.1
  exact ⟨A, c, rfl, h.1, h.2⟩
theorem retTB_nil {t : TypeId} {w w' : World} (hb : Below w.heap.size w w') : RetTB t w [] false (.returned (.tuple #[.slice none 0 0, .bool false])) w' := ⟨none, 0, rfl, World.ownsRow_nil _ _ _ _, hb⟩
theorem rd_news7 {W : World} {g : Nat} {t : TypeId} {cs : List Value} (hg : W.heap.size = g) (hn : cs.length = 7) : Rd (W.alloc (.cells cs.toArray t)) 7 (some ⟨g, 0, none⟩) 1 cs := by subst hg; exact Rd.of_blk (Blk.new W t cs) (by omega)
def upTo (f : Flow) (k : Nat) : List Timed := (List.range k).map fun (j : Nat) => pktAt f (j : Int)
def untilL (f : Flow) (t : Int) : List Timed := (upTo f 60).takeWhile fun x => decide (x.tick ≤ t)
theorem upTo_succ (f : Flow) (k : Nat) : upTo f (k + 1) = upTo f k ++ [pktAt f (k : Int)] := by simp [upTo, List.range_succ]
theorem upTo_len (f : Flow) (k : Nat) : (upTo f k).length = k := by simp [upTo]
theorem upTo_mem {f : Flow} {t : Int} {k : Nat} (h : ∀ j : Nat, j < k → pktTick f (j : Int) ≤ t) : ∀ x ∈ upTo f k, decide (x.tick ≤ t) = true := by
  intro x hx
  simp only [upTo, List.mem_map, List.mem_range] at hx
  obtain ⟨j, hj, rfl⟩ := hx
  exact decide_eq_true (show pktTick f (j : Int) ≤ t from h j hj)
theorem until_full {f : Flow} {t : Int} (h : ∀ j : Nat, j < 60 → pktTick f (j : Int) ≤ t) : untilL f t = upTo f 60 := by
  unfold untilL
  have := List.takeWhile_append_of_pos (l₂ := []) (upTo_mem h)
  simpa using this
theorem until_at {f : Flow} {t : Int} {k : Nat} (hk : k < 60) (h : ∀ j : Nat, j < k → pktTick f (j : Int) ≤ t) (hb : t < pktTick f (k : Int)) : untilL f t = upTo f k := by
  have e : upTo f 60 = upTo f k ++ (pktAt f (k : Int) :: (List.range (59 - k)).map fun (j : Nat) => pktAt f ((k + 1 + j : Nat) : Int)) := by
    unfold upTo
    rw [show 60 = (k + 1) + (59 - k) by omega, List.range_add, List.map_append, List.range_succ, List.map_append, List.map_map, List.append_assoc]
    rfl
  unfold untilL
  rw [e, List.takeWhile_append_of_pos (upTo_mem h), List.takeWhile_cons]
  have : decide ((pktAt f (k : Int)).tick ≤ t) = false := decide_eq_false (show ¬ pktTick f (k : Int) ≤ t by omega)
  rw [this]
  simp
theorem until_len (f : Flow) (t : Int) : (untilL f t).length ≤ 60 := by
  unfold untilL
  have := (List.takeWhile_sublist (fun x : Timed => decide (x.tick ≤ t)) (l := upTo f 60)).length_le
  rwa [upTo_len] at this
theorem un_step {f : Flow} {t : Int} {k : Nat} (h : ∀ j : Nat, j < k → pktTick f (j : Int) ≤ t) (h1 : pktTick f (k : Int) ≤ t) : ∀ j : Nat, j < k + 1 → pktTick f (j : Int) ≤ t := fun j hj => by
  by_cases e : j = k
  · rw [e]; exact h1
  · exact h j (by omega)
theorem ownT_empty_at {w W : World} {t : TypeId} (hb : Below w.heap.size w W) {g : Nat} (hg : W.heap.size = g := by simp) : OwnT w t (.slice (some ⟨g, 0, none⟩) 0 0) [] (W.alloc (.cells #[] t)) := by subst hg; exact ownT_empty hb
def UnRel (w : World) (f : Flow) (t : Int) (out i : Value) (wr : World) : Prop := ∃ k : Nat, k ≤ 60 ∧ i = .int .i64 k ∧ (∀ j : Nat, j < k → pktTick f (j : Int) ≤ t) ∧ Blk wr w.heap.size 25 [.int .i64 f.key, .int .i64 f.source, .int .i64 f.dest, .int .i64 f.port, .int .i64 f.mark, .int .i64 f.start, .int .i64 f.gap, .int .i64 f.burst, .int .i64 f.size] ∧ OwnT w 58 out (upTo f k) wr

set_option maxRecDepth 100000 in
set_option maxHeartbeats 4000000 in
theorem tfUntil_any (f : Flow) (t : Int) (w : World) (hf : flowOk f = true) :
    Calls Try.prog 71 #[.agg #[.int .i64 f.key, .int .i64 f.source, .int .i64 f.dest, .int .i64 f.port, .int .i64 f.mark, .int .i64 f.start, .int .i64 f.gap, .int .i64 f.burst, .int .i64 f.size], .int .i64 t] w (RetT 58 w (untilL f t)) := by
  obtain ⟨i0, hi, hz0, hz1, hz2⟩ := info_parts infoTimed
  have B0 := Blk.new w 25 [.int .i64 f.key, .int .i64 f.source, .int .i64 f.dest, .int .i64 f.port, .int .i64 f.mark, .int .i64 f.start, .int .i64 f.gap, .int .i64 f.burst, .int .i64 f.size]
  have z0 := ext_alloc (ext_refl w) (.cells (List.toArray [.int .i64 f.key, .int .i64 f.source, .int .i64 f.dest, .int .i64 f.port, .int .i64 f.mark, .int .i64 f.start, .int .i64 f.gap, .int .i64 f.burst, .int .i64 f.size]) 25)
  go_enter Try.func71, Try.ntmps71
  go_wp2_with fail
  go_loopw [5, 6] (UnRel w f t) (fun _ i _ => 60 - (intOf i).toNat)
  case atStart => exact ⟨0, Nat.zero_le _, rfl, fun j hj => by omega, B0, ownT_nil z0⟩
  case round =>
    obtain ⟨k, hk, rfl, hall, C0, hO⟩ := hrel
    have HALL := Lib.hid hall
    clear hall
    by_cases hlt : k < 60
    · obtain ⟨y0, x0, d0, f0⟩ := C0.nine
      have hlo := upTo_len f k
      have HSU := Lib.hid (upTo_succ f k)
      generalize hl0 : upTo f k = l at *
      have HLO := Lib.hid hlo
      have HL0 := Lib.hid hl0
      clear hlo hl0
      go_wp2_with fail
      refine (tfPacket_any f _ _ hf (by omega)).mono ?_; rintro e w3 ⟨rfl, hb3⟩
      have D0 := C0.below hb3
      have hO3 := ownT_ext hO hb3
      clear y0 x0 d0 f0 hb3
      have hs3 := hO3.2.size
      by_cases hgt : t < pktTick f (k : Int)
      · go_wp2_with fail
        go_ret
        have e := until_at hlt HALL.out hgt
        rw [e, HL0.out]
        exact retT_own (ownT_alloc hO3 _)
      · have hle : pktTick f (k : Int) ≤ t := by omega
        have hO4 := ownT_alloc (ownT_alloc hO3 (.cells (List.toArray [.int .i64 (pktTick f k), .int .i64 ((k : Int) + 1), .int .i64 f.source, .int .i64 f.dest, .int .i64 f.port, .int .i64 f.mark, .int .i64 (pktSize f k)]) 58)) (.cells (List.toArray [.int .i64 (pktTick f k), .int .i64 ((k : Int) + 1), .int .i64 f.source, .int .i64 f.dest, .int .i64 f.port, .int .i64 f.mark, .int .i64 (pktSize f k)]) 58)
        go_wp2_with (at_builtin; refine wpList_append_rd (size := 7) (bytes := 56) (base := w.heap.size) rfl (.tmp 19) (.tmp 21) rfl Try.underlying42 hi hz0 hz1 hz2 rfl (by decide) rfl hO4.1 (some ⟨w3.heap.size + 1, 0, none⟩) 1 1 [.int .i64 (pktTick f k), .int .i64 ((k : Int) + 1), .int .i64 f.source, .int .i64 f.dest, .int .i64 f.port, .int .i64 f.mark, .int .i64 (pktSize f k)] rfl (rd_news7 (by simp) rfl) (by intro u hu; simp at hu; rcases hu with rfl | rfl | rfl | rfl | rfl | rfl | rfl <;> rfl) ?p1 ?p2 ?p3 ?_)
        case p1 => have := HLO.out; unfold maxLen; omega
        case p2 => have := HLO.out; omega
        case p3 => simp; omega
        intro v' w4 hown1 hg1
        have hO5 := ownT_push (x := pktAt f (k : Int)) hO4 hown1 hg1
        have D4 := ((D0.alloc (.cells (List.toArray [.int .i64 (pktTick f k), .int .i64 ((k : Int) + 1), .int .i64 f.source, .int .i64 f.dest, .int .i64 f.port, .int .i64 f.mark, .int .i64 (pktSize f k)]) 58)).alloc (.cells (List.toArray [.int .i64 (pktTick f k), .int .i64 ((k : Int) + 1), .int .i64 f.source, .int .i64 f.dest, .int .i64 f.port, .int .i64 f.mark, .int .i64 (pktSize f k)]) 58)).grown hg1 (box_ne hO4.1 ((D0.alloc (.cells (List.toArray [.int .i64 (pktTick f k), .int .i64 ((k : Int) + 1), .int .i64 f.source, .int .i64 f.dest, .int .i64 f.port, .int .i64 f.mark, .int .i64 (pktSize f k)]) 58)).alloc (.cells (List.toArray [.int .i64 (pktTick f k), .int .i64 ((k : Int) + 1), .int .i64 f.source, .int .i64 f.dest, .int .i64 f.port, .int .i64 f.mark, .int .i64 (pktSize f k)]) 58)) (by decide))
        have HO5 := Lib.hid hO5
        clear hO5 hown1 hg1 hO4
        go_wp2_with fail
        go_roundw
        case rel => first | exact ⟨k + 1, by omega, by go_num, un_step HALL.out hle, D4, by rw [HSU.out]; exact HO5.out⟩ | ((repeat apply Exists.intro); exact ⟨⟨k + 1, by omega, by go_num, un_step HALL.out hle, D4, by rw [HSU.out]; exact HO5.out⟩, rfl⟩)
        case measure => simp [intOf]; omega
    · obtain rfl : k = 60 := by omega
      go_wp2_with fail
      go_ret
      rw [until_full HALL.out]
      exact retT_own hO

set_option maxRecDepth 100000 in
set_option maxHeartbeats 4000000 in
theorem flowUntil_any (f : Flow) (t : Int) (w : World) (hf : flowOk f = true) :
    Calls Try.prog 61 #[.agg #[.int .i64 f.key, .int .i64 f.source, .int .i64 f.dest, .int .i64 f.port, .int .i64 f.mark, .int .i64 f.start, .int .i64 f.gap, .int .i64 f.burst, .int .i64 f.size], .int .i64 t] w (RetT 58 w (untilL f t)) := by
  obtain ⟨i0, hi, hz0, hz1, hz2⟩ := info_parts infoTimed
  have B0 := Blk.new w 25 [.int .i64 f.key, .int .i64 f.source, .int .i64 f.dest, .int .i64 f.port, .int .i64 f.mark, .int .i64 f.start, .int .i64 f.gap, .int .i64 f.burst, .int .i64 f.size]
  have z0 := ext_alloc (ext_refl w) (.cells (List.toArray [.int .i64 f.key, .int .i64 f.source, .int .i64 f.dest, .int .i64 f.port, .int .i64 f.mark, .int .i64 f.start, .int .i64 f.gap, .int .i64 f.burst, .int .i64 f.size]) 25)
  go_enter Try.func61, Try.ntmps61
  go_wp2_with fail
  go_loopw [5, 9] (UnRel w f t) (fun _ i _ => 60 - (intOf i).toNat)
  case atStart => exact ⟨0, Nat.zero_le _, rfl, fun j hj => by omega, B0.alloc _, ownT_empty_at z0⟩
  case round =>
    obtain ⟨k, hk, rfl, hall, C0, hO⟩ := hrel
    have HALL := Lib.hid hall
    clear hall
    by_cases hlt : k < 60
    · obtain ⟨y0, x0, d0, f0⟩ := C0.nine
      have hlo := upTo_len f k
      have HSU := Lib.hid (upTo_succ f k)
      generalize hl0 : upTo f k = l at *
      have HLO := Lib.hid hlo
      have HL0 := Lib.hid hl0
      clear hlo hl0
      go_wp2_with fail
      refine (packetAt_any f _ _ hf (by omega)).mono ?_; rintro e w3 ⟨rfl, hb3⟩
      have D0 := C0.below hb3
      have hO3 := ownT_ext hO hb3
      clear y0 x0 d0 f0 hb3
      have hs3 := hO3.2.size
      by_cases hgt : t < pktTick f (k : Int)
      · go_wp2_with fail
        go_ret
        have e := until_at hlt HALL.out hgt
        rw [e, HL0.out]
        exact retT_own (ownT_alloc hO3 _)
      · have hle : pktTick f (k : Int) ≤ t := by omega
        have hO4 := ownT_alloc (ownT_alloc hO3 (.cells (List.toArray [.int .i64 (pktTick f k), .int .i64 ((k : Int) + 1), .int .i64 f.source, .int .i64 f.dest, .int .i64 f.port, .int .i64 f.mark, .int .i64 (pktSize f k)]) 58)) (.cells (List.toArray [.int .i64 (pktTick f k), .int .i64 ((k : Int) + 1), .int .i64 f.source, .int .i64 f.dest, .int .i64 f.port, .int .i64 f.mark, .int .i64 (pktSize f k)]) 58)
        go_wp2_with (at_builtin; refine wpList_append_rd (size := 7) (bytes := 56) (base := w.heap.size) rfl (.tmp 19) (.tmp 21) rfl Try.underlying42 hi hz0 hz1 hz2 rfl (by decide) rfl hO4.1 (some ⟨w3.heap.size + 1, 0, none⟩) 1 1 [.int .i64 (pktTick f k), .int .i64 ((k : Int) + 1), .int .i64 f.source, .int .i64 f.dest, .int .i64 f.port, .int .i64 f.mark, .int .i64 (pktSize f k)] rfl (rd_news7 (by simp) rfl) (by intro u hu; simp at hu; rcases hu with rfl | rfl | rfl | rfl | rfl | rfl | rfl <;> rfl) ?p1 ?p2 ?p3 ?_)
        case p1 => have := HLO.out; unfold maxLen; omega
        case p2 => have := HLO.out; omega
        case p3 => simp; omega
        intro v' w4 hown1 hg1
        have hO5 := ownT_push (x := pktAt f (k : Int)) hO4 hown1 hg1
        have D4 := ((D0.alloc (.cells (List.toArray [.int .i64 (pktTick f k), .int .i64 ((k : Int) + 1), .int .i64 f.source, .int .i64 f.dest, .int .i64 f.port, .int .i64 f.mark, .int .i64 (pktSize f k)]) 58)).alloc (.cells (List.toArray [.int .i64 (pktTick f k), .int .i64 ((k : Int) + 1), .int .i64 f.source, .int .i64 f.dest, .int .i64 f.port, .int .i64 f.mark, .int .i64 (pktSize f k)]) 58)).grown hg1 (box_ne hO4.1 ((D0.alloc (.cells (List.toArray [.int .i64 (pktTick f k), .int .i64 ((k : Int) + 1), .int .i64 f.source, .int .i64 f.dest, .int .i64 f.port, .int .i64 f.mark, .int .i64 (pktSize f k)]) 58)).alloc (.cells (List.toArray [.int .i64 (pktTick f k), .int .i64 ((k : Int) + 1), .int .i64 f.source, .int .i64 f.dest, .int .i64 f.port, .int .i64 f.mark, .int .i64 (pktSize f k)]) 58)) (by decide))
        have HO5 := Lib.hid hO5
        clear hO5 hown1 hg1 hO4
        go_wp2_with fail
        go_roundw
        case rel => first | exact ⟨k + 1, by omega, by go_num, un_step HALL.out hle, D4, by rw [HSU.out]; exact HO5.out⟩ | ((repeat apply Exists.intro); exact ⟨⟨k + 1, by omega, by go_num, un_step HALL.out hle, D4, by rw [HSU.out]; exact HO5.out⟩, rfl⟩)
        case measure => simp [intOf]; omega
    · obtain rfl : k = 60 := by omega
      go_wp2_with fail
      go_ret
      rw [until_full HALL.out]
      exact retT_own hO

def flB (f : Flow) (t : Int) : Bool := flowOk f && inB t 0 100000
def flR (f : Flow) (t : Int) : List Timed := if flB f t then untilL f t else []
theorem flR_len (f : Flow) (t : Int) : (flR f t).length ≤ 60 := by unfold flR; split; exact until_len f t; simp

set_option maxRecDepth 100000 in
set_option maxHeartbeats 2000000 in
theorem specFlowUntil_any (f : Flow) (t : Int) (w : World) :
    Calls Try.prog 41 #[.agg #[.int .i64 f.key, .int .i64 f.source, .int .i64 f.dest, .int .i64 f.port, .int .i64 f.mark, .int .i64 f.start, .int .i64 f.gap, .int .i64 f.burst, .int .i64 f.size], .int .i64 t] w (RetTB 58 w (flR f t) (flB f t)) := by
  have B0 := Blk.new w 25 [.int .i64 f.key, .int .i64 f.source, .int .i64 f.dest, .int .i64 f.port, .int .i64 f.mark, .int .i64 f.start, .int .i64 f.gap, .int .i64 f.burst, .int .i64 f.size]
  have z0 := ext_alloc (ext_refl w) (.cells (List.toArray [.int .i64 f.key, .int .i64 f.source, .int .i64 f.dest, .int .i64 f.port, .int .i64 f.mark, .int .i64 f.start, .int .i64 f.gap, .int .i64 f.burst, .int .i64 f.size]) 25)
  cases h1 : flowOk f with
  | false =>
    have e0 : flB f t = false := by simp [flB, h1]
    have e1 : flR f t = [] := by simp [flR, e0]
    rw [e0, e1]
    have H1 := Lib.hid (show flowB f.key f.source f.dest f.port f.mark f.start f.gap f.burst f.size = false from h1)
    clear e0 e1 h1
    go_enter Try.func41, Try.ntmps41
    go_wp2_with fail
    refine (tfGood_any f.key f.source f.dest f.port f.mark f.start f.gap f.burst f.size _).mono ?_; rintro e w1 ⟨rfl, hb1⟩
    rw [H1.out]
    have D0 := B0.below hb1
    have z1 := ext_trans z0 hb1
    clear hb1 B0 z0
    obtain ⟨y0, x0, d0, f0⟩ := D0.nine
    go_wp2_with (go_at_call 58; refine (tfTick_any _ _).mono ?_; rintro e w' ⟨rfl, rfl⟩)
    go_ret2
    exact retTB_nil z1
  | true =>
    have H1 := Lib.hid (show flowB f.key f.source f.dest f.port f.mark f.start f.gap f.burst f.size = true from h1)
    have HFL := Lib.hid h1
    cases h2 : inB t 0 100000 with
    | false =>
      have e0 : flB f t = false := by simp [flB, h2]
      have e1 : flR f t = [] := by simp [flR, e0]
      rw [e0, e1]
      clear e0 e1 h1
      go_enter Try.func41, Try.ntmps41
      go_wp2_with fail
      refine (tfGood_any f.key f.source f.dest f.port f.mark f.start f.gap f.burst f.size _).mono ?_; rintro e w1 ⟨rfl, hb1⟩
      rw [H1.out]
      have D0 := B0.below hb1
      have z1 := ext_trans z0 hb1
      clear hb1 B0 z0
      obtain ⟨y0, x0, d0, f0⟩ := D0.nine
      go_wp2_with (go_at_call 58; refine (tfTick_any _ _).mono ?_; rintro e w' ⟨rfl, rfl⟩)
      go_ret2
      exact retTB_nil z1
    | true =>
      have e0 : flB f t = true := by simp [flB, h1, h2]
      have e1 : flR f t = untilL f t := by simp [flR, e0]
      rw [e0, e1]
      clear e0 e1 h1
      go_enter Try.func41, Try.ntmps41
      go_wp2_with fail
      refine (tfGood_any f.key f.source f.dest f.port f.mark f.start f.gap f.burst f.size _).mono ?_; rintro e w1 ⟨rfl, hb1⟩
      rw [H1.out]
      have D0 := B0.below hb1
      have z1 := ext_trans z0 hb1
      clear hb1 B0 z0
      obtain ⟨y0, x0, d0, f0⟩ := D0.nine
      go_wp2_with (go_at_call 58; refine (tfTick_any _ _).mono ?_; rintro e w' ⟨rfl, rfl⟩)
      refine (tfUntil_any f t _ HFL.out).mono ?_; rintro e w2 ⟨A, c, rfl, ow, hb2⟩
      go_wp2_with fail
      go_ret2
      exact ⟨A, c, rfl, own_base ow z1.size, ext_trans z1 hb2⟩

set_option maxRecDepth 100000 in
set_option maxHeartbeats 2000000 in
theorem implFlowUntil_any (f : Flow) (t : Int) (w : World) :
    Calls Try.prog 42 #[.agg #[.int .i64 f.key, .int .i64 f.source, .int .i64 f.dest, .int .i64 f.port, .int .i64 f.mark, .int .i64 f.start, .int .i64 f.gap, .int .i64 f.burst, .int .i64 f.size], .int .i64 t] w (RetTB 58 w (flR f t) (flB f t)) := by
  have B0 := Blk.new w 25 [.int .i64 f.key, .int .i64 f.source, .int .i64 f.dest, .int .i64 f.port, .int .i64 f.mark, .int .i64 f.start, .int .i64 f.gap, .int .i64 f.burst, .int .i64 f.size]
  have z0 := ext_alloc (ext_refl w) (.cells (List.toArray [.int .i64 f.key, .int .i64 f.source, .int .i64 f.dest, .int .i64 f.port, .int .i64 f.mark, .int .i64 f.start, .int .i64 f.gap, .int .i64 f.burst, .int .i64 f.size]) 25)
  cases h1 : flowOk f with
  | false =>
    have e0 : flB f t = false := by simp [flB, h1]
    have e1 : flR f t = [] := by simp [flR, e0]
    rw [e0, e1]
    have H1 := Lib.hid (show flowB f.key f.source f.dest f.port f.mark f.start f.gap f.burst f.size = false from h1)
    clear e0 e1 h1
    go_enter Try.func42, Try.ntmps42
    go_wp2_with fail
    refine (implIsFlow_any f.key f.source f.dest f.port f.mark f.start f.gap f.burst f.size _).mono ?_; rintro e w1 ⟨rfl, hb1⟩
    rw [H1.out]
    have D0 := B0.below hb1
    have z1 := ext_trans z0 hb1
    clear hb1 B0 z0
    obtain ⟨y0, x0, d0, f0⟩ := D0.nine
    go_wp2_with (go_at_call 59; refine (isTicks_any _ _).mono ?_; rintro e w' ⟨rfl, rfl⟩)
    go_ret2
    exact retTB_nil z1
  | true =>
    have H1 := Lib.hid (show flowB f.key f.source f.dest f.port f.mark f.start f.gap f.burst f.size = true from h1)
    have HFL := Lib.hid h1
    cases h2 : inB t 0 100000 with
    | false =>
      have e0 : flB f t = false := by simp [flB, h2]
      have e1 : flR f t = [] := by simp [flR, e0]
      rw [e0, e1]
      clear e0 e1 h1
      go_enter Try.func42, Try.ntmps42
      go_wp2_with fail
      refine (implIsFlow_any f.key f.source f.dest f.port f.mark f.start f.gap f.burst f.size _).mono ?_; rintro e w1 ⟨rfl, hb1⟩
      rw [H1.out]
      have D0 := B0.below hb1
      have z1 := ext_trans z0 hb1
      clear hb1 B0 z0
      obtain ⟨y0, x0, d0, f0⟩ := D0.nine
      go_wp2_with (go_at_call 59; refine (isTicks_any _ _).mono ?_; rintro e w' ⟨rfl, rfl⟩)
      go_ret2
      exact retTB_nil z1
    | true =>
      have e0 : flB f t = true := by simp [flB, h1, h2]
      have e1 : flR f t = untilL f t := by simp [flR, e0]
      rw [e0, e1]
      clear e0 e1 h1
      go_enter Try.func42, Try.ntmps42
      go_wp2_with fail
      refine (implIsFlow_any f.key f.source f.dest f.port f.mark f.start f.gap f.burst f.size _).mono ?_; rintro e w1 ⟨rfl, hb1⟩
      rw [H1.out]
      have D0 := B0.below hb1
      have z1 := ext_trans z0 hb1
      clear hb1 B0 z0
      obtain ⟨y0, x0, d0, f0⟩ := D0.nine
      go_wp2_with (go_at_call 59; refine (isTicks_any _ _).mono ?_; rintro e w' ⟨rfl, rfl⟩)
      refine (flowUntil_any f t _ HFL.out).mono ?_; rintro e w2 ⟨A, c, rfl, ow, hb2⟩
      go_wp2_with fail
      go_ret2
      exact ⟨A, c, rfl, own_base ow z1.size, ext_trans z1 hb2⟩

theorem specFlowUntil9_any (key source dest port mark start gap burst size t : Int) (w : World) :
    Calls Try.prog 41 #[.agg #[.int .i64 key, .int .i64 source, .int .i64 dest, .int .i64 port, .int .i64 mark, .int .i64 start, .int .i64 gap, .int .i64 burst, .int .i64 size], .int .i64 t] w (RetTB 58 w (flR ⟨key, source, dest, port, mark, start, gap, burst, size⟩ t) (flB ⟨key, source, dest, port, mark, start, gap, burst, size⟩ t)) := specFlowUntil_any ⟨key, source, dest, port, mark, start, gap, burst, size⟩ t w

theorem implFlowUntil9_any (key source dest port mark start gap burst size t : Int) (w : World) :
    Calls Try.prog 42 #[.agg #[.int .i64 key, .int .i64 source, .int .i64 dest, .int .i64 port, .int .i64 mark, .int .i64 start, .int .i64 gap, .int .i64 burst, .int .i64 size], .int .i64 t] w (RetTB 58 w (flR ⟨key, source, dest, port, mark, start, gap, burst, size⟩ t) (flB ⟨key, source, dest, port, mark, start, gap, burst, size⟩ t)) := implFlowUntil_any ⟨key, source, dest, port, mark, start, gap, burst, size⟩ t w

set_option maxRecDepth 100000 in
set_option maxHeartbeats 4000000 in
theorem walkFlowUntil (key source dest port mark start gap burst size : Int) (t : Int) (w : World)  :
    Calls Try.prog 10 #[.agg #[.int .i64 key, .int .i64 source, .int .i64 dest, .int .i64 port, .int .i64 mark, .int .i64 start, .int .i64 gap, .int .i64 burst, .int .i64 size], .int .i64 t] w fun e w' => e = .returned (.bool true) ∧ Below w.heap.size w w' := by
  have hR : (flR ⟨key, source, dest, port, mark, start, gap, burst, size⟩ t).length ≤ 1048576 := by have := flR_len ⟨key, source, dest, port, mark, start, gap, burst, size⟩ t; omega
  have bf0 := Blk.new w 23 [.int .i64 key, .int .i64 source, .int .i64 dest, .int .i64 port, .int .i64 mark, .int .i64 start, .int .i64 gap, .int .i64 burst, .int .i64 size]
  have z0 : Below w.heap.size w (w.alloc (.cells (List.toArray [.int .i64 key, .int .i64 source, .int .i64 dest, .int .i64 port, .int .i64 mark, .int .i64 start, .int .i64 gap, .int .i64 burst, .int .i64 size]) 23)) := ext_alloc (ext_refl w) _
  go_enter Try.func10, Try.ntmps10
  go_wp2_with fail
  refine (toFlow_any _ _ _ _ _ _ _ _ _ _ ).mono ?_; rintro e w1 ⟨rfl, hb1⟩
  have bf1 := bf0.below hb1
  have z1 := ext_trans z0 hb1
  go_wp2_with fail
  refine (specFlowUntil9_any key source dest port mark start gap burst size t _ ).mono ?_; rintro e w2 ⟨Aw, Cw, rfl, oww, hb2⟩
  have bf2 := bf1.below hb2
  have ow2 := own_base oww z1.size
  have z2 := ext_trans z1 hb2
  obtain ⟨yf2, xf2, cf2, ff2⟩ := bf2.nine
  go_wp2_with fail
  refine (toFlow_any _ _ _ _ _ _ _ _ _ _ ).mono ?_; rintro e w3 ⟨rfl, hb3⟩
  have ow3 := own_ext ow2 hb3
  have bf3 := bf2.below hb3
  have z3 := ext_trans z2 hb3
  clear yf2 xf2 cf2 ff2
  go_wp2_with fail
  refine (implFlowUntil9_any key source dest port mark start gap burst size t _ ).mono ?_; rintro e w4 ⟨Ag, Cg, rfl, owg, hb4⟩
  have apgw := apart_before ow3.lt owg.lt
  have ow4 := own_ext ow3 hb4
  have bf4 := bf3.below hb4
  have og4 := own_base owg z3.size
  have z4 := ext_trans z3 hb4
  go_wp2_with fail
  refine (eqTimedS_same _ _ (flR ⟨key, source, dest, port, mark, start, gap, burst, size⟩ t).length _ _ (flR ⟨key, source, dest, port, mark, start, gap, burst, size⟩ t) _ hR (Rd.of_own og4) (Rd.of_own ow4)).mono ?_; rintro e w5 ⟨rfl, hb5⟩
  have ow5 := own_ext ow4 hb5
  have og5 := own_ext og4 hb5
  have bf5 := bf4.below hb5
  have z5 := ext_trans z4 hb5
  go_wp2_with fail
  refine (markTimedS_own _ (flR ⟨key, source, dest, port, mark, start, gap, burst, size⟩ t).length _ _ _ 1 _ hR (by omega) (by omega) og5).mono ?_; rintro e w6 ⟨rfl, og6, hg6⟩
  have z6 := below_marked z5 og5 (Nat.le_refl _) hg6
  have ow6 := ow5.kept hg6 apgw.1
  have bf6 := bf5.grown hg6 (box_ne og5 bf5 (by decide))
  go_wp2_with fail
  refine (heldTimedS_any _ (flR ⟨key, source, dest, port, mark, start, gap, burst, size⟩ t).length _ 1 _ hR (by omega) (by omega) (Rd.of_own og6)).mono ?_; rintro e w7 ⟨rfl, rfl⟩
  obtain ⟨yf7, xf7, cf7, ff7⟩ := bf6.nine
  go_wp2_with fail
  refine (toFlow_any _ _ _ _ _ _ _ _ _ _ ).mono ?_; rintro e w8 ⟨rfl, hb8⟩
  have ow8 := own_ext ow6 hb8
  have og8 := own_ext og6 hb8
  have bf8 := bf6.below hb8
  have z8 := ext_trans z6 hb8
  clear yf7 xf7 cf7 ff7
  go_wp2_with fail
  refine (implFlowUntil9_any key source dest port mark start gap burst size t _ ).mono ?_; rintro e w9 ⟨Ah, Ch, rfl, owh, hb9⟩
  have aphw := apart_before ow8.lt owh.lt
  have ow9 := own_ext ow8 hb9
  have aphg := apart_before og8.lt owh.lt
  have og9 := own_ext og8 hb9
  have bf9 := bf8.below hb9
  have oh9 := own_base owh z8.size
  have z9 := ext_trans z8 hb9
  go_wp2_with fail
  refine (eqTimedS_same _ _ (flR ⟨key, source, dest, port, mark, start, gap, burst, size⟩ t).length _ _ (flR ⟨key, source, dest, port, mark, start, gap, burst, size⟩ t) _ hR (Rd.of_own oh9) (Rd.of_own ow9)).mono ?_; rintro e w10 ⟨rfl, hb10⟩
  have ow10 := own_ext ow9 hb10
  have og10 := own_ext og9 hb10
  have oh10 := own_ext oh9 hb10
  have bf10 := bf9.below hb10
  have z10 := ext_trans z9 hb10
  go_wp2_with fail
  refine (heldTimedS_any _ (flR ⟨key, source, dest, port, mark, start, gap, burst, size⟩ t).length _ 1 _ hR (by omega) (by omega) (Rd.of_own og10)).mono ?_; rintro e w11 ⟨rfl, rfl⟩
  go_wp2_with fail
  go_ret
  exact ⟨rfl, z10⟩

end Go.Proofs.Ytnnihiajggdplaa