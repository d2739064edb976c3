/- The reference's run of bands: contract of spec.bdRun. -/
import Derived.Test.YtgdccclpibbbeaaBaS
import Derived.Deep.DeepCutAuto
import Derived.Deep.DeepFit
import Derived.Deep.CutBlock
import Derived.BigRegion
namespace Go.Proofs.Ytgdccclpibbbeaa
open Go.RowKit

/-- The row of sent ticks as the reference keeps it: 0 where nothing has come yet. -/
def sentRow (m a : Nat) (out : List Int) : List Int := out.take a ++ List.replicate (m - a) 0
theorem sentRow_len {m a : Nat} {out : List Int} (ho : out.length = m) (ha : a ≤ m) : (sentRow m a out).length = m := by simp [sentRow]; omega
theorem sentRow_come {m a : Nat} {out : List Int} (ho : out.length = m) (ha : a < m) (hu : out[a]? = some (-1)) : (sentRow m a out).set a (-1) = sentRow m (a + 1) out := by
  apply List.ext_getElem?
  intro j
  unfold sentRow
  rw [List.getElem?_set]
  by_cases hj : a = j
  · subst hj
    rw [if_pos rfl, if_pos (by simp; omega), List.getElem?_append_left (by simp; omega), List.getElem?_take, if_pos (by omega), hu]
  · rw [if_neg hj]
    by_cases hj2 : j < a
    · rw [List.getElem?_append_left (by simp; omega), List.getElem?_append_left (by simp; omega), List.getElem?_take, List.getElem?_take, if_pos hj2, if_pos (by omega)]
    · rw [List.getElem?_append_right (by simp; omega), List.getElem?_append_right (by simp; omega), List.getElem?_replicate, List.getElem?_replicate]
      simp only [List.length_take, ho, Nat.min_eq_left (show a ≤ m by omega), Nat.min_eq_left (show a + 1 ≤ m by omega)]
      by_cases h : j < m
      · rw [if_pos (by omega), if_pos (by omega)]
      · rw [if_neg (by omega), if_neg (by omega)]
theorem sentRow_send {m a i : Nat} {out : List Int} (ho : out.length = m) (ha : a ≤ m) (hi : i < a) (t : Int) : (sentRow m a out).set i t = sentRow m a (out.set i t) := by
  unfold sentRow
  rw [List.set_append_left _ _ (by simp; omega), List.take_set]
theorem sentRow_full {m : Nat} {out : List Int} (ho : out.length = m) : sentRow m m out = out := by simp [sentRow, ← ho]

/-- At the head of a step. -/
def RunRel (w : World) (ti ts : TypeId) (m : Nat) (xs : List Int) (ar : List Marked) (lim : Int) (cnt a now : Value) (wr : World) : Prop :=
  ∃ (f : Nat) (s : BSt) (vs : List Value), BInv ar f s ∧ bRun xs ar lim f s = bandsRun xs ar lim ∧ cnt = .int .i64 (total s.qs : Nat) ∧ a = .int .i64 (s.a : Nat) ∧ now = .int .i64 s.now ∧
    Blk wr w.heap.size ti ((sentRow m s.a s.out).map (Value.int .i64)) ∧ QsV wr (w.heap.size + 2) (w.heap.size + 1) ts s.qs vs ∧ Below w.heap.size w wr
/-- Inside the intake of a step. -/
def InRel (w : World) (ti ts : TypeId) (m : Nat) (xs : List Int) (ar : List Marked) (lim now : Int) (s : BSt) (cnt a : Value) (wr : World) : Prop :=
  ∃ (k : Nat) (qs : Qs) (vs : List Value), s.a ≤ k ∧ k ≤ m ∧ intake xs lim now (ar.drop k) k qs = intake xs lim now (ar.drop s.a) s.a s.qs ∧ QOk k qs ∧ cnt = .int .i64 (total qs : Nat) ∧ a = .int .i64 (k : Nat) ∧
    Blk wr w.heap.size ti ((sentRow m k s.out).map (Value.int .i64)) ∧ QsV wr (w.heap.size + 2) (w.heap.size + 1) ts qs vs ∧ Below w.heap.size w wr

theorem bandN_lt {xs : List Int} (h : bandMapB xs = true) (x : Marked) : bandN xs x < 8 := by
  unfold bandN bandAt
  rw [List.getD_eq_getElem?_getD]
  cases hz : xs[x.mark.toNat % 16]? with
  | none => decide
  | some z =>
    obtain ⟨x0, x1⟩ := inB_iff.1 (all_get (bandMapB_iff.1 h).1 hz)
    simp only [Option.getD_some]
    omega
theorem QRow.shape {w : World} {base : Nat} {v : Value} {xs : List Value} (h : QRow w base v xs) : ∃ (ad : Option Addr) (cap : Nat), v = .slice ad xs.length cap := by
  rcases h with ⟨rfl, rfl⟩ | ⟨g, o, cap, cur, rfl, _⟩
  · exact ⟨none, 0, rfl⟩
  · exact ⟨_, cap, rfl⟩
theorem QRow.head {w : World} {base : Nat} {ad : Option Addr} {n cap : Nat} {x : Value} {xs : List Value} (h : QRow w base (.slice ad n cap) (x :: xs)) : ∃ g o, ad = some ⟨g, o, none⟩ ∧ base ≤ g ∧ g < w.heap.size ∧ n ≤ cap ∧ w.cell? ⟨g, o, none⟩ = some x := by
  rcases h with ⟨_, h⟩ | ⟨g, o, cap1, cur, he, hb, hB, hc, hf, hv⟩
  · cases h
  · injection he with h1 h2 h3
    subst h1; subst h2; subst h3
    refine ⟨g, o, rfl, hb, hB.lt, hc, ?_⟩
    rw [hB.cell]
    have := hv 0 (by simp)
    simpa using this
theorem QsV.at_ {w : World} {base g8 : Nat} {t : TypeId} {qs : Qs} {vs : List Value} (h : QsV w base g8 t qs vs) {b : Nat} (hb : b < 8) :
    ∃ (ad : Option Addr) (cap : Nat), vs[b]? = some (.slice ad (qAt qs b).length cap) ∧ w.cell? ⟨g8, b, none⟩ = some (.slice ad (qAt qs b).length cap) ∧ QRow w base (.slice ad (qAt qs b).length cap) (nq (qAt qs b)) ∧ w.frozen? ⟨g8, b, none⟩ = false ∧ g8 < w.heap.size := by
  have hv : vs[b]? = some (vs[b]'(by rw [h.vl]; exact hb)) := List.getElem?_eq_getElem _
  generalize vs[b]'(by rw [h.vl]; exact hb) = v at hv
  have hr := h.row b v hv
  obtain ⟨ad, cap, rfl⟩ := hr.shape
  have e : (nq (qAt qs b)).length = (qAt qs b).length := by simp [nq]
  rw [e] at hv hr
  exact ⟨ad, cap, hv, by rw [h.blk.cell]; exact hv, hr, h.blk.frozen b, h.blk.lt⟩
theorem grown_set (w : World) (g i : Nat) (u : Value) : w.grownBy (w.setCell ⟨g, i, none⟩ u) (some g) := ⟨rfl, rfl, rfl, by simp [World.setCell], fun k _ hk => Below.heap_setCell w _ u k (fun e => hk (by simp [e]))⟩
theorem grown_alloc (w : World) (o : Obj) (row : Option Nat) : w.grownBy (w.alloc o) row := ⟨rfl, rfl, rfl, by simp, fun _ hk _ => heap_alloc_old w o hk⟩
theorem QRow.drew {w : World} {base : Nat} {v : Value} {xs : List Value} (h : QRow w base v xs) : QRow w.drew base v xs := h
theorem firstQ_before {qs : Qs} {b : Nat} (h : b < firstQ qs) : qAt qs b = [] := by
  have h2 : b < qs.length := Nat.lt_of_lt_of_le h (by unfold firstQ; exact List.findIdx_le_length)
  have := List.not_of_lt_findIdx (p := fun q : List Nat => !q.isEmpty) (xs := qs) h
  unfold qAt
  rw [List.getD_eq_getElem?_getD, List.getElem?_eq_getElem h2]
  simpa using this
/-- While the first queue that holds something is looked for. -/
def FirstRel (wc : World) (fq : Nat) (i : Value) (wx : World) : Prop := ∃ b : Nat, b ≤ fq ∧ i = .int .i64 (b : Int) ∧ wx = wc
theorem intake_come {xs : List Int} {lim now : Int} {ar : List Marked} {k : Nat} {qs : Qs} {x : Marked} (hx : ar[k]? = some x) (ht : x.tick = now) : intake xs lim now (ar.drop k) k qs = intake xs lim now (ar.drop (k + 1)) (k + 1) (enq lim (bandN xs x) k qs) := by
  obtain ⟨hk, he⟩ := List.getElem?_eq_some_iff.1 hx
  rw [List.drop_eq_getElem_cons hk, he]
  conv => lhs; unfold intake
  rw [if_pos ht]
theorem intake_stop {xs : List Int} {lim now : Int} {ar : List Marked} {k : Nat} {qs : Qs} (h : ∀ x, ar[k]? = some x → x.tick ≠ now) : intake xs lim now (ar.drop k) k qs = (k, qs) := by
  rcases Nat.lt_or_ge k ar.length with hk | hk
  · rw [List.drop_eq_getElem_cons hk]
    unfold intake
    rw [if_neg (h _ (List.getElem?_eq_getElem hk))]
  · rw [List.drop_of_length_le hk]
    rfl
theorem wpList_qappend {ops : Array Oper} {rest : List Oper} {o : Oper} {a : Act} {Q : Exit → Act → World → Prop} (hgd : o.guard = none) (s x : Operand)
    (ho : o.op = .call { callee := .builtin .append, args := #[s, x], argTypes := #[22, 22] }) (hty : o.type = 22) (w : World) (base : Nat) (v : Value) (xs : List Value) (u : Value) (ad : Addr) (c : Nat) (hsv : a.eval s = v) (hx : a.eval x = .slice (some ad) 1 c)
    (h : QRow w base v xs) (hb : base ≤ w.heap.size) (hl : xs.length ≤ 1000) (hu : w.cell? ad = some u) (h1 : u.oneCell' = true)
    (hk : ∀ v' w', QRow w' base v' (xs ++ [u]) → w.grownBy w' v.ownBlock → (v'.ownBlock = v.ownBlock ∨ v'.ownBlock = some w.heap.size) → wpList Try.prog ops Q rest (a.put o.dst v') w') : wpList Try.prog ops Q (o :: rest) a w := by
  refine wpList_plain hgd fun K hK => ?_
  obtain ⟨v', w', hrun, h2, h3, h4⟩ := qrow_append w base v xs u ad c h hb hl hu h1
  unfold Oper.wp execOp
  simp only [ho, resolve, invoke, builtin, Sem.run_bind, Sem.run_pure, Result.andThen_ok, List.map_toArray, List.map_cons, List.map_nil, hsv, hx, hty, hrun]
  exact hK _ _ (hk v' w' h2 h3 h4)
theorem sentRow_cell {w : World} {g : Nat} {t : TypeId} {m a j : Nat} {out : List Int} (hB : Blk w g t ((sentRow m a out).map (Value.int .i64))) (hl : (sentRow m a out).length = m) (hj : j < m) : ∃ y, w.cell? ⟨g, j, none⟩ = some (.int .i64 y) := by
  rw [hB.cell, List.getElem?_map, List.getElem?_eq_getElem (by omega)]
  exact ⟨_, rfl⟩
/-- Behind the intake of a step. -/
def OutRel (w : World) (ti ts : TypeId) (m : Nat) (xs : List Int) (ar : List Marked) (lim now : Int) (s : BSt) (cnt a : Value) (wr : World) : Prop :=
  ∃ (vs : List Value), cnt = .int .i64 (total (intake xs lim now (ar.drop s.a) s.a s.qs).2 : Nat) ∧ a = .int .i64 ((intake xs lim now (ar.drop s.a) s.a s.qs).1 : Nat) ∧
    Blk wr w.heap.size ti ((sentRow m (intake xs lim now (ar.drop s.a) s.a s.qs).1 s.out).map (Value.int .i64)) ∧ QsV wr (w.heap.size + 2) (w.heap.size + 1) ts (intake xs lim now (ar.drop s.a) s.a s.qs).2 vs ∧ Below w.heap.size w wr

theorem most_any (a b : Int) (w : World) : Calls Try.prog 53 #[.int .i64 a, .int .i64 b] w fun e w' => e = .returned (.int .i64 (max a b)) ∧ w = w' := by
  by_cases h : b < a
  · have e : max a b = a := by omega
    rw [e]
    go_enter Try.func53, Try.ntmps53
    go_wp2
    go_ret
    exact ⟨rfl, rfl⟩
  · have e : max a b = b := by omega
    rw [e]
    go_enter Try.func53, Try.ntmps53
    go_wp2
    go_ret
    exact ⟨rfl, rfl⟩

set_option maxRecDepth 100000 in
set_option maxHeartbeats 4000000 in
theorem bdRun_any (A : Option Addr) (c : Nat) (xs : List Int) (B : Option Addr) (m d : Nat) (ar : List Marked) (lim : Int) (w : World) (hx : bandMapB xs = true) (ha : arrB ar = true) (hl0 : 0 < lim) (hl1 : lim ≤ 1048576)
    (hr : Rd w 1 A 16 (xs.map (Value.int .i64))) (hs : Rd w 2 B m (ar.flatMap encMarked)) :
    Calls Try.prog 49 #[.slice A 16 c, .slice B m d, .int .i64 lim] w fun e w' => e = .returned (.slice (some ⟨w.heap.size, 0, none⟩) m m) ∧ Blk w' w.heap.size 3 ((bandsRun xs ar lim).map (Value.int .i64)) ∧ Below w.heap.size w w' := by
  obtain ⟨i0, hi, hz0, hz1, hz2⟩ := info_parts infoIntB
  have hl : ar.length = m := by have h1 := hs.1; rw [flat_len encMarked 2 encMarked_len] at h1; omega
  have h40 : m ≤ 40 := by have := arr_len ha; omega
  have hmk1 := fun W => run_make (P := Try.prog) W 22 3 i0 _ Try.underlying22 hi hz0 .i64 .i64 (m : Int) (m : Int) (by omega) (by omega) (by rw [hz2]; omega) (by omega)
  rw [hz1] at hmk1
  have hmk : ∀ W, (Instr.makeSlice 62 (.int .i64 8) (.int .i64 8)).run Try.prog W = .ok (.slice (some ⟨W.heap.size, 0, none⟩) 8 8) (W.alloc (.cells (List.toArray (List.replicate 8 (.slice none 0 0))) 22)) := fun _ => by kernel_rfl
  go_enter Try.func49, Try.ntmps49
  go_wp2_with fail
  go_loopw [9, 10, 11] (RunRel w 3 22 m xs ar lim) (fun n i _ _ => 2 * (m - (intOf i).toNat) + (intOf n).toNat)
  case atStart =>
    refine ⟨2 * ar.length, bStart ar, _, bInv_start ha, rfl, rfl, rfl, rfl, ?_, QsV.start (by omega) (by simp) ?_, ((ext_refl w).alloc (Nat.le_refl _) _).alloc (by simp) _⟩
    · refine (show Blk (w.alloc (.cells (madeCells #[.int .i64 0] m) 3)) _ _ _ from ?_).alloc _
      have e : madeCells #[Value.int .i64 0] m = ((sentRow m 0 (bStart ar).out).map (Value.int .i64)).toArray := by
        apply Array.ext'
        apply List.ext_getElem?
        intro j
        by_cases hj : j < m
        · simp [madeCells, sentRow, hj, Nat.mod_one]
        · simp [madeCells, sentRow, hj]
      rw [e]
      exact Blk.new _ _ _
    · have := Blk.new (w.alloc (.cells (madeCells #[.int .i64 0] m) 3)) 22 (List.replicate 8 (.slice none 0 0))
      rw [show (w.alloc (.cells (madeCells #[.int .i64 0] m) 3)).heap.size = w.heap.size + 1 by simp] at this
      exact this
  case round =>
    obtain ⟨f, s, vs, hi2, hrun, rfl, rfl, rfl, hB, hQ, hb⟩ := hrel
    have hx8 := fun x : Marked => bandN_lt hx x
    have han := hi2.an
    have htt := hi2.q.tot
    cases hd : bDone ar s with
    | true =>
      simp only [bDone, Bool.and_eq_true, decide_eq_true_eq, beq_iff_eq] at hd
      have e1 : s.a = m := by omega
      have e2 := hd.1
      rw [bRun_done (by simp [bDone, hd])] at hrun
      rw [e1, sentRow_full (by rw [hi2.ol, hl]), hrun] at hB
      rw [e1, e2]
      have HB := Lib.hid hB
      have HBL := Lib.hid hb
      clear hB hb hQ hi2 hrun
      go_wp2_with fail
      go_ret
      exact ⟨rfl, HB.out, HBL.out⟩
    | false =>
      have hN := now_bd ha hi2 hd
      have hsn := hi2.n0
      have HD := Lib.hid hd
      have HI := Lib.hid hi2
      have HR := Lib.hid hrun
      have HX := Lib.hid hx8
      have HA := Lib.hid ha
      have HXS := Lib.hid hx
      have HB := Lib.hid hB
      have HQ := Lib.hid hQ
      clear hd hi2 hrun hx8 ha hx hmk1 hmk hB hQ
      go_upto_region 4 with fail
      go_cut [25] (fun s25 wx => s25 = .bool true ∧ wx = wr)
      case first =>
        by_cases hlt : s.a < m
        · have e1 : ((s.a : Int) < (m : Int)) := by omega
          go_wp2_with fail
          go_meet
          exact ⟨rfl, rfl⟩
        · have e1 : ¬ ((s.a : Int) < (m : Int)) := by omega
          have hd := HD.out
          simp only [bDone, Bool.and_eq_false_iff, beq_eq_false_iff_ne, decide_eq_false_iff_not] at hd
          have e2 : (0 : Int) < (total s.qs : Nat) := by omega
          have e3 : decide (0 < total s.qs) = true := by simpa using e2
          go_wp2_with fail
          go_meet
          exact ⟨rfl, rfl⟩
      case rest =>
        obtain ⟨rfl, rfl⟩ := hcut
        go_upto_if 27 with fail
        go_cut [9, 11] (fun s9 s11 wx => s9 = .int .i64 (total s.qs : Nat) ∧ s11 = .int .i64 (nowOf ar s) ∧ wx = wc)
        case first =>
          by_cases h0 : total s.qs = 0
          · have e1 : ((total s.qs : Nat) : Int) = 0 := by omega
            have hd := HD.out
            simp only [bDone, Bool.and_eq_false_iff, beq_eq_false_iff_ne, decide_eq_false_iff_not] at hd
            have hlt : s.a < m := by omega
            obtain ⟨b2, o2, rfl, hbl2, hcell⟩ := hs.2 (by omega)
            have hlx : s.a < ar.length := by omega
            have hx : ar[s.a]? = some ar[s.a] := List.getElem?_eq_getElem hlx
            generalize ar[s.a] = x at hx
            have hbw := hb.size
            have c0 : wc.cell? ⟨b2, o2 + (s.a * 2 + 0), none⟩ = some (.int .i64 x.tick) := (hb.cell (p := ⟨b2, o2 + (s.a * 2 + 0), none⟩) hbl2).trans (hcell _ _ ((flat_get encMarked 2 encMarked_len ar s.a 0 x hx (by omega)).trans rfl))
            simp only [Nat.add_zero] at c0
            have eN : nowOf ar s = max s.now x.tick := by simp [nowOf, h0, tickAt, hx]
            clear hx hcell hd
            go_wp2_with (go_at_call 53; refine (most_any _ _ _).mono ?_; rintro e w9 ⟨rfl, rfl⟩)
            go_meet
            exact ⟨by first | rfl | rw [e1], by rw [eN], rfl⟩
          · have e1 : ¬ ((total s.qs : Nat) : Int) = 0 := by omega
            have eN : nowOf ar s = s.now := by simp [nowOf, h0]
            go_wp2_with fail
            go_meet
            exact ⟨by first | rfl | rw [e1], by rw [eN], rfl⟩
        case rest =>
          obtain ⟨rfl, rfl, rfl⟩ := hcut
          have n0 := hN.1
          have n1 : nowOf ar s ≤ 100081 := by omega
          generalize hNN : nowOf ar s = N at *
          have HNN := Lib.hid hNN
          clear hNN hN
          go_upto_block 2 with fail
          go_cut [9, 10] (OutRel w 3 22 m xs ar lim N s)
          case first =>
            go_wp2_with fail
            go_loopw [9, 10] (InRel w 3 22 m xs ar lim N s) (fun _ i _ => m - (intOf i).toNat)
            case atStart => exact ⟨s.a, s.qs, vs, Nat.le_refl _, by omega, rfl, HI.out.q, rfl, rfl, HB.out, HQ.out, hb⟩
            case round =>
              clear hb HB HQ
              obtain ⟨k, qs, vs2, hk1, hk2, hin, hQO, rfl, rfl, hB2, hQ2, hb2⟩ := hrel
              have hqt := hQO.tot
              by_cases hlt : k < m
              · have e1 : ((k : Int) < (m : Int)) := by omega
                have hlx : k < ar.length := by omega
                have hx : ar[k]? = some ar[k] := List.getElem?_eq_getElem hlx
                generalize ar[k] = x at hx
                have hxb := (arr_at HA.out hx)
                obtain ⟨b2, o2, rfl, hbl2, hcell⟩ := hs.2 (by omega)
                have hbw2 : b2 < wr.heap.size := Nat.lt_of_lt_of_le hbl2 hb2.size
                have c0 : wr.cell? ⟨b2, o2 + (k * 2 + 0), none⟩ = some (.int .i64 x.tick) := (hb2.cell (p := ⟨b2, o2 + (k * 2 + 0), none⟩) hbl2).trans (hcell _ _ ((flat_get encMarked 2 encMarked_len ar k 0 x hx (by omega)).trans rfl))
                simp only [Nat.add_zero] at c0
                by_cases ht : x.tick = N
                · rw [ht] at c0
                  have c1 : wr.cell? ⟨b2, o2 + (k * 2 + 1), none⟩ = some (.int .i64 x.mark) := (hb2.cell (p := ⟨b2, o2 + (k * 2 + 1), none⟩) hbl2).trans (hcell _ _ ((flat_get encMarked 2 encMarked_len ar k 1 x hx (by omega)).trans rfl))
                  simp only [← Nat.add_assoc] at c1
                  obtain ⟨j, hj⟩ := Int.eq_ofNat_of_zero_le hxb.2.1
                  rw [hj] at c1
                  obtain ⟨b, o, z, rfl, hbl, hz, hba, hcz⟩ := band_at HXS.out hr j
                  have hbw : b < wr.heap.size := Nat.lt_of_lt_of_le hbl hb2.size
                  have hbn : bandN xs x = z := by unfold bandN; rw [hj, hba]; simp
                  have hcz' := (hb2.cell (p := ⟨b, o + j % 16, none⟩) hbl).trans hcz
                  have hj2 : j ≤ 65535 := by omega
                  have hcome := intake_come (xs := xs) (lim := lim) (qs := qs) hx ht
                  rw [hbn] at hcome
                  have hen := enq_ok (lim := lim) hQO hz
                  have hlen : (sentRow m k s.out).length = m := sentRow_len (HI.out.ol.trans hl) (by omega)
                  obtain ⟨y, cy⟩ := sentRow_cell hB2 hlen hlt
                  have fy := hB2.frozen k
                  have hy := hB2.lt
                  have hB3 : Blk (wr.setCell ⟨w.heap.size, k, none⟩ (.int .i64 (-1))) w.heap.size 3 ((sentRow m (k + 1) s.out).map (Value.int .i64)) := by
                    have h := hB2.set_ k (.int .i64 (-1))
                    rw [← List.map_set, sentRow_come (HI.out.ol.trans hl) hlt (HI.out.un k hk1 hlx)] at h
                    exact h
                  have hQ3 := hQ2.grown (grown_set wr w.heap.size k (.int .i64 (-1))) (fun g e => by injection e with e; omega)
                  have hb3 : Below w.heap.size w (wr.setCell ⟨w.heap.size, k, none⟩ (.int .i64 (-1))) := hb2.setCell (Nat.le_refl _) _
                  have HF := Lib.hid (And.intro hB3 (And.intro hQ3 hb3))
                  have HIN := Lib.hid (hcome.symm.trans hin)
                  have HEN := Lib.hid hen
                  have HQO := Lib.hid hQO
                  clear hx hcell hcz hba hj hbn hcome hen hlen hin hB2 hQ2 hQO hB3 hQ3 hb3
                  go_upto_region 11 with fail
                  generalize (wr.setCell ⟨w.heap.size, k, none⟩ (.int .i64 (-1))) = w1 at HF ⊢
                  clear c0 c1 hcz' cy fy hy hbw hbw2 hb2
                  obtain ⟨hB3, hQ3, hb3⟩ := HF.out
                  obtain ⟨ad, cap, hv, cv, hqr, fv, hg8⟩ := hQ3.at_ hz
                  have hql := qAt_le_total qs z
                  by_cases hroom : ((qAt qs z).length : Int) < lim
                  · have HE := Lib.hid (show enq lim z k qs = qs.set z (qAt qs z ++ [k]) by unfold enq; rw [if_pos hroom])
                    go_upto_region 12 with fail
                    have hqrA := hqr.later (grown_alloc w1 (.cells #[.int .i64 (k : Int)] 3) (some (w.heap.size + 1))) (fun g e h => by have := (hqr.own e).1; injection h with h; omega)
                    have HQA := Lib.hid hqrA
                    have HQ3 := Lib.hid hQ3
                    have HB3 := Lib.hid hB3
                    have HB4 := Lib.hid hb3
                    have HHV := Lib.hid hv
                    clear hqrA hQ3 hB3 hb3 HF hqr hv
                    go_wp2_with (at_builtin; refine wpList_qappend rfl (.tmp 74) (.tmp 76) rfl rfl _ (w.heap.size + 2) (.slice ad (qAt qs z).length cap) (nq (qAt qs z)) (.int .i64 (k : Int)) ⟨w1.heap.size, 0, none⟩ 1 rfl rfl HQA.out ?p1 ?p2 ?p3 rfl ?_)
                    case p3 => simp
                    case p1 => simp; omega
                    case p2 => simp [nq]; omega
                    intro v' w4 hq4 hg4 ho4
                    have hgA := (grown_alloc w1 (.cells #[.int .i64 (k : Int)] 3) (Value.slice ad (qAt qs z).length cap).ownBlock).trans hg4
                    have hown : ∀ g, (Value.slice ad (qAt qs z).length cap).ownBlock = some g → w.heap.size + 2 ≤ g := fun g e => ((HQ3.out.row z _ HHV.out).own e).1
                    have hB8 := HQ3.out.blk.grown hgA (fun e => by have := hown _ e.symm; omega)
                    have c4 : w4.cell? ⟨w.heap.size + 1, z, none⟩ = some (.slice ad (qAt qs z).length cap) := by rw [hB8.cell]; exact HHV.out
                    have f4 := hB8.frozen z
                    have y4 := hB8.lt
                    have hB5 := (HB3.out.grown hgA (fun e => by have := hown _ e.symm; omega)).far (p := ⟨w.heap.size + 1, z, none⟩) (by simp) v'
                    have hb5 := (HB4.out.grown hgA HB4.out.size (fun g e => by have := hown _ e; omega)).setCell (p := ⟨w.heap.size + 1, z, none⟩) (by simp) v'
                    have hQ5 := HQ3.out.set (q' := qAt qs z ++ [k]) hz HHV.out hgA (by simpa [nq] using hq4) (by rcases ho4 with h | h; exact .inl h; exact .inr ⟨_, by simp, h⟩)
                    obtain ⟨ad2, cap2, rfl⟩ := hq4.shape
                    have htt2 := total_set qs z (qAt qs z ++ [k]) (by rw [HQ3.out.ql]; exact hz)
                    rw [List.length_append, List.length_singleton] at htt2
                    simp only [List.length_append, List.length_singleton] at hB5 hQ5 hb5
                    have H5 := Lib.hid (And.intro hB5 (And.intro hQ5 hb5))
                    clear hB5 hb5 hQ5 hq4 hg4 ho4 hgA hB8 hown HQA HQ3 HB3 HB4
                    go_wp2_with fail
                    go_roundw
                    case rel =>
                      obtain ⟨hB5, hQ5, hb5⟩ := H5.out
                      have hin5 := HIN.out
                      have hen5 := HEN.out
                      rw [HE.out] at hin5 hen5
                      have hr2 : InRel w 3 22 m xs ar lim N s (.int .i64 ((total qs : Nat) + 1)) (.int .i64 ((k : Int) + 1)) _ := ⟨k + 1, _, _, by omega, by omega, hin5, hen5, by rw [show total (qs.set z (qAt qs z ++ [k])) = total qs + 1 by omega]; simp, by simp, hB5, hQ5, hb5⟩
                      first | exact hr2 | ((repeat apply Exists.intro); exact ⟨hr2, rfl⟩)
                    case measure => simp [intOf]; omega
                  · have HE := Lib.hid (show enq lim z k qs = qs by unfold enq; rw [if_neg hroom])
                    go_wp2_with fail
                    go_roundw
                    case rel =>
                      have hin5 := HIN.out
                      have hen5 := HEN.out
                      rw [HE.out] at hin5 hen5
                      have hr2 : InRel w 3 22 m xs ar lim N s (.int .i64 (total qs : Nat)) (.int .i64 ((k : Int) + 1)) w1 := ⟨k + 1, _, _, by omega, by omega, hin5, hen5, rfl, by simp, hB3, hQ3, hb3⟩
                      first | exact hr2 | ((repeat apply Exists.intro); exact ⟨hr2, rfl⟩)
                    case measure => simp [intOf]; omega
                · have HST := Lib.hid (intake_stop (xs := xs) (lim := lim) (qs := qs) (fun y hy => by rw [hx] at hy; rw [← Option.some.inj hy]; exact ht))
                  clear hx hcell
                  go_wp2_with fail
                  go_meet
                  rw [HST.out] at hin
                  exact ⟨vs2, by rw [← hin], by rw [← hin], by rw [← hin]; exact hB2, by rw [← hin]; exact hQ2, hb2⟩
              · have e1 : ¬ ((k : Int) < (m : Int)) := by omega
                go_wp2_with fail
                go_meet
                rw [intake_stop (fun y hy => by have := (List.getElem?_eq_some_iff.1 hy).1; omega)] at hin
                exact ⟨vs2, by rw [← hin], by rw [← hin], by rw [← hin]; exact hB2, by rw [← hin]; exact hQ2, hb2⟩
          case rest =>
            clear hb HB HQ
            obtain ⟨vs3, rfl, rfl, hB3, hQ3, hb3⟩ := hcut
            have hst := step_in HA.out HX.out hl0 HI.out HD.out
            have hiv := bInv_step HA.out HX.out hl0 HI.out HD.out
            have hrn := HR.out
            rw [bRun_step (now_bd HA.out HI.out HD.out).2.2.2 HD.out] at hrn
            have hbs : bStep xs ar lim s = ⟨N + 1, (intake xs lim N (ar.drop s.a) s.a s.qs).1, (bSend N (intake xs lim N (ar.drop s.a) s.a s.qs).2 s.out).1, (bSend N (intake xs lim N (ar.drop s.a) s.a s.qs).2 s.out).2⟩ := by unfold bStep; simp only [HNN.out]
            have hio := (intake_ok (lim := lim) (now := N) HX.out (ar.drop s.a) s.a s.qs HI.out.q).2.2.2.2.1
            rw [HNN.out] at hst
            rw [hbs] at hiv hrn
            clear hbs
            generalize intake xs lim N (ar.drop s.a) s.a s.qs = T at *
            obtain ⟨a3, q3⟩ := T
            simp only at hst hiv hrn hB3 hQ3 hio ⊢
            obtain ⟨hqo, ha3, ha4, ht0, hms, hnx⟩ := hst
            have hf3 := firstQ_lt ht0
            have hf8 : firstQ q3 < 8 := by have := hqo.len; omega
            have hne := firstQ_ne hf3
            have hhd := head_lt hqo hf3
            have hsd : bSend N q3 s.out = (q3.set (firstQ q3) (qAt q3 (firstQ q3)).tail, s.out.set ((qAt q3 (firstQ q3)).headD 0) N) := by unfold bSend; rw [if_pos hf3]
            rw [hsd] at hiv hrn
            obtain ⟨i3, tl, htl⟩ : ∃ i3 tl, qAt q3 (firstQ q3) = i3 :: tl := by
              cases h : qAt q3 (firstQ q3) with
              | nil => exact absurd h hne
              | cons y ys => exact ⟨y, ys, rfl⟩
            have hbef : ∀ b, b < firstQ q3 → qAt q3 b = [] := fun b h => firstQ_before h
            have htt3 := total_set q3 (firstQ q3) tl hf3
            rw [htl] at hhd hiv hrn htt3
            simp only [List.headD_cons, List.tail_cons, List.length_cons] at hhd hiv hrn htt3
            have h3t : total q3 ≤ a3 := hqo.tot
            have hmb : 2 * (m - a3) + total (q3.set (firstQ q3) tl) < 2 * (m - s.a) + total s.qs := by omega
            generalize firstQ q3 = fq at *
            have HIV := Lib.hid hiv
            have HRN := Lib.hid hrn
            have HB3 := Lib.hid hB3
            have HB4 := Lib.hid hb3
            have HQ3 := Lib.hid hQ3
            have HBF := Lib.hid hbef
            have HTL := Lib.hid htl
            have HMB := Lib.hid hmb
            clear hio hiv hrn hB3 hb3 hbef hms hnx hqo hsd hne hf3 htl hmb hQ3
            go_wp2_with fail
            go_loopw [13] (FirstRel wc fq) (fun i _ => 8 - (intOf i).toNat)
            case atStart => exact ⟨0, Nat.zero_le _, rfl, rfl⟩
            case round =>
              obtain ⟨b, hbq, rfl, rfl⟩ := hrel
              obtain ⟨ad, cap, hv, cv, hqr, fv, hg8⟩ := HQ3.out.at_ (b := b) (by omega)
              have e1 : (b : Int) < 8 := by omega
              by_cases hlt : b < fq
              · rw [HBF.out b hlt] at cv
                simp only [List.length_nil] at cv
                clear hqr hv
                go_wp2_with fail
                go_roundw
                case rel => first | exact ⟨b + 1, by omega, by simp, rfl⟩ | ((repeat apply Exists.intro); exact ⟨⟨b + 1, by omega, by simp, rfl⟩, rfl⟩)
                case measure => simp [intOf]; omega
              · obtain rfl : b = fq := by omega
                rw [HTL.out] at hv cv hqr
                obtain ⟨g, o, rfl, hg1, hg2, hg3, cg⟩ := hqr.head
                simp only [List.length_cons] at hv cv hqr hg3
                have HHV := Lib.hid hv
                have HQR := Lib.hid hqr
                clear hv hqr
                have hlen : (sentRow m a3 s.out).length = m := sentRow_len (HI.out.ol.trans hl) (by omega)
                obtain ⟨y, cy⟩ := sentRow_cell HB3.out hlen (j := i3) (by omega)
                have fy := HB3.out.frozen i3
                have hy := HB3.out.lt
                have hB5 : Blk (wr.setCell ⟨w.heap.size, i3, none⟩ (.int .i64 N)) w.heap.size 3 ((sentRow m a3 (s.out.set i3 N)).map (Value.int .i64)) := by
                  have h := HB3.out.set_ i3 (.int .i64 N)
                  rw [← List.map_set, sentRow_send (HI.out.ol.trans hl) (by omega) hhd] at h
                  exact h
                have hQ5 := HQ3.out.grown (grown_set wr w.heap.size i3 (.int .i64 N)) (fun g e => by injection e with e; omega)
                have hb5 : Below w.heap.size w (wr.setCell ⟨w.heap.size, i3, none⟩ (.int .i64 N)) := HB4.out.setCell (Nat.le_refl _) _
                have H5 := Lib.hid (And.intro hB5 (And.intro hQ5 hb5))
                clear hB5 hQ5 hb5
                go_upto_region 19 with fail
                generalize (wr.setCell ⟨w.heap.size, i3, none⟩ (.int .i64 N)) = w5 at H5 ⊢
                clear cv cg cy fy hy fv hg8 hg1 hg2
                obtain ⟨hB5, hQ5, hb5⟩ := H5.out
                have hr5 := hQ5.row b _ HHV.out
                have cv := (hQ5.blk.cell b).trans HHV.out
                have fv := hQ5.blk.frozen b
                have hg8 := hQ5.blk.lt
                have hgo := hr5.own (g := g) rfl
                have hnl : (nq tl).length = tl.length := by simp [nq]
                rw [HTL.out, show nq (i3 :: tl) = .int .i64 (i3 : Int) :: nq tl from rfl, ← hnl] at hr5
                have hrt := hr5.tail
                rw [hnl] at hrt
                have hQ6 := hQ5.set (q' := tl) hf8 HHV.out (World.grownBy.refl w5 _) hrt (.inl rfl)
                have hB6 := hB5.far (p := ⟨w.heap.size + 1, b, none⟩) (by simp) (.slice (some ⟨g, if cap = 1 then o else o + 1, none⟩) tl.length (cap - 1))
                have hb6 := hb5.setCell (p := ⟨w.heap.size + 1, b, none⟩) (by simp) (.slice (some ⟨g, if cap = 1 then o else o + 1, none⟩) tl.length (cap - 1))
                have H6 := Lib.hid (And.intro hB6 (And.intro hQ6 hb6))
                clear H5 hB5 hQ5 hb5 hr5 hrt hQ6 hB6 hb6
                go_wp2_with fail
                go_roundw
                case rel =>
                  obtain ⟨hB6, hQ6, hb6⟩ := H6.out
                  have ee : (if cap = 1 then some (⟨g, o, none⟩ : Addr) else some ⟨g, o + 1, none⟩) = some ⟨g, if cap = 1 then o else o + 1, none⟩ := by split <;> rfl
                  rw [ee]
                  exact ⟨f - 1, ⟨N + 1, a3, q3.set b tl, s.out.set i3 N⟩, _, HIV.out, HRN.out, by rw [show ((total q3 : Nat) : Int) - 1 = ((total (q3.set b tl) : Nat) : Int) by omega], rfl, rfl, hB6, hQ6, hb6⟩
                case measure =>
                  have hmb := HMB.out
                  have e1 : (intOf (.int .i64 ((total q3 : Nat) - 1))).toNat = total (q3.set b tl) := by simp only [intOf]; omega
                  rw [e1]
                  simpa [intOf] using hmb

end Go.Proofs.Ytgdccclpibbbeaa
