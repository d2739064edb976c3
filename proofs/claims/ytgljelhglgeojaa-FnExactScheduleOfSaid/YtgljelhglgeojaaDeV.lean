/- ScheduleOf, MissesOf: contracts of the program's and the reference's; the laws' walks. -/
import Derived.Test.YtgljelhglgeojaaDeU
namespace Go.Proofs.Ytgljelhglgeojaa
open Go.RowKit

theorem schOk_no {ss : List Ses} {rate slots : Int} (h : schOk ss rate slots = false) : schR ss rate slots = [] ∧ misR ss rate slots = [] := by
  have : schRun ss rate slots = none := by unfold schOk at h; simpa using h
  exact ⟨by simp [schR, this], by simp [misR, schL, this, trueAt]⟩
theorem go_no {ss : List Ses} {rate slots : Int} (h : schGo ss rate slots = false) : schOk ss rate slots = false := by simp [schOk, sch_bad h]
theorem trueAt_take {L : List Bool} {k : Nat} {b : Bool} (h : L[k]? = some b) : trueAt 0 (L.take (k + 1)) = trueAt 0 (L.take k) ++ (if b then [(k : Int)] else []) := by
  have hl := (List.getElem?_eq_some_iff.1 h).1
  rw [take_snoc h, trueAt_snoc, List.length_take, Nat.min_eq_left (by omega)]
  simp
def RetI (t : TypeId) (w : World) (R : List Int) (ok : Bool) (e : Ending) (w' : World) : Prop :=
  ∃ A c, e = .returned (.tuple #[.slice A R.length c, .bool ok]) ∧ w'.ownsRow w.heap.size t 1 (.slice A R.length c) R.length (R.map (Value.int .i64)) ∧ Below w.heap.size w w'

set_option maxHeartbeats 1000000 in
theorem hfAsked_any (rate slots : Int) (A : Option Addr) (n c : Nat) (xs : List SesV) (w : World) (hn : n ≤ 1048576) (hr : Rd w 7 A n (xs.flatMap encSes)) (hz : ∀ x ∈ xs, SZ w x) :
    Calls Try.prog 73 #[.slice A n c, .int .i64 rate, .int .i64 slots] w fun e w' => e = .returned (.bool (schGo (sesOf xs) rate slots)) ∧ Below w.heap.size w w' := by
  unfold schGo
  rw [← listB_eq]
  cases h1 : listB xs with
  | false =>
    go_enter Try.func73, Try.ntmps73
    go_wp2_with (first | (go_at_call 45; refine (hfList_any A n c xs w hn hr hz).mono ?_; rintro e w1 ⟨rfl, hb1⟩) | (go_at_call 46; refine (l1In_any _ _ _ _).mono ?_; rintro e w' ⟨rfl, rfl⟩))
    go_ret
    exact ⟨ret_bool (by simp), hb1⟩
  | true =>
    cases h2 : inB rate 1 100000 with
    | false =>
      go_enter Try.func73, Try.ntmps73
      go_wp2_with (first | (go_at_call 45; refine (hfList_any A n c xs w hn hr hz).mono ?_; rintro e w1 ⟨rfl, hb1⟩) | (go_at_call 46; refine (l1In_any _ _ _ _).mono ?_; rintro e w' ⟨rfl, rfl⟩))
      go_ret
      exact ⟨ret_bool (by simp), hb1⟩
    | true =>
      go_enter Try.func73, Try.ntmps73
      go_wp2_with (first | (go_at_call 45; refine (hfList_any A n c xs w hn hr hz).mono ?_; rintro e w1 ⟨rfl, hb1⟩) | (go_at_call 46; refine (l1In_any _ _ _ _).mono ?_; rintro e w' ⟨rfl, rfl⟩))
      go_ret
      exact ⟨ret_bool (by simp), hb1⟩

set_option maxHeartbeats 2000000 in
theorem implScheduleOf_any (rate slots : Int) (A : Option Addr) (n c : Nat) (xs : List SesV) (w : World) (hn : n ≤ 1048576) (hr : Rd w 7 A n (xs.flatMap encSes)) (hz : ∀ x ∈ xs, SZ w x) :
    Calls Try.prog 38 #[.slice A n c, .int .i64 rate, .int .i64 slots] w (fun e w' => ∃ A' c', e = .returned (.tuple #[.slice A' (schR (sesOf xs) rate slots).length c', .bool (schOk (sesOf xs) rate slots)]) ∧ w'.ownsRow w.heap.size 3 1 (.slice A' (schR (sesOf xs) rate slots).length c') (schR (sesOf xs) rate slots).length ((schR (sesOf xs) rate slots).map (Value.int .i64)) ∧ Below w.heap.size w w') := by
  have hc := implSchedule_any rate slots A n c xs w hn hr hz
  generalize schR (sesOf xs) rate slots = r at *
  generalize misR (sesOf xs) rate slots = ms at *
  generalize schOk (sesOf xs) rate slots = ok at *
  go_enter Try.func38, Try.ntmps38
  go_wp2_with fail
  refine hc.mono ?_; rintro e w1 ⟨A1, c1, B1, d1, rfl, o1, o2, hb1⟩
  go_wp2_with fail
  go_ret2
  exact ⟨_, _, rfl, o1, hb1⟩

set_option maxHeartbeats 2000000 in
theorem implMissesOf_any (rate slots : Int) (A : Option Addr) (n c : Nat) (xs : List SesV) (w : World) (hn : n ≤ 1048576) (hr : Rd w 7 A n (xs.flatMap encSes)) (hz : ∀ x ∈ xs, SZ w x) :
    Calls Try.prog 44 #[.slice A n c, .int .i64 rate, .int .i64 slots] w (fun e w' => ∃ A' c', e = .returned (.tuple #[.slice A' (misR (sesOf xs) rate slots).length c', .bool (schOk (sesOf xs) rate slots)]) ∧ w'.ownsRow w.heap.size 3 1 (.slice A' (misR (sesOf xs) rate slots).length c') (misR (sesOf xs) rate slots).length ((misR (sesOf xs) rate slots).map (Value.int .i64)) ∧ Below w.heap.size w w') := by
  have hc := implSchedule_any rate slots A n c xs w hn hr hz
  generalize schR (sesOf xs) rate slots = r at *
  generalize misR (sesOf xs) rate slots = ms at *
  generalize schOk (sesOf xs) rate slots = ok at *
  go_enter Try.func44, Try.ntmps44
  go_wp2_with fail
  refine hc.mono ?_; rintro e w1 ⟨A1, c1, B1, d1, rfl, o1, o2, hb1⟩
  go_wp2_with fail
  go_ret2
  exact ⟨_, _, rfl, o2, hb1⟩

set_option maxHeartbeats 2000000 in
theorem specScheduleOf_any (rate slots : Int) (A : Option Addr) (n c : Nat) (xs : List SesV) (w : World) (hn : n ≤ 1048576) (hr : Rd w 7 A n (xs.flatMap encSes)) (hz : ∀ x ∈ xs, SZ w x) :
    Calls Try.prog 37 #[.slice A n c, .int .i64 rate, .int .i64 slots] w (fun e w' => ∃ A' c', e = .returned (.tuple #[.slice A' (schR (sesOf xs) rate slots).length c', .bool (schOk (sesOf xs) rate slots)]) ∧ w'.ownsRow w.heap.size 3 1 (.slice A' (schR (sesOf xs) rate slots).length c') (schR (sesOf xs) rate slots).length ((schR (sesOf xs) rate slots).map (Value.int .i64)) ∧ Below w.heap.size w w') := by
  cases hg : schGo (sesOf xs) rate slots with
  | false =>
    have h2 := go_no hg
    rw [h2, (schOk_no h2).1]
    clear h2
    go_enter Try.func37, Try.ntmps37
    go_wp2_with (go_at_call 73; refine (hfAsked_any rate slots A n c xs w hn hr hz).mono ?_; rintro e w1 ⟨rfl, hb1⟩)
    go_ret2
    exact ⟨none, 0, rfl, World.ownsRow_nil _ _ _ _, hb1⟩
  | true =>
    have hc := fun w hr hz => hfRun_any rate slots A n c xs w hn hr hz hg
    generalize schR (sesOf xs) rate slots = r at *
    generalize schL (sesOf xs) rate slots = ls at *
    generalize schOk (sesOf xs) rate slots = ok at *
    go_enter Try.func37, Try.ntmps37
    go_wp2_with (go_at_call 73; refine (hfAsked_any rate slots A n c xs w hn hr hz).mono ?_; rintro e w1 ⟨rfl, hb1⟩)
    refine (hc _ (hr.below hb1) (fun x hx => (hz x hx).below hb1)).mono ?_; rintro e w2 ⟨A1, c1, B1, d1, rfl, o1, o2, hb2⟩
    go_wp2_with fail
    go_ret2
    exact ⟨_, _, rfl, own_base o1 hb1.size, ext_trans hb1 hb2⟩

def MsRel (w : World) (L : List Bool) (vB : Value) (v i : Value) (wr : World) : Prop :=
  ∃ k : Nat, k ≤ L.length ∧ i = .int .i64 k ∧ OwnL w 3 v (trueAt 0 (L.take k)) wr ∧ wr.ownsRow w.heap.size 4 1 vB L.length (L.map Value.bool)
set_option maxRecDepth 100000 in
set_option maxHeartbeats 4000000 in
theorem specMissesOf_any (rate slots : Int) (A : Option Addr) (n c : Nat) (xs : List SesV) (w : World) (hn : n ≤ 1048576) (hr : Rd w 7 A n (xs.flatMap encSes)) (hz : ∀ x ∈ xs, SZ w x) :
    Calls Try.prog 43 #[.slice A n c, .int .i64 rate, .int .i64 slots] w (fun e w' => ∃ A' c', e = .returned (.tuple #[.slice A' (misR (sesOf xs) rate slots).length c', .bool (schOk (sesOf xs) rate slots)]) ∧ w'.ownsRow w.heap.size 3 1 (.slice A' (misR (sesOf xs) rate slots).length c') (misR (sesOf xs) rate slots).length ((misR (sesOf xs) rate slots).map (Value.int .i64)) ∧ Below w.heap.size w w') := by
  obtain ⟨i0, hi, hz0, hz1, hz2⟩ := info_parts infoInt
  cases hg : schGo (sesOf xs) rate slots with
  | false =>
    have h2 := go_no hg
    rw [h2, (schOk_no h2).2]
    clear h2
    go_enter Try.func43, Try.ntmps43
    go_wp2_with (go_at_call 73; refine (hfAsked_any rate slots A n c xs w hn hr hz).mono ?_; rintro e w1 ⟨rfl, hb1⟩)
    go_ret2
    exact ⟨none, 0, rfl, World.ownsRow_nil _ _ _ _, hb1⟩
  | true =>
    have hc := fun w hr hz => hfRun_any rate slots A n c xs w hn hr hz hg
    cases hok : schOk (sesOf xs) rate slots with
    | false =>
      rw [hok] at hc
      rw [(schOk_no hok).2]
      generalize schR (sesOf xs) rate slots = r at *
      generalize schL (sesOf xs) rate slots = ls at *
      go_enter Try.func43, Try.ntmps43
      go_wp2_with (go_at_call 73; refine (hfAsked_any rate slots A n c xs w hn hr hz).mono ?_; rintro e w1 ⟨rfl, hb1⟩)
      refine (hc _ (hr.below hb1) (fun x hx => (hz x hx).below hb1)).mono ?_; rintro e w2 ⟨A1, c1, B1, d1, rfl, o1, o2, hb2⟩
      go_wp2_with fail
      go_ret2
      exact ⟨none, 0, rfl, World.ownsRow_nil _ _ _ _, ext_trans hb1 hb2⟩
    | true =>
      rw [hok] at hc
      have hll := schL_len (sesOf xs) rate slots
      have hms : misR (sesOf xs) rate slots = trueAt 0 (schL (sesOf xs) rate slots) := rfl
      rw [hms]
      clear hms
      generalize schR (sesOf xs) rate slots = r at *
      generalize schL (sesOf xs) rate slots = L at *
      go_enter Try.func43, Try.ntmps43
      go_wp2_with (go_at_call 73; refine (hfAsked_any rate slots A n c xs w hn hr hz).mono ?_; rintro e w1 ⟨rfl, hb1⟩)
      refine (hc _ (hr.below hb1) (fun x hx => (hz x hx).below hb1)).mono ?_; rintro e w2 ⟨A1, c1, B1, d1, rfl, o1, o2, hb2⟩
      have o2' := own_base o2 hb1.size
      have z2 := ext_trans hb1 hb2
      clear o1 o2 hc
      go_wp2_with fail
      go_loopw [11, 31] (MsRel w L (.slice B1 L.length d1)) (fun _ i _ => L.length - (intOf i).toNat)
      case atStart => exact ⟨0, Nat.zero_le _, rfl, ownL_nil z2, o2'⟩
      case round =>
        obtain ⟨k, hk, rfl, hO, oL⟩ := hrel
        have HLN := Lib.hid (show (trueAt 0 (L.take k)).length ≤ 60 by have h1 := trueAt_len 0 (L.take k); rw [List.length_take] at h1; omega)
        by_cases hlt : k < L.length
        · obtain ⟨bv, hbv⟩ : ∃ bv, L[k]? = some bv := ⟨L[k], List.getElem?_eq_getElem hlt⟩
          have hrd := Rd.of_own oL
          obtain ⟨b, o, rfl, hbl, hcell⟩ := hrd.2 (by omega)
          have c0 := hcell k (.bool bv) (by rw [List.getElem?_map, hbv]; rfl)
          have HT := Lib.hid (trueAt_take hbv)
          clear hcell hrd hbv
          cases bv with
          | true =>
            go_wp2_with (at_builtin; refine wpList_append_own _ rfl (.tmp 37) (.tmp 39) 32 rfl w.heap.size 3 i0 (.int .i64 0) 1 8 Try.underlying32 hi hz0 hz1 hz2 rfl (by decide) _ _ _ rfl (hO.1.alloc _) ⟨wr.heap.size, 0, none⟩ 1 1 [.int .i64 (k : Int)] rfl rfl ?p1 ?p2 ?p3 ?p4 ?p5 ?_)
            case p2 => simp [Value.oneCell']
            case p3 => have := HLN.out; unfold maxLen; omega
            case p4 => have := HLN.out; omega
            case p5 => have := hO.2.size; simp; omega
            intro v' w3 hown1 hg1 _
            have hO3 := ownL_push hO hown1 hg1
            have oL3 := (oL.alloc (.cells #[.int .i64 (k : Int)] 3)).kept hg1 (own_apart (oL.alloc (.cells #[.int .i64 (k : Int)] 3)) (hO.1.alloc (.cells #[.int .i64 (k : Int)] 3)) (by decide))
            have HO3 := Lib.hid hO3
            have HL3 := Lib.hid oL3
            clear hO3 hown1 hg1 oL3
            go_wp2_with fail
            go_roundw
            case rel =>
              have hr2 : MsRel w L (.slice (some ⟨b, o, none⟩) L.length d1) v' (.int .i64 ((k : Int) + 1)) w3 := ⟨k + 1, by omega, by simp, by rw [HT.out]; exact HO3.out, HL3.out⟩
              first | exact hr2 | ((repeat apply Exists.intro); exact ⟨hr2, rfl⟩)
            case measure => simp [intOf]; omega
          | false =>
            go_wp2_with fail
            go_roundw
            case rel =>
              have hr2 : MsRel w L (.slice (some ⟨b, o, none⟩) L.length d1) _ (.int .i64 ((k : Int) + 1)) wr := ⟨k + 1, by omega, by simp, by rw [HT.out]; simpa using hO, oL⟩
              first | exact hr2 | ((repeat apply Exists.intro); exact ⟨hr2, rfl⟩)
            case measure => simp [intOf]; omega
        · go_wp2_with fail
          go_ret2
          have e0 : L.take k = L := List.take_of_length_le (by omega)
          rw [e0] at hO
          obtain ⟨A3, c3, rfl⟩ := own_shape hO.1
          exact ⟨A3, c3, rfl, hO.1, hO.2⟩

set_option maxRecDepth 100000 in
set_option maxHeartbeats 4000000 in
theorem walkScheduleOf (A : Option Addr) (n c : Nat) (xs : List SesV) (hn : n ≤ 9223372036854775807) (rate : Int) (slots : Int) (w : World) (hr : Rd w 7 A n (xs.flatMap encSes)) (hz : ∀ x ∈ xs, SRd w x) :
    Calls Try.prog 11 #[.slice A n c, .int .i64 rate, .int .i64 slots] w fun e w' => e = .returned (.bool true) ∧ Below w.heap.size w w' := by
  have hl : xs.length = n := by have h1 := hr.1; rw [flat_len encSes 7 encSes_len] at h1; omega
  have HL := Lib.hid hl
  clear hl
  have hzm : ∀ x ∈ xs, x.m ≤ 9223372036854775807 := fun x hx => (hz x hx).1
  by_cases hv : szV 1048576 (n + sumM xs) < 0
  · go_enter Try.func11, Try.ntmps11
    go_wp2_with fail
    refine (szSessionS_any A n c xs _ _ hn (by omega) (by omega) hr hzm).mono ?_; rintro e w1 ⟨rfl, hb1⟩
    go_wp2_with fail
    go_ret
    exact ⟨rfl, hb1⟩
  have hsum := szV_pos hv
  have hm : n ≤ 1048576 := by omega
  have hz2 : ∀ W, Below w.heap.size w W → ∀ x ∈ xs, x.m ≤ 1048576 ∧ Rd W 1 x.A x.m (x.zs.map (Value.int .i64)) := fun W h x hx => ⟨by obtain ⟨j, hj⟩ := List.getElem?_of_mem hx; have := sumM_mem hj; omega, (hz x hx).2.below h⟩
  have HSM := Lib.hid (sumM_same (xs := xs) (fun x hx => (hz x hx).2.len1))
  have HSU := Lib.hid hsum
  clear hsum
  have hR : (schR (sesOf xs) rate slots).length ≤ 1048576 := schR_len (sesOf xs) rate slots
  obtain ⟨r, hRr⟩ : ∃ r, schR (sesOf xs) rate slots = r := ⟨_, rfl⟩
  obtain ⟨okv, hok⟩ : ∃ v, schOk (sesOf xs) rate slots = v := ⟨_, rfl⟩
  rw [hRr] at hR
  have HRR := Lib.hid hRr
  have HOKV := Lib.hid hok
  clear hRr hok
  go_enter Try.func11, Try.ntmps11
  go_wp2_with fail
  refine (szSessionS_any A n c xs _ _ hn (by omega) (by omega) hr hzm).mono ?_; rintro e w1 ⟨rfl, hb1⟩
  have z1 := hb1
  go_wp2_with fail
  refine (toSessionS_any A n c xs _ hm (hr.below z1) (hz2 _ z1)).mono ?_; rintro e w2 ⟨ys1, rfl, hy1, hw1, hB1, hb2⟩
  have z2 := ext_trans z1 hb2
  have hl1 : (ys1.flatMap encSes).length = n * 7 := by rw [flat_len encSes 7 encSes_len, ← List.length_map (f := SesV.toSes), hy1, List.length_map, HL.out]
  have hc3 := specScheduleOf_any rate slots (some ⟨w1.heap.size, 0, none⟩) n n ys1 w2 hm (Rd.of_blk hB1 hl1) (fun y hy => (hw1 y hy).sz)
  rw [show sesOf ys1 = sesOf xs from hy1] at hc3
  rw [HRR.out, HOKV.out] at hc3
  go_wp2_with fail
  refine hc3.mono ?_; rintro e w3 ⟨Aw, cw, rfl, oww, hb3⟩
  have z3 := ext_trans z2 hb3
  clear hc3
  clear hw1 hB1 hy1 hl1
  go_wp2_with fail
  refine (toSessionS_any A n c xs _ hm (hr.below z3) (hz2 _ z3)).mono ?_; rintro e w4 ⟨ys2, rfl, hy2, hw2, hB2, hb4⟩
  have z4 := ext_trans z3 hb4
  have hl2 : (ys2.flatMap encSes).length = n * 7 := by rw [flat_len encSes 7 encSes_len, ← List.length_map (f := SesV.toSes), hy2, List.length_map, HL.out]
  have hc5 := implScheduleOf_any rate slots (some ⟨w3.heap.size, 0, none⟩) n n ys2 w4 hm (Rd.of_blk hB2 hl2) (fun y hy => (hw2 y hy).sz)
  rw [show sesOf ys2 = sesOf xs from hy2] at hc5
  rw [HRR.out, HOKV.out] at hc5
  go_wp2_with fail
  refine hc5.mono ?_; rintro e w5 ⟨Ag, cg, rfl, owg, hb5⟩
  have z5 := ext_trans z4 hb5
  clear hc5
  have hBx := hB2.below hb5
  have hwx := fun (y : SesV) (hy : y ∈ ys2) => (hw2 y hy).below hb5
  go_wp2_with fail
  have hIx := fun (y : SesV) (hy : y ∈ ys2) => (sesW_intB (hw2 y hy)).below hb5
  have oww5 := own_ext (own_ext oww hb4) hb5
  refine (eqIntS_same Ag Aw r.length cg cw r _ hR (Rd.of_own owg) (Rd.of_own oww5)).mono ?_; rintro e w6 ⟨rfl, hb6⟩
  have z6 := ext_trans z5 hb6
  have oww6 := own_ext oww5 hb6
  have owg6 := own_ext owg hb6
  have hBx6 := hBx.below hb6
  have hwx6 := fun (y : SesV) (hy : y ∈ ys2) => (hwx y hy).below hb6
  have hIx6 := fun (y : SesV) (hy : y ∈ ys2) => (hIx y hy).below hb6
  go_wp2_with fail
  refine (toSessionS_any A n c xs _ hm (hr.below z6) (hz2 _ z6)).mono ?_; rintro e w7 ⟨ys3, rfl, hy3, hw3, hB3, hb7⟩
  have z7 := ext_trans z6 hb7
  have hl3 : (ys3.flatMap encSes).length = n * 7 := by rw [flat_len encSes 7 encSes_len, ← List.length_map (f := SesV.toSes), hy3, List.length_map, HL.out]
  go_wp2_with fail
  refine (eqSessionS_same _ _ n n n ys2 ys3 _ hm (hy2.trans hy3.symm) (Rd.of_blk (hBx6.below hb7) hl2) (Rd.of_blk hB3 hl3) (fun y hy => ((hwx6 y hy).below hb7).sz) (fun y hy => (hw3 y hy).sz)).mono ?_; rintro e w8 ⟨rfl, hb8⟩
  have z8 := ext_trans z7 hb8
  have oww8 := own_ext (own_ext oww6 hb7) hb8
  have owg8 := own_ext (own_ext owg6 hb7) hb8
  have hBx8 := (hBx6.below hb7).below hb8
  have hIx8 := fun (y : SesV) (hy : y ∈ ys2) => ((hIx6 y hy).below hb7).below hb8
  have hys : ys2.length = n := by rw [← List.length_map (f := SesV.toSes), hy2, List.length_map, HL.out]
  have hsm2 : n + sumM ys2 ≤ 1048576 := by have h1 := sumM_same (xs := ys2) (fun y hy => (hw2 y hy).1); have h2 := HSM.out; have h3 := HSU.out; rw [hy2, ← h2] at h1; omega
  have hs24 : w3.heap.size < w4.heap.size := hB2.lt
  clear hw3 hB3 hy3 hl3
  go_wp2_with fail
  refine (markSessionS_any w3.heap.size n n w4.heap.size ys2 1 _ hsm2 (by omega) (by omega) hys hs24 hBx8 hIx8).mono ?_; rintro e w9 ⟨⟨kk, rfl, hkk⟩, hoff⟩
  have z9 := z8.trans (hoff.1.mono z3.size)
  have oww9 := hoff.own oww8 (fun k hk => .inl (oww.lt k hk).2)
  have owg9 := hoff.own owg8 (fun k hk => .inr (owg.lt k hk).1)
  have hap := (apart_before oww.lt (fun k hk => ⟨by have := (owg.lt k hk).1; omega, (owg.lt k hk).2⟩)).1
  clear hBx8 hIx8 hsm2 hys hwx6 hIx6 hBx6 hIx hwx hBx hB2 hw2
  have hkd : decide (kk < 0) = false := by simp; omega
  go_wp2_with fail
  all_goals first | exact (show False by omega).elim | skip
  refine (eqIntS_same Ag Aw r.length cg cw r _ hR (Rd.of_own owg9) (Rd.of_own oww9)).mono ?_; rintro e w10 ⟨rfl, hb10⟩
  have z10 := ext_trans z9 hb10
  have oww10 := own_ext oww9 hb10
  have owg10 := own_ext owg9 hb10
  go_wp2_with fail
  refine (markIntS_own Ag r.length cg w4.heap.size _ 1 _ hR (by omega) (by omega) owg10).mono ?_; rintro e w11 ⟨rfl, og11, hg11⟩
  have z11 := below_marked z10 owg10 z4.size hg11
  have oww11 := oww10.kept hg11 hap
  go_wp2_with fail
  refine (heldIntS_any Ag r.length cg 1 _ hR (by omega) (by omega) (Rd.of_own og11)).mono ?_; rintro e w11 ⟨rfl, rfl⟩
  go_wp2_with fail
  refine (toSessionS_any A n c xs _ hm (hr.below z11) (hz2 _ z11)).mono ?_; rintro e w12 ⟨ys4, rfl, hy4, hw4, hB4, hb12⟩
  have z12 := ext_trans z11 hb12
  have hl4 : (ys4.flatMap encSes).length = n * 7 := by rw [flat_len encSes 7 encSes_len, ← List.length_map (f := SesV.toSes), hy4, List.length_map, HL.out]
  have hc13 := implScheduleOf_any rate slots (some ⟨w11.heap.size, 0, none⟩) n n ys4 w12 hm (Rd.of_blk hB4 hl4) (fun y hy => (hw4 y hy).sz)
  rw [show sesOf ys4 = sesOf xs from hy4] at hc13
  rw [HRR.out, HOKV.out] at hc13
  go_wp2_with fail
  refine hc13.mono ?_; rintro e w13 ⟨Ah, ch, rfl, owh, hb13⟩
  have z13 := ext_trans z12 hb13
  clear hc13
  have oww13 := own_ext (own_ext oww11 hb12) hb13
  have og13 := own_ext (own_ext og11 hb12) hb13
  go_wp2_with fail
  refine (eqIntS_same Ah Aw r.length ch cw r _ hR (Rd.of_own owh) (Rd.of_own oww13)).mono ?_; rintro e w14 ⟨rfl, hb14⟩
  have og14 := own_ext og13 hb14
  go_wp2_with fail
  refine (heldIntS_any Ag r.length cg 1 _ hR (by omega) (by omega) (Rd.of_own og14)).mono ?_; rintro e w14 ⟨rfl, rfl⟩
  go_wp2_with fail
  go_ret
  exact ⟨rfl, ext_trans z13 hb14⟩

set_option maxRecDepth 100000 in
set_option maxHeartbeats 4000000 in
theorem walkMissesOf (A : Option Addr) (n c : Nat) (xs : List SesV) (hn : n ≤ 9223372036854775807) (rate : Int) (slots : Int) (w : World) (hr : Rd w 7 A n (xs.flatMap encSes)) (hz : ∀ x ∈ xs, SRd w x) :
    Calls Try.prog 12 #[.slice A n c, .int .i64 rate, .int .i64 slots] w fun e w' => e = .returned (.bool true) ∧ Below w.heap.size w w' := by
  have hl : xs.length = n := by have h1 := hr.1; rw [flat_len encSes 7 encSes_len] at h1; omega
  have HL := Lib.hid hl
  clear hl
  have hzm : ∀ x ∈ xs, x.m ≤ 9223372036854775807 := fun x hx => (hz x hx).1
  by_cases hv : szV 1048576 (n + sumM xs) < 0
  · go_enter Try.func12, Try.ntmps12
    go_wp2_with fail
    refine (szSessionS_any A n c xs _ _ hn (by omega) (by omega) hr hzm).mono ?_; rintro e w1 ⟨rfl, hb1⟩
    go_wp2_with fail
    go_ret
    exact ⟨rfl, hb1⟩
  have hsum := szV_pos hv
  have hm : n ≤ 1048576 := by omega
  have hz2 : ∀ W, Below w.heap.size w W → ∀ x ∈ xs, x.m ≤ 1048576 ∧ Rd W 1 x.A x.m (x.zs.map (Value.int .i64)) := fun W h x hx => ⟨by obtain ⟨j, hj⟩ := List.getElem?_of_mem hx; have := sumM_mem hj; omega, (hz x hx).2.below h⟩
  have HSM := Lib.hid (sumM_same (xs := xs) (fun x hx => (hz x hx).2.len1))
  have HSU := Lib.hid hsum
  clear hsum
  have hR : (misR (sesOf xs) rate slots).length ≤ 1048576 := misR_len (sesOf xs) rate slots
  obtain ⟨r, hRr⟩ : ∃ r, misR (sesOf xs) rate slots = r := ⟨_, rfl⟩
  obtain ⟨okv, hok⟩ : ∃ v, schOk (sesOf xs) rate slots = v := ⟨_, rfl⟩
  rw [hRr] at hR
  have HRR := Lib.hid hRr
  have HOKV := Lib.hid hok
  clear hRr hok
  go_enter Try.func12, Try.ntmps12
  go_wp2_with fail
  refine (szSessionS_any A n c xs _ _ hn (by omega) (by omega) hr hzm).mono ?_; rintro e w1 ⟨rfl, hb1⟩
  have z1 := hb1
  go_wp2_with fail
  refine (toSessionS_any A n c xs _ hm (hr.below z1) (hz2 _ z1)).mono ?_; rintro e w2 ⟨ys1, rfl, hy1, hw1, hB1, hb2⟩
  have z2 := ext_trans z1 hb2
  have hl1 : (ys1.flatMap encSes).length = n * 7 := by rw [flat_len encSes 7 encSes_len, ← List.length_map (f := SesV.toSes), hy1, List.length_map, HL.out]
  have hc3 := specMissesOf_any rate slots (some ⟨w1.heap.size, 0, none⟩) n n ys1 w2 hm (Rd.of_blk hB1 hl1) (fun y hy => (hw1 y hy).sz)
  rw [show sesOf ys1 = sesOf xs from hy1] at hc3
  rw [HRR.out, HOKV.out] at hc3
  go_wp2_with fail
  refine hc3.mono ?_; rintro e w3 ⟨Aw, cw, rfl, oww, hb3⟩
  have z3 := ext_trans z2 hb3
  clear hc3
  clear hw1 hB1 hy1 hl1
  go_wp2_with fail
  refine (toSessionS_any A n c xs _ hm (hr.below z3) (hz2 _ z3)).mono ?_; rintro e w4 ⟨ys2, rfl, hy2, hw2, hB2, hb4⟩
  have z4 := ext_trans z3 hb4
  have hl2 : (ys2.flatMap encSes).length = n * 7 := by rw [flat_len encSes 7 encSes_len, ← List.length_map (f := SesV.toSes), hy2, List.length_map, HL.out]
  have hc5 := implMissesOf_any rate slots (some ⟨w3.heap.size, 0, none⟩) n n ys2 w4 hm (Rd.of_blk hB2 hl2) (fun y hy => (hw2 y hy).sz)
  rw [show sesOf ys2 = sesOf xs from hy2] at hc5
  rw [HRR.out, HOKV.out] at hc5
  go_wp2_with fail
  refine hc5.mono ?_; rintro e w5 ⟨Ag, cg, rfl, owg, hb5⟩
  have z5 := ext_trans z4 hb5
  clear hc5
  have hBx := hB2.below hb5
  have hwx := fun (y : SesV) (hy : y ∈ ys2) => (hw2 y hy).below hb5
  go_wp2_with fail
  have hIx := fun (y : SesV) (hy : y ∈ ys2) => (sesW_intB (hw2 y hy)).below hb5
  have oww5 := own_ext (own_ext oww hb4) hb5
  refine (eqIntS_same Ag Aw r.length cg cw r _ hR (Rd.of_own owg) (Rd.of_own oww5)).mono ?_; rintro e w6 ⟨rfl, hb6⟩
  have z6 := ext_trans z5 hb6
  have oww6 := own_ext oww5 hb6
  have owg6 := own_ext owg hb6
  have hBx6 := hBx.below hb6
  have hwx6 := fun (y : SesV) (hy : y ∈ ys2) => (hwx y hy).below hb6
  have hIx6 := fun (y : SesV) (hy : y ∈ ys2) => (hIx y hy).below hb6
  go_wp2_with fail
  refine (toSessionS_any A n c xs _ hm (hr.below z6) (hz2 _ z6)).mono ?_; rintro e w7 ⟨ys3, rfl, hy3, hw3, hB3, hb7⟩
  have z7 := ext_trans z6 hb7
  have hl3 : (ys3.flatMap encSes).length = n * 7 := by rw [flat_len encSes 7 encSes_len, ← List.length_map (f := SesV.toSes), hy3, List.length_map, HL.out]
  go_wp2_with fail
  refine (eqSessionS_same _ _ n n n ys2 ys3 _ hm (hy2.trans hy3.symm) (Rd.of_blk (hBx6.below hb7) hl2) (Rd.of_blk hB3 hl3) (fun y hy => ((hwx6 y hy).below hb7).sz) (fun y hy => (hw3 y hy).sz)).mono ?_; rintro e w8 ⟨rfl, hb8⟩
  have z8 := ext_trans z7 hb8
  have oww8 := own_ext (own_ext oww6 hb7) hb8
  have owg8 := own_ext (own_ext owg6 hb7) hb8
  have hBx8 := (hBx6.below hb7).below hb8
  have hIx8 := fun (y : SesV) (hy : y ∈ ys2) => ((hIx6 y hy).below hb7).below hb8
  have hys : ys2.length = n := by rw [← List.length_map (f := SesV.toSes), hy2, List.length_map, HL.out]
  have hsm2 : n + sumM ys2 ≤ 1048576 := by have h1 := sumM_same (xs := ys2) (fun y hy => (hw2 y hy).1); have h2 := HSM.out; have h3 := HSU.out; rw [hy2, ← h2] at h1; omega
  have hs24 : w3.heap.size < w4.heap.size := hB2.lt
  clear hw3 hB3 hy3 hl3
  go_wp2_with fail
  refine (markSessionS_any w3.heap.size n n w4.heap.size ys2 1 _ hsm2 (by omega) (by omega) hys hs24 hBx8 hIx8).mono ?_; rintro e w9 ⟨⟨kk, rfl, hkk⟩, hoff⟩
  have z9 := z8.trans (hoff.1.mono z3.size)
  have oww9 := hoff.own oww8 (fun k hk => .inl (oww.lt k hk).2)
  have owg9 := hoff.own owg8 (fun k hk => .inr (owg.lt k hk).1)
  have hap := (apart_before oww.lt (fun k hk => ⟨by have := (owg.lt k hk).1; omega, (owg.lt k hk).2⟩)).1
  clear hBx8 hIx8 hsm2 hys hwx6 hIx6 hBx6 hIx hwx hBx hB2 hw2
  have hkd : decide (kk < 0) = false := by simp; omega
  go_wp2_with fail
  all_goals first | exact (show False by omega).elim | skip
  refine (eqIntS_same Ag Aw r.length cg cw r _ hR (Rd.of_own owg9) (Rd.of_own oww9)).mono ?_; rintro e w10 ⟨rfl, hb10⟩
  have z10 := ext_trans z9 hb10
  have oww10 := own_ext oww9 hb10
  have owg10 := own_ext owg9 hb10
  go_wp2_with fail
  refine (markIntS_own Ag r.length cg w4.heap.size _ 1 _ hR (by omega) (by omega) owg10).mono ?_; rintro e w11 ⟨rfl, og11, hg11⟩
  have z11 := below_marked z10 owg10 z4.size hg11
  have oww11 := oww10.kept hg11 hap
  go_wp2_with fail
  refine (heldIntS_any Ag r.length cg 1 _ hR (by omega) (by omega) (Rd.of_own og11)).mono ?_; rintro e w11 ⟨rfl, rfl⟩
  go_wp2_with fail
  refine (toSessionS_any A n c xs _ hm (hr.below z11) (hz2 _ z11)).mono ?_; rintro e w12 ⟨ys4, rfl, hy4, hw4, hB4, hb12⟩
  have z12 := ext_trans z11 hb12
  have hl4 : (ys4.flatMap encSes).length = n * 7 := by rw [flat_len encSes 7 encSes_len, ← List.length_map (f := SesV.toSes), hy4, List.length_map, HL.out]
  have hc13 := implMissesOf_any rate slots (some ⟨w11.heap.size, 0, none⟩) n n ys4 w12 hm (Rd.of_blk hB4 hl4) (fun y hy => (hw4 y hy).sz)
  rw [show sesOf ys4 = sesOf xs from hy4] at hc13
  rw [HRR.out, HOKV.out] at hc13
  go_wp2_with fail
  refine hc13.mono ?_; rintro e w13 ⟨Ah, ch, rfl, owh, hb13⟩
  have z13 := ext_trans z12 hb13
  clear hc13
  have oww13 := own_ext (own_ext oww11 hb12) hb13
  have og13 := own_ext (own_ext og11 hb12) hb13
  go_wp2_with fail
  refine (eqIntS_same Ah Aw r.length ch cw r _ hR (Rd.of_own owh) (Rd.of_own oww13)).mono ?_; rintro e w14 ⟨rfl, hb14⟩
  have og14 := own_ext og13 hb14
  go_wp2_with fail
  refine (heldIntS_any Ag r.length cg 1 _ hR (by omega) (by omega) (Rd.of_own og14)).mono ?_; rintro e w14 ⟨rfl, rfl⟩
  go_wp2_with fail
  go_ret
  exact ⟨rfl, ext_trans z13 hb14⟩

end Go.Proofs.Ytgljelhglgeojaa