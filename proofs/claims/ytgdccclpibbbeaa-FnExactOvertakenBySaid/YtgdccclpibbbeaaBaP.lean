/- The run of bands in plain words: queues of indices, one step a tick; what holds at every step; that it ends. No condition. -/
import Derived.Test.YtgdccclpibbbeaaBaE
namespace Go.Proofs.Ytgdccclpibbbeaa
open Go.RowKit

/-! ### The run of bands -/
abbrev Qs := List (List Nat)
def bandN (xs : List Int) (x : Marked) : Nat := (bandAt xs x.mark).toNat
def qAt (qs : Qs) (b : Nat) : List Nat := qs.getD b []
def total (qs : Qs) : Nat := (qs.map List.length).sum
def enq (lim : Int) (b i : Nat) (qs : Qs) : Qs := if ((qAt qs b).length : Int) < lim then qs.set b (qAt qs b ++ [i]) else qs
def intake (xs : List Int) (lim now : Int) : List Marked → Nat → Qs → Nat × Qs
  | [], a, qs => (a, qs)
  | x :: r, a, qs => if x.tick = now then intake xs lim now r (a + 1) (enq lim (bandN xs x) a qs) else (a, qs)
def firstQ (qs : Qs) : Nat := qs.findIdx fun q => !q.isEmpty
structure BSt where
  (now : Int)
  (a : Nat)
  (qs : Qs)
  (out : List Int)
def bSend (now : Int) (qs : Qs) (out : List Int) : Qs × List Int :=
  if firstQ qs < qs.length then (qs.set (firstQ qs) (qAt qs (firstQ qs)).tail, out.set ((qAt qs (firstQ qs)).headD 0) now) else (qs, out)
def tickAt (ar : List Marked) (a : Nat) : Int := match ar[a]? with
  | some x => x.tick
  | none => 0
def nowOf (ar : List Marked) (s : BSt) : Int := if total s.qs = 0 then max s.now (tickAt ar s.a) else s.now
def bStep (xs : List Int) (ar : List Marked) (lim : Int) (s : BSt) : BSt :=
  let t := intake xs lim (nowOf ar s) (ar.drop s.a) s.a s.qs
  let r := bSend (nowOf ar s) t.2 s.out
  ⟨nowOf ar s + 1, t.1, r.1, r.2⟩
def bDone (ar : List Marked) (s : BSt) : Bool := (total s.qs == 0) && decide (ar.length ≤ s.a)
def bRun (xs : List Int) (ar : List Marked) (lim : Int) : Nat → BSt → List Int
  | 0, s => s.out
  | f + 1, s => if bDone ar s then s.out else bRun xs ar lim f (bStep xs ar lim s)
def bMeas (ar : List Marked) (s : BSt) : Nat := 2 * (ar.length - s.a) + total s.qs
def bStart (ar : List Marked) : BSt := ⟨0, 0, List.replicate 8 [], List.replicate ar.length (-1)⟩
def bandsRun (xs : List Int) (ar : List Marked) (lim : Int) : List Int := bRun xs ar lim (2 * ar.length) (bStart ar)

/-- Queues: eight of them; they hold each index below a at most once. -/
structure QOk (a : Nat) (qs : Qs) : Prop where
  len : qs.length = 8
  lt : ∀ b, ∀ i ∈ qAt qs b, i < a
  tot : total qs ≤ a

theorem total_set (qs : Qs) (b : Nat) (q : List Nat) (h : b < qs.length) : total (qs.set b q) + (qAt qs b).length = total qs + q.length := by
  induction qs generalizing b with
  | nil => simp at h
  | cons x xs ih =>
    cases b with
    | zero => simp [total, qAt]; omega
    | succ b =>
      have := ih b (by simpa using h)
      simp [total, qAt] at this ⊢
      omega
theorem qAt_set (qs : Qs) (b c : Nat) (q : List Nat) (h : b < qs.length) : qAt (qs.set b q) c = if c = b then q else qAt qs c := by
  unfold qAt
  simp only [List.getD_eq_getElem?_getD, List.getElem?_set]
  by_cases hc : b = c
  · subst hc; simp [h]
  · rw [if_neg hc, if_neg (Ne.symm hc)]
theorem qAt_le_total (qs : Qs) (b : Nat) : (qAt qs b).length ≤ total qs := by
  induction qs generalizing b with
  | nil => simp [qAt]
  | cons x xs ih =>
    cases b with
    | zero => simp [total, qAt]
    | succ b => have := ih b; simp [total, qAt] at this ⊢; omega
theorem total_zero {qs : Qs} (h : total qs = 0) (b : Nat) : qAt qs b = [] := List.eq_nil_of_length_eq_zero (by have := qAt_le_total qs b; omega)
theorem firstQ_lt {qs : Qs} (h : 0 < total qs) : firstQ qs < qs.length := by
  unfold firstQ
  rw [List.findIdx_lt_length]
  apply Classical.byContradiction
  intro hno
  have h0 : total qs = 0 := by
    unfold total
    have : ∀ q ∈ qs, q.length = 0 := fun q hq => by
      cases q with
      | nil => rfl
      | cons y ys => exact absurd ⟨y :: ys, hq, rfl⟩ hno
    clear hno h
    induction qs with
    | nil => rfl
    | cons x xs ih => simp [this x (by simp), ih (fun q hq => this q (by simp [hq]))]
  omega
theorem firstQ_ne {qs : Qs} (h : firstQ qs < qs.length) : qAt qs (firstQ qs) ≠ [] := by
  have := List.findIdx_getElem (p := fun q : List Nat => !q.isEmpty) (xs := qs) (w := h)
  unfold qAt
  rw [List.getD_eq_getElem?_getD, List.getElem?_eq_getElem h]
  intro he
  simp only [Option.getD_some] at he
  unfold firstQ at he
  rw [he] at this
  simp at this
theorem firstQ_eq {qs : Qs} {b : Nat} (hb : b < qs.length) (h : qAt qs b ≠ []) (hno : ∀ c, c < b → qAt qs c = []) : firstQ qs = b := by
  unfold firstQ
  rw [List.findIdx_eq hb]
  refine ⟨?_, fun j hj => ?_⟩
  · have : qAt qs b = qs[b] := by unfold qAt; rw [List.getD_eq_getElem?_getD, List.getElem?_eq_getElem hb]; rfl
    rw [this] at h
    cases he : qs[b] with
    | nil => exact absurd he h
    | cons y ys => rfl
  · have h1 := hno j hj
    have : qAt qs j = qs[j] := by unfold qAt; rw [List.getD_eq_getElem?_getD, List.getElem?_eq_getElem (by omega)]; rfl
    rw [this] at h1
    rw [h1]; rfl
theorem firstQ_none {qs : Qs} (hno : ∀ c, c < qs.length → qAt qs c = []) : ¬ firstQ qs < qs.length := fun h => firstQ_ne h (hno _ h)

theorem qok_start : QOk 0 (List.replicate 8 []) := ⟨rfl, fun b i hi => by
  unfold qAt at hi
  rw [List.getD_eq_getElem?_getD, List.getElem?_replicate] at hi
  split at hi <;> simp at hi, by decide⟩
theorem enq_ok {lim : Int} {b a : Nat} {qs : Qs} (h : QOk a qs) (hb : b < 8) : QOk (a + 1) (enq lim b a qs) := by
  unfold enq
  split
  · refine ⟨by simp [h.len], fun c i hi => ?_, ?_⟩
    · rw [qAt_set _ _ _ _ (by rw [h.len]; exact hb)] at hi
      split at hi
      · rw [List.mem_append, List.mem_singleton] at hi
        rcases hi with hi | hi
        · have := h.lt b i hi; omega
        · omega
      · have := h.lt c i hi; omega
    · have := total_set qs b (qAt qs b ++ [a]) (by rw [h.len]; exact hb)
      have := h.tot
      simp at *
      omega
  · exact ⟨h.len, fun c i hi => by have := h.lt c i hi; omega, by have := h.tot; omega⟩
theorem enq_total {lim : Int} {b a : Nat} {qs : Qs} (h : QOk a qs) (hb : b < 8) : total qs ≤ total (enq lim b a qs) ∧ total (enq lim b a qs) ≤ total qs + 1 ∧ (0 < lim → total qs = 0 → 0 < total (enq lim b a qs)) := by
  unfold enq
  split
  · have := total_set qs b (qAt qs b ++ [a]) (by rw [h.len]; exact hb)
    simp at *
    omega
  · rename_i hno
    refine ⟨Nat.le_refl _, by omega, fun h1 h2 => ?_⟩
    rw [total_zero h2 b] at hno
    simp at hno
    omega
/-- What the intake leaves. -/
theorem intake_ok {xs : List Int} {lim now : Int} (hx : ∀ x : Marked, bandN xs x < 8) : ∀ (r : List Marked) (a : Nat) (qs : Qs), QOk a qs →
    QOk (intake xs lim now r a qs).1 (intake xs lim now r a qs).2 ∧ a ≤ (intake xs lim now r a qs).1 ∧ (intake xs lim now r a qs).1 ≤ a + r.length ∧
    total qs ≤ total (intake xs lim now r a qs).2 ∧ total (intake xs lim now r a qs).2 + a ≤ total qs + (intake xs lim now r a qs).1 ∧
    (∀ x, r[(intake xs lim now r a qs).1 - a]? = some x → x.tick ≠ now)
  | [], a, qs, h => by simpa [intake] using h
  | x :: r, a, qs, h => by
    unfold intake
    split
    · have h1 := enq_ok (lim := lim) h (hx x)
      have h2 := enq_total (lim := lim) h (hx x)
      obtain ⟨i1, i2, i3, i4, i5, i6⟩ := intake_ok hx r (a + 1) _ h1
      refine ⟨i1, by omega, by simp; omega, by omega, by omega, fun y hy => i6 y ?_⟩
      rw [show (intake xs lim now r (a + 1) (enq lim (bandN xs x) a qs)).1 - a = ((intake xs lim now r (a + 1) (enq lim (bandN xs x) a qs)).1 - (a + 1)) + 1 by omega] at hy
      simpa using hy
    · rename_i hne
      refine ⟨h, Nat.le_refl _, by simp, Nat.le_refl _, by simp, fun y hy => ?_⟩
      simp at hy
      subst hy
      exact hne
theorem intake_pos {xs : List Int} {lim now : Int} (hx : ∀ x : Marked, bandN xs x < 8) (hl : 0 < lim) {x : Marked} {r : List Marked} {a : Nat} {qs : Qs} (h : QOk a qs) (ht : x.tick = now) (h0 : total qs = 0) :
    0 < total (intake xs lim now (x :: r) a qs).2 ∧ a + 1 ≤ (intake xs lim now (x :: r) a qs).1 := by
  unfold intake
  rw [if_pos ht]
  have h1 := enq_ok (lim := lim) h (hx x)
  have h2 := (enq_total (lim := lim) h (hx x)).2.2 hl h0
  obtain ⟨i1, i2, i3, i4, i5, i6⟩ := intake_ok (lim := lim) (now := now) hx r (a + 1) _ h1
  omega
theorem bSend_ok {now : Int} {a : Nat} {qs : Qs} (h : QOk a qs) (out : List Int) : QOk a (bSend now qs out).1 ∧ (bSend now qs out).2.length = out.length ∧ total (bSend now qs out).1 ≤ total qs ∧ (0 < total qs → total (bSend now qs out).1 + 1 = total qs) := by
  unfold bSend
  split
  · rename_i hf
    have h1 := total_set qs (firstQ qs) (qAt qs (firstQ qs)).tail hf
    have h2 : 0 < (qAt qs (firstQ qs)).length := List.length_pos_iff.2 (firstQ_ne hf)
    simp at h1
    refine ⟨⟨by simp [h.len], fun c i hi => ?_, by have := h.tot; simp; omega⟩, by simp, by simp; omega, fun _ => by simp; omega⟩
    simp only at hi
    rw [qAt_set _ _ _ _ hf] at hi
    split at hi
    · exact h.lt _ i (List.mem_of_mem_tail hi)
    · exact h.lt c i hi
  · rename_i hf
    exact ⟨h, rfl, Nat.le_refl _, fun hp => absurd (firstQ_lt hp) hf⟩

/-- What holds at each step's head. -/
structure BInv (ar : List Marked) (f : Nat) (s : BSt) : Prop where
  q : QOk s.a s.qs
  an : s.a ≤ ar.length
  ol : s.out.length = ar.length
  n0 : 0 ≤ s.now
  n1 : s.now + f ≤ 100081
  fl : f ≤ 80
  nx : ∀ x, ar[s.a]? = some x → s.now ≤ x.tick
  ms : bMeas ar s ≤ f
  un : ∀ j, s.a ≤ j → j < ar.length → s.out[j]? = some (-1)
theorem bInv_start {ar : List Marked} (h : arrB ar = true) : BInv ar (2 * ar.length) (bStart ar) := by
  have h1 := arr_len h
  refine ⟨qok_start, Nat.zero_le _, by simp [bStart], by simp [bStart], by simp [bStart]; omega, by omega, fun x hx => ?_, ?_, fun j _ hj => by simp [bStart, hj]⟩
  · exact (arr_at h hx).1.1
  · have : total (List.replicate 8 []) = 0 := by decide
    show 2 * (ar.length - 0) + total (List.replicate 8 []) ≤ 2 * ar.length
    rw [this]; omega
theorem arr_sorted {ar : List Marked} (h : arrB ar = true) : ∀ (k j : Nat) (x y : Marked), j ≤ k → ar[j]? = some x → ar[k]? = some y → x.tick ≤ y.tick := by
  intro k
  induction k with
  | zero => intro j x y hj hx hy; obtain rfl : j = 0 := by omega
            rw [hx] at hy; rw [Option.some.inj hy]; omega
  | succ k ih =>
    intro j x y hj hx hy
    by_cases hjk : j = k + 1
    · subst hjk; rw [hx] at hy; rw [Option.some.inj hy]; omega
    · have hz : ar[k]? = some (ar[k]'(by have := (List.getElem?_eq_some_iff.1 hy).1; omega)) := List.getElem?_eq_getElem _
      have h1 := ih j x _ (by omega) hx hz
      simp only [arrB, Bool.and_eq_true] at h
      have h2 := (chain_at h.1 hy).2 k _ rfl hz
      omega
theorem now_bd {ar : List Marked} (h : arrB ar = true) {f : Nat} {s : BSt} (hi : BInv ar f s) (hd : bDone ar s = false) : 0 ≤ nowOf ar s ∧ nowOf ar s + f ≤ 100081 ∧ s.now ≤ nowOf ar s ∧ 1 ≤ f := by
  have hf : 1 ≤ f := by
    have := hi.ms
    unfold bDone at hd
    unfold bMeas at this
    simp at hd
    by_cases h0 : total s.qs = 0
    · have := hd h0; omega
    · omega
  have h0 := hi.n0
  have h1 := hi.n1
  have hge : s.now ≤ nowOf ar s := by unfold nowOf; split <;> omega
  refine ⟨by omega, ?_, hge, hf⟩
  have hf2 := hi.fl
  unfold nowOf tickAt
  split
  · cases hx : ar[s.a]? with
    | none => simp only; omega
    | some x => have := (arr_at h hx).1; simp only; omega
  · exact h1
/-- The head of the queue that is served. -/
theorem head_lt {a : Nat} {qs : Qs} (h : QOk a qs) (hf : firstQ qs < qs.length) : (qAt qs (firstQ qs)).headD 0 < a := by
  have h1 := firstQ_ne hf
  apply h.lt (firstQ qs)
  cases he : qAt qs (firstQ qs) with
  | nil => exact absurd he h1
  | cons y ys => simp
/-- The intake of a step at which there is something to do. -/
theorem step_in {xs : List Int} {ar : List Marked} {lim : Int} {f : Nat} {s : BSt} (h : arrB ar = true) (hx : ∀ x : Marked, bandN xs x < 8) (hl : 0 < lim) (hi : BInv ar f s) (hd : bDone ar s = false) :
    QOk (intake xs lim (nowOf ar s) (ar.drop s.a) s.a s.qs).1 (intake xs lim (nowOf ar s) (ar.drop s.a) s.a s.qs).2 ∧ s.a ≤ (intake xs lim (nowOf ar s) (ar.drop s.a) s.a s.qs).1 ∧
    (intake xs lim (nowOf ar s) (ar.drop s.a) s.a s.qs).1 ≤ ar.length ∧ 0 < total (intake xs lim (nowOf ar s) (ar.drop s.a) s.a s.qs).2 ∧
    2 * (ar.length - (intake xs lim (nowOf ar s) (ar.drop s.a) s.a s.qs).1) + total (intake xs lim (nowOf ar s) (ar.drop s.a) s.a s.qs).2 ≤ f ∧
    (∀ x, ar[(intake xs lim (nowOf ar s) (ar.drop s.a) s.a s.qs).1]? = some x → nowOf ar s + 1 ≤ x.tick) := by
  obtain ⟨i1, i2, i3, i4, i5, i6⟩ := intake_ok (lim := lim) (now := nowOf ar s) hx (ar.drop s.a) s.a s.qs hi.q
  have ms := hi.ms
  have an := hi.an
  unfold bMeas at ms
  rw [List.length_drop] at i3
  have hnx : ∀ x, ar[(intake xs lim (nowOf ar s) (ar.drop s.a) s.a s.qs).1]? = some x → nowOf ar s + 1 ≤ x.tick := by
    intro x hx2
    have h6 := i6 x (by rw [List.getElem?_drop, show s.a + ((intake xs lim (nowOf ar s) (ar.drop s.a) s.a s.qs).1 - s.a) = (intake xs lim (nowOf ar s) (ar.drop s.a) s.a s.qs).1 by omega]; exact hx2)
    have hlt := (List.getElem?_eq_some_iff.1 hx2).1
    have hy : ar[s.a]? = some (ar[s.a]'(by omega)) := List.getElem?_eq_getElem _
    have h7 := arr_sorted h _ _ _ _ i2 hy hx2
    have h8 := hi.nx _ hy
    have h9 : nowOf ar s ≤ x.tick := by
      have e : tickAt ar s.a = (ar[s.a]'(by omega)).tick := by simp [tickAt, hy]
      unfold nowOf
      rw [e]
      split <;> omega
    omega
  by_cases h0 : total s.qs = 0
  · have ha : s.a < ar.length := by
      unfold bDone at hd
      simp [h0] at hd
      omega
    have hy : ar[s.a]? = some (ar[s.a]'ha) := List.getElem?_eq_getElem _
    have hdr : ar.drop s.a = ar[s.a]'ha :: ar.drop (s.a + 1) := List.drop_eq_getElem_cons ha
    have ht : (ar[s.a]'ha).tick = nowOf ar s := by
      have := hi.nx _ hy
      unfold nowOf tickAt
      rw [hy, if_pos h0]
      simp only
      omega
    have hp := intake_pos (xs := xs) (r := ar.drop (s.a + 1)) hx hl hi.q ht h0
    rw [← hdr] at hp
    exact ⟨i1, i2, by omega, hp.1, by omega, hnx⟩
  · exact ⟨i1, i2, by omega, by omega, by omega, hnx⟩
theorem bInv_step {xs : List Int} {ar : List Marked} {lim : Int} {f : Nat} {s : BSt} (h : arrB ar = true) (hx : ∀ x : Marked, bandN xs x < 8) (hl : 0 < lim) (hi : BInv ar f s) (hd : bDone ar s = false) :
    BInv ar (f - 1) (bStep xs ar lim s) := by
  obtain ⟨i1, i2, i3, i4, i5, i6⟩ := step_in h hx hl hi hd
  obtain ⟨n0, n1, n2, n3⟩ := now_bd h hi hd
  obtain ⟨s1, s2, s3, s4⟩ := bSend_ok (now := nowOf ar s) i1 s.out
  have fl := hi.fl
  refine ⟨s1, i3, s2.trans hi.ol, by simp only [bStep]; omega, by simp only [bStep]; omega, by omega, i6, ?_, fun j hj hjn => ?_⟩
  · have := s4 i4
    simp only [bMeas, bStep]
    omega
  · have hun := hi.un j (by simp only [bStep] at hj; omega) hjn
    simp only [bStep] at hj ⊢
    unfold bSend
    split
    · rename_i hf
      have := head_lt i1 hf
      simp only
      rw [List.getElem?_set, if_neg (by omega)]
      exact hun
    · exact hun
theorem bRun_step {xs : List Int} {ar : List Marked} {lim : Int} {f : Nat} {s : BSt} (hf : 1 ≤ f) (hd : bDone ar s = false) : bRun xs ar lim f s = bRun xs ar lim (f - 1) (bStep xs ar lim s) := by
  obtain ⟨g, rfl⟩ : ∃ g, f = g + 1 := ⟨f - 1, by omega⟩
  simp [bRun, hd]
theorem bRun_done {xs : List Int} {ar : List Marked} {lim : Int} {f : Nat} {s : BSt} (hd : bDone ar s = true) : bRun xs ar lim f s = s.out := by
  cases f with
  | zero => rfl
  | succ f => simp [bRun, hd]
/-- The length of a run's outcome. -/
theorem bRun_len {xs : List Int} {ar : List Marked} {lim : Int} (h : arrB ar = true) (hx : ∀ x : Marked, bandN xs x < 8) (hl : 0 < lim) : ∀ (f : Nat) (s : BSt), BInv ar f s → (bRun xs ar lim f s).length = ar.length
  | 0, s, hi => hi.ol
  | f + 1, s, hi => by
    cases hd : bDone ar s with
    | true => rw [bRun_done hd]; exact hi.ol
    | false => rw [bRun_step (by omega) hd]; exact bRun_len h hx hl f _ (bInv_step h hx hl hi hd)
/-- Something is sent. -/
def someSent (out : List Int) : Prop := ∃ j v : Int, 0 ≤ j ∧ out[j.toNat]? = some v ∧ 0 ≤ v
theorem bSend_some {now : Int} {qs : Qs} {out : List Int} (h0 : 0 ≤ now) (h : someSent out) : someSent (bSend now qs out).2 := by
  unfold bSend
  split
  · obtain ⟨j, v, hj, hv, h1⟩ := h
    simp only
    by_cases he : (qAt qs (firstQ qs)).headD 0 = j.toNat
    · exact ⟨j, now, hj, by rw [List.getElem?_set, if_pos he, if_pos (by have := (List.getElem?_eq_some_iff.1 hv).1; omega)], h0⟩
    · exact ⟨j, v, hj, by rw [List.getElem?_set, if_neg he]; exact hv, h1⟩
  · exact h
theorem bRun_some {xs : List Int} {ar : List Marked} {lim : Int} (h : arrB ar = true) (hx : ∀ x : Marked, bandN xs x < 8) (hl : 0 < lim) : ∀ (f : Nat) (s : BSt), BInv ar f s → someSent s.out → someSent (bRun xs ar lim f s)
  | 0, s, hi, ho => ho
  | f + 1, s, hi, ho => by
    cases hd : bDone ar s with
    | true => rw [bRun_done hd]; exact ho
    | false =>
      rw [bRun_step (by omega) hd]
      exact bRun_some h hx hl f _ (bInv_step h hx hl hi hd) (bSend_some (now_bd h hi hd).1 ho)
theorem bandsRun_some {xs : List Int} {ar : List Marked} {lim : Int} (h : arrB ar = true) (hx : ∀ x : Marked, bandN xs x < 8) (hl : 0 < lim) (hn : 0 < ar.length) : someSent (bandsRun xs ar lim) := by
  have hi := bInv_start h
  have hd : bDone ar (bStart ar) = false := by
    have h0 : decide (ar.length ≤ (bStart ar).a) = false := decide_eq_false (by show ¬ ar.length ≤ 0; omega)
    unfold bDone; rw [h0, Bool.and_false]
  unfold bandsRun
  rw [bRun_step (by omega) hd]
  refine bRun_some h hx hl _ _ (bInv_step h hx hl hi hd) ?_
  obtain ⟨i1, i2, i3, i4, i5, i6⟩ := step_in h hx hl hi hd
  have n0 := (now_bd h hi hd).1
  have hf := firstQ_lt i4
  have hlt := head_lt i1 hf
  refine ⟨((qAt (intake xs lim (nowOf ar (bStart ar)) (ar.drop (bStart ar).a) (bStart ar).a (bStart ar).qs).2 (firstQ (intake xs lim (nowOf ar (bStart ar)) (ar.drop (bStart ar).a) (bStart ar).a (bStart ar).qs).2)).headD 0 : Nat), nowOf ar (bStart ar), by omega, ?_, n0⟩
  simp only [bStep, bSend]
  rw [if_pos hf]
  simp only [Int.toNat_natCast]
  rw [List.getElem?_set, if_pos rfl, if_pos (by rw [hi.ol]; omega)]
end Go.Proofs.Ytgdccclpibbbeaa
