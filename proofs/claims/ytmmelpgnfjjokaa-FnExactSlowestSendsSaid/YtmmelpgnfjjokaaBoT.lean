/- Traces: contracts of isTrace, bnTrace, burstOf, bnLeast. -/
import Derived.Test.YtmmelpgnfjjokaaBoE
import Derived.Deep.RegionHeld3
namespace Go.Proofs.Ytmmelpgnfjjokaa
open Go.RowKit


/-! ### Rows whose elements are good and whose keys do not fall -/
def stepB {α : Type} (ok : α → Bool) (key : α → Int) (xs : List α) (k : Nat) : Bool :=
  match xs[k]? with
  | none => true
  | some x => ok x && (match k with
    | 0 => true
    | j + 1 => match xs[j]? with
      | none => true
      | some y => decide (key y ≤ key x))
def chainB {α : Type} (ok : α → Bool) (key : α → Int) (xs : List α) : Bool := (List.range xs.length).all (stepB ok key xs)
theorem chain_false {α : Type} {ok : α → Bool} {key : α → Int} {xs : List α} {k : Nat} (hk : k < xs.length) (h : stepB ok key xs k = false) : chainB ok key xs = false := by
  unfold chainB
  rw [List.all_eq_false]
  exact ⟨k, List.mem_range.2 hk, by simp [h]⟩
theorem chain_true {α : Type} {ok : α → Bool} {key : α → Int} {xs : List α} (h : ∀ k, k < xs.length → stepB ok key xs k = true) : chainB ok key xs = true := by
  unfold chainB
  rw [List.all_eq_true]
  exact fun k hk => h k (List.mem_range.1 hk)
theorem chain_at {α : Type} {ok : α → Bool} {key : α → Int} {xs : List α} (h : chainB ok key xs = true) {k : Nat} {x : α} (hx : xs[k]? = some x) : ok x = true ∧ ∀ j y, k = j + 1 → xs[j]? = some y → key y ≤ key x := by
  unfold chainB at h
  have hk : k < xs.length := (List.getElem?_eq_some_iff.1 hx).1
  have h1 := List.all_eq_true.1 h k (List.mem_range.2 hk)
  unfold stepB at h1
  rw [hx] at h1
  simp only [Bool.and_eq_true] at h1
  refine ⟨h1.1, fun j y hj hy => ?_⟩
  subst hj
  have h2 := h1.2
  simp only [hy, decide_eq_true_eq] at h2
  exact h2
theorem step_bad {α : Type} {ok : α → Bool} {key : α → Int} {xs : List α} {k : Nat} {x : α} (hx : xs[k]? = some x) (h : ok x = false) : stepB ok key xs k = false := by simp [stepB, hx, h]
theorem step_zero {α : Type} {ok : α → Bool} {key : α → Int} {xs : List α} {x : α} (hx : xs[0]? = some x) (h : ok x = true) : stepB ok key xs 0 = true := by simp [stepB, hx, h]
theorem step_succ {α : Type} {ok : α → Bool} {key : α → Int} {xs : List α} {j : Nat} {x y : α} (hx : xs[j + 1]? = some x) (hy : xs[j]? = some y) (h : ok x = true) : stepB ok key xs (j + 1) = decide (key y ≤ key x) := by simp [stepB, hx, hy, h]

def ChainRel {α : Type} (w : World) (n : Nat) (ok : α → Bool) (key : α → Int) (xs : List α) (i : Value) (wr : World) : Prop :=
  ∃ k : Nat, k ≤ n ∧ i = .int .i64 k ∧ (∀ j, j < k → stepB ok key xs j = true) ∧ Below w.heap.size w wr
theorem chainRel_zero {α : Type} {w wr : World} {n k : Nat} {ok : α → Bool} {key : α → Int} {xs : List α} {x : α} (hk : k = 0) (hx : xs[k]? = some x) (h : ok x = true) (hlt : k < n) (hb : Below w.heap.size w wr) : ChainRel w n ok key xs (.int .i64 ((k : Int) + 1)) wr := by
  subst hk
  refine ⟨1, by omega, by simp, fun j hj => ?_, hb⟩
  obtain rfl : j = 0 := by omega
  exact step_zero hx h
theorem chainRel_succ {α : Type} {w wr : World} {n k j : Nat} {ok : α → Bool} {key : α → Int} {xs : List α} {x y : α} (hk : k = j + 1) (hx : xs[k]? = some x) (hy : xs[j]? = some y) (h : ok x = true) (hle : key y ≤ key x)
    (hch : ∀ j, j < k → stepB ok key xs j = true) (hlt : k < n) (hb : Below w.heap.size w wr) : ChainRel w n ok key xs (.int .i64 ((k : Int) + 1)) wr := by
  refine ⟨k + 1, by omega, by simp, fun i hi => ?_, hb⟩
  by_cases hik : i = k
  · subst hik
    subst hk
    rw [step_succ hx hy h]
    simpa using hle
  · exact hch i (by omega)
theorem step_down {α : Type} {ok : α → Bool} {key : α → Int} {xs : List α} {k j : Nat} {x y : α} (hk : k = j + 1) (hx : xs[k]? = some x) (hy : xs[j]? = some y) (hle : key x < key y) : stepB ok key xs k = false := by
  subst hk
  simp [stepB, hx, hy]
  intro _; omega

def arrOk (x : Arrived) : Bool := inB x.time 0 100000 && inB x.size 1 1500
def traceB (xs : List Arrived) : Bool := chainB arrOk Arrived.time xs && decide (xs.length ≤ 40)
theorem arrOk_bad1 {x : Arrived} (h : decide (x.time < 0) = true) : arrOk x = false := by have := of_decide_eq_true h; simp [arrOk, inB]; omega
theorem arrOk_bad2 {x : Arrived} (h : decide (100000 < x.time) = true) : arrOk x = false := by have := of_decide_eq_true h; simp [arrOk, inB]; omega
theorem arrOk_bad3 {x : Arrived} (h : inB x.size 1 1500 = false) : arrOk x = false := by simp [arrOk, h]
theorem arrOk_mk {x : Arrived} (h1 : decide (x.time < 0) = false) (h2 : decide (100000 < x.time) = false) (h3 : inB x.size 1 1500 = true) : arrOk x = true := by
  have := of_decide_eq_false h1; have := of_decide_eq_false h2; have := inB_iff.1 h3; simp [arrOk, inB]; omega
theorem trace_at {xs : List Arrived} (h : traceB xs = true) {k : Nat} {x : Arrived} (hx : xs[k]? = some x) : (0 ≤ x.time ∧ x.time ≤ 100000) ∧ (1 ≤ x.size ∧ x.size ≤ 1500) := by
  simp only [traceB, Bool.and_eq_true] at h
  have h1 := (chain_at h.1 hx).1
  simpa only [arrOk, Bool.and_eq_true, inB_iff] using h1
theorem trace_len {xs : List Arrived} (h : traceB xs = true) : xs.length ≤ 40 := by simp only [traceB, Bool.and_eq_true, decide_eq_true_eq] at h; exact h.2
/-- The time before index k. -/
def lastOf (xs : List Arrived) : Nat → Int
  | 0 => 0
  | j + 1 => match xs[j]? with
    | none => 0
    | some y => y.time
theorem lastOf_succ {xs : List Arrived} {k : Nat} {x : Arrived} (hx : xs[k]? = some x) : lastOf xs (k + 1) = x.time := by simp [lastOf, hx]
theorem step_last {xs : List Arrived} {k : Nat} {x : Arrived} (hx : xs[k]? = some x) (h0 : 0 ≤ lastOf xs k) : stepB arrOk Arrived.time xs k = (inB x.time (lastOf xs k) 100000 && inB x.size 1 1500) := by
  cases k with
  | zero => simp [stepB, hx, arrOk, lastOf]
  | succ j =>
    have hj : j < xs.length := by have := (List.getElem?_eq_some_iff.1 hx).1; omega
    have hy : xs[j]? = some xs[j] := List.getElem?_eq_getElem hj
    generalize xs[j] = y at hy
    have e : lastOf xs (j + 1) = y.time := lastOf_succ hy
    rw [e] at h0 ⊢
    simp only [stepB, hx, hy, arrOk, inB]
    rw [Bool.eq_iff_iff]
    simp only [Bool.and_eq_true, decide_eq_true_eq]
    omega
def TrRel (w : World) (n : Nat) (xs : List Arrived) (last i : Value) (wr : World) : Prop :=
  ∃ k : Nat, k ≤ n ∧ i = .int .i64 k ∧ last = .int .i64 (lastOf xs k) ∧ 0 ≤ lastOf xs k ∧ (∀ j, j < k → stepB arrOk Arrived.time xs j = true) ∧ Below w.heap.size w wr
theorem trRel_step {w wr : World} {n k : Nat} {xs : List Arrived} {x : Arrived} (hx : xs[k]? = some x) (h0 : 0 ≤ lastOf xs k) (h1 : inB x.time (lastOf xs k) 100000 = true) (h2 : inB x.size 1 1500 = true)
    (hch : ∀ j, j < k → stepB arrOk Arrived.time xs j = true) (hlt : k < n) (hb : Below w.heap.size w wr) : TrRel w n xs (.int .i64 x.time) (.int .i64 ((k : Int) + 1)) wr := by
  refine ⟨k + 1, by omega, by simp, by rw [lastOf_succ hx], by rw [lastOf_succ hx]; have := inB_iff.1 h1; omega, fun j hj => ?_, hb⟩
  by_cases hjk : j = k
  · subst hjk; rw [step_last hx h0, h1, h2]; rfl
  · exact hch j (by omega)
theorem tr_bad {xs : List Arrived} {k : Nat} {x : Arrived} (hx : xs[k]? = some x) (h0 : 0 ≤ lastOf xs k) (h : (inB x.time (lastOf xs k) 100000 && inB x.size 1 1500) = false) : traceB xs = false := by
  rw [traceB, chain_false (List.getElem?_eq_some_iff.1 hx).1 (by rw [step_last hx h0]; exact h)]; rfl

/-! ### The least burst -/
def innerF (rate t0 : Int) (acc : Int × Int) (y : Arrived) : Int × Int := (max acc.1 (acc.2 + y.size - rate * (y.time - t0)), acc.2 + y.size)
def innerR (rate t0 most : Int) (ys : List Arrived) : Int × Int := ys.foldl (innerF rate t0) (most, 0)
def outerF (rate : Int) (xs : List Arrived) (most : Int) (i : Nat) : Int := match xs[i]? with
  | none => most
  | some x => (innerR rate x.time most (xs.drop i)).1
def leastTo (rate : Int) (xs : List Arrived) (k : Nat) : Int := (List.range k).foldl (outerF rate xs) 0
def leastR (rate : Int) (xs : List Arrived) : Int := leastTo rate xs xs.length
theorem innerR_snoc (rate t0 most : Int) (ys : List Arrived) (y : Arrived) : innerR rate t0 most (ys ++ [y]) = innerF rate t0 (innerR rate t0 most ys) y := by simp [innerR]
theorem leastTo_succ {rate : Int} {xs : List Arrived} {k : Nat} {x : Arrived} (hx : xs[k]? = some x) : leastTo rate xs (k + 1) = (innerR rate x.time (leastTo rate xs k) (xs.drop k)).1 := by
  simp [leastTo, List.range_succ, outerF, hx]
theorem mul_bd3 (r d : Int) (hr : 0 ≤ r ∧ r ≤ 100000) (hd : -100000 ≤ d ∧ d ≤ 100000) : -10000000000 ≤ r * d ∧ r * d ≤ 10000000000 := by
  have a1 : r * d ≤ r * 100000 := Int.mul_le_mul_of_nonneg_left hd.2 hr.1
  have a2 : r * -100000 ≤ r * d := Int.mul_le_mul_of_nonneg_left hd.1 hr.1
  omega
theorem innerR_bd {rate t0 most : Int} (hr : 0 ≤ rate ∧ rate ≤ 100000) (ht : 0 ≤ t0 ∧ t0 ≤ 100000) (hm : 0 ≤ most ∧ most ≤ 20000000000) (ys : List Arrived) (hl : ys.length ≤ 40) (h : ∀ y ∈ ys, (0 ≤ y.time ∧ y.time ≤ 100000) ∧ (1 ≤ y.size ∧ y.size ≤ 1500)) :
    (0 ≤ (innerR rate t0 most ys).1 ∧ (innerR rate t0 most ys).1 ≤ 20000000000) ∧ (0 ≤ (innerR rate t0 most ys).2 ∧ (innerR rate t0 most ys).2 ≤ ys.length * 1500) := by
  have key : ∀ (ys : List Arrived) (m s B : Int), (∀ y ∈ ys, (0 ≤ y.time ∧ y.time ≤ 100000) ∧ (1 ≤ y.size ∧ y.size ≤ 1500)) → 0 ≤ m → m ≤ 20000000000 → 0 ≤ s → s ≤ B → B + ys.length * 1500 ≤ 60000 →
      (0 ≤ (ys.foldl (innerF rate t0) (m, s)).1 ∧ (ys.foldl (innerF rate t0) (m, s)).1 ≤ 20000000000) ∧ (0 ≤ (ys.foldl (innerF rate t0) (m, s)).2 ∧ (ys.foldl (innerF rate t0) (m, s)).2 ≤ B + ys.length * 1500) := by
    intro ys
    induction ys with
    | nil => intro m s B _ h0 h1 h2 h3 h4; simp at h4 ⊢; omega
    | cons y ys ih =>
      intro m s B hy h0 h1 h2 h3 h4
      have hy0 := hy y (by simp)
      have p := mul_bd3 rate (y.time - t0) hr (by omega)
      simp only [List.length_cons, Int.natCast_add, Int.add_mul] at h4 ⊢
      have h5 := ih (max m (s + y.size - rate * (y.time - t0))) (s + y.size) (B + 1500) (fun z hz => hy z (by simp [hz])) (by omega) (by omega) (by omega) (by omega) (by omega)
      have e : innerF rate t0 (m, s) y = (max m (s + y.size - rate * (y.time - t0)), s + y.size) := rfl
      rw [List.foldl_cons, e]
      omega
  have := key ys most 0 0 h hm.1 hm.2 (by omega) (by omega) (by omega)
  simpa [innerR] using this

theorem mem_at {α : Type} {xs : List α} {Q : α → Prop} (h : ∀ (k : Nat) (x : α), xs[k]? = some x → Q x) : ∀ x ∈ xs, Q x := fun x hx => by
  obtain ⟨i, hi⟩ := List.getElem?_of_mem hx
  exact h i x hi
theorem leastTo_bd {rate : Int} {xs : List Arrived} (hr : 0 ≤ rate ∧ rate ≤ 100000) (h : traceB xs = true) : ∀ k, k ≤ xs.length → 0 ≤ leastTo rate xs k ∧ leastTo rate xs k ≤ 20000000000
  | 0, _ => by simp [leastTo]
  | k + 1, hk => by
    have hx : xs[k]? = some xs[k] := List.getElem?_eq_getElem (by omega)
    generalize xs[k] = x at hx
    rw [leastTo_succ hx]
    have hl := trace_len h
    exact (innerR_bd hr (trace_at h hx).1 (leastTo_bd hr h k (by omega)) (xs.drop k) (by simp; omega) (mem_at fun j y hy => by rw [List.getElem?_drop] at hy; exact trace_at h hy)).1

set_option maxHeartbeats 400000 in
theorem isSize_any (n : Int) (w : World) :
    Calls Try.prog 79 #[.int .i64 n] w fun e w' => e = .returned (.bool (inB n 1 1500)) ∧ w = w' := by
  go_enter Try.func79, Try.ntmps79
  go_wp2
  all_goals (go_ret; simp [inB, *] <;> omega)

set_option maxHeartbeats 2000000 in
theorem isTrace_any (A : Option Addr) (n c : Nat) (xs : List Arrived) (w : World) (hn : n ≤ 1048576) (hr : Rd w 2 A n (xs.flatMap encArrived)) :
    Calls Try.prog 75 #[.slice A n c] w fun e w' => e = .returned (.bool (traceB xs)) ∧ Below w.heap.size w w' := by
  have hl : xs.length = n := by have h1 := hr.1; rw [flat_len encArrived 2 encArrived_len] at h1; omega
  have HL := Lib.hid hl
  clear hl
  go_enter Try.func75, Try.ntmps75
  go_wp2_with fail
  go_loopw [7] (ChainRel w n arrOk Arrived.time xs) (fun i _ => n - (intOf i).toNat)
  case atStart => exact ⟨0, Nat.zero_le _, rfl, fun j hj => by omega, ext_refl w⟩
  case round =>
    obtain ⟨k, hk, rfl, hch, hb⟩ := hrel
    have HC := Lib.hid hch
    clear hch
    by_cases hlt : k < n
    · obtain ⟨b, o, rfl, hbl, hcell⟩ := hr.2 (by omega)
      have hblr : b < wr.heap.size := Nat.lt_of_lt_of_le hbl hb.size
      have hlx : k < xs.length := by rw [HL.out]; exact hlt
      have hx : xs[k]? = some xs[k] := List.getElem?_eq_getElem hlx
      generalize xs[k] = x at hx
      have c0 : wr.cell? ⟨b, o + (k * 2 + 0), none⟩ = some (.int .i64 x.time) := (hb.cell (p := ⟨b, o + (k * 2 + 0), none⟩) hbl).trans (hcell _ _ ((flat_get encArrived 2 encArrived_len xs k 0 x hx (by omega)).trans rfl))
      have c1 : wr.cell? ⟨b, o + (k * 2 + 1), none⟩ = some (.int .i64 x.size) := (hb.cell (p := ⟨b, o + (k * 2 + 1), none⟩) hbl).trans (hcell _ _ ((flat_get encArrived 2 encArrived_len xs k 1 x hx (by omega)).trans rfl))
      simp only [Nat.add_zero, ← Nat.add_assoc] at c0 c1
      have HX := Lib.hid hx
      have HCELL := Lib.hid hcell
      clear hx hcell
      cases h1 : decide (x.time < 0) with
      | true =>
        go_wp2_with fail
        go_quiet ((first | (go_at_call 79; exact quiet_left (isSize_any _ _))))
        go_wp2_with fail
        go_ret
        exact ⟨ret_bool (by rw [traceB, chain_false hlx (step_bad HX.out (arrOk_bad1 h1))]; rfl), ext_drewN (ext_alloc hb _) _⟩
      | false =>
        cases h2 : decide (100000 < x.time) with
        | true =>
          go_wp2_with fail
          go_quiet ((first | (go_at_call 79; exact quiet_left (isSize_any _ _))))
          go_wp2_with fail
          go_ret
          exact ⟨ret_bool (by rw [traceB, chain_false hlx (step_bad HX.out (arrOk_bad2 h2))]; rfl), ext_drewN (ext_alloc hb _) _⟩
        | false =>
          cases h3 : inB x.size 1 1500 with
          | false =>
            go_wp2_with fail
            go_quiet ((first | (go_at_call 79; exact quiet_left (isSize_any _ _))))
            go_wp2_with fail
            go_ret
            exact ⟨ret_bool (by rw [traceB, chain_false hlx (step_bad HX.out (arrOk_bad3 h3))]; rfl), ext_drewN (ext_alloc hb _) _⟩
          | true =>
            have hok : arrOk x = true := arrOk_mk h1 h2 h3
            have HOK := Lib.hid hok
            clear hok
            by_cases hk0 : k = 0
            · have g0 : decide (0 < k) = false := by simp; omega
              have HK := Lib.hid hk0
              clear hk0
              go_wp2_with fail
              go_quiet ((first | (go_at_call 79; exact quiet_left (isSize_any _ _))))
              go_wp2_with fail
              go_roundw
              case rel => exact chainRel_zero HK.out HX.out HOK.out hlt (ext_drewN (ext_alloc hb _) _)
              case measure => simp [intOf]; omega
            · have hpos : 0 < k := by omega
              have g0 : decide (0 < k) = true := by simp; omega
              have hkj : k = (k - 1) + 1 := by omega
              have hlx' : k - 1 < xs.length := by omega
              have hy : xs[k - 1]? = some xs[k - 1] := List.getElem?_eq_getElem hlx'
              generalize xs[k - 1] = y at hy
              have d0 : wr.cell? ⟨b, o + ((k - 1) * 2 + 0), none⟩ = some (.int .i64 y.time) := (hb.cell (p := ⟨b, o + ((k - 1) * 2 + 0), none⟩) hbl).trans (HCELL.out _ _ ((flat_get encArrived 2 encArrived_len xs (k - 1) 0 y hy (by omega)).trans rfl))
              simp only [Nat.add_zero] at d0
              have HY := Lib.hid hy
              have HKJ := Lib.hid hkj
              clear hy hkj hk0 hlx'
              have i0 : (0 : Int) ≤ (k : Int) - 1 := by omega
              have i1 : (1 : Int) ≤ (k : Int) := by omega
              have i2 : ((k : Int) - 1).toNat = k - 1 := by omega
              have i3 : (k : Int) - 1 < (n : Int) := by omega
              cases g1 : decide (x.time < y.time) with
              | false =>
                have hle : y.time ≤ x.time := by have := of_decide_eq_false g1; omega
                have hwk := wrap_in ((k : Int) - 1) (by omega) (by omega)
                go_wp2_with fail
                go_quiet ((first | (go_at_call 79; exact quiet_left (isSize_any _ _))))
                clear hwk i0 i1 i2 i3
                go_wp2_with fail
                go_roundw
                case rel => exact chainRel_succ HKJ.out HX.out HY.out HOK.out hle HC.out hlt (ext_drewN (ext_alloc hb _) _)
                case measure => simp [intOf]; omega
              | true =>
                have hgt : x.time < y.time := by have := of_decide_eq_true g1; omega
                have HG := Lib.hid hgt
                have hwk := wrap_in ((k : Int) - 1) (by omega) (by omega)
                go_wp2_with fail
                go_quiet ((first | (go_at_call 79; exact quiet_left (isSize_any _ _))))
                clear hwk i0 i1 i2 i3
                go_wp2_with fail
                go_ret
                exact ⟨ret_bool (by rw [traceB, chain_false hlx (step_down (key := Arrived.time) HKJ.out HX.out HY.out HG.out)]; rfl), ext_drewN (ext_alloc hb _) _⟩
    · go_wp2_with fail
      go_ret
      exact ⟨ret_bool (by rw [traceB, chain_true (fun j hj => HC.out j (by rw [HL.out] at hj; omega)), HL.out, Bool.true_and, Bool.eq_iff_iff]; simp; omega), hb⟩

set_option maxHeartbeats 2000000 in
theorem bnTrace_any (A : Option Addr) (n c : Nat) (xs : List Arrived) (w : World) (hn : n ≤ 1048576) (hr : Rd w 2 A n (xs.flatMap encArrived)) :
    Calls Try.prog 72 #[.slice A n c] w fun e w' => e = .returned (.bool (traceB xs)) ∧ Below w.heap.size w w' := by
  have hl : xs.length = n := by have h1 := hr.1; rw [flat_len encArrived 2 encArrived_len] at h1; omega
  have HL := Lib.hid hl
  clear hl
  go_enter Try.func72, Try.ntmps72
  go_wp2_with fail
  go_loopw [3, 8] (TrRel w n xs) (fun _ i _ => n - (intOf i).toNat)
  case atStart => exact ⟨0, Nat.zero_le _, rfl, rfl, by simp [lastOf], fun j hj => by omega, ext_refl w⟩
  case round =>
    obtain ⟨k, hk, rfl, rfl, h0, hch, hb⟩ := hrel
    have HC := Lib.hid hch
    clear hch
    by_cases hlt : k < n
    · obtain ⟨b, o, rfl, hbl, hcell⟩ := hr.2 (by omega)
      have hblr : b < wr.heap.size := Nat.lt_of_lt_of_le hbl hb.size
      have hlx : k < xs.length := by rw [HL.out]; exact hlt
      have hx : xs[k]? = some xs[k] := List.getElem?_eq_getElem hlx
      generalize xs[k] = x at hx
      have c0 : wr.cell? ⟨b, o + (k * 2 + 0), none⟩ = some (.int .i64 x.time) := (hb.cell (p := ⟨b, o + (k * 2 + 0), none⟩) hbl).trans (hcell _ _ ((flat_get encArrived 2 encArrived_len xs k 0 x hx (by omega)).trans rfl))
      have c1 : wr.cell? ⟨b, o + (k * 2 + 1), none⟩ = some (.int .i64 x.size) := (hb.cell (p := ⟨b, o + (k * 2 + 1), none⟩) hbl).trans (hcell _ _ ((flat_get encArrived 2 encArrived_len xs k 1 x hx (by omega)).trans rfl))
      simp only [Nat.add_zero, ← Nat.add_assoc] at c0 c1
      have HX := Lib.hid hx
      clear hx hcell
      have HS := Lib.hid (fun h1 h2 (wz : World) (hbz : Below w.heap.size w wz) => trRel_step (w := w) (wr := wz) HX.out h0 h1 h2 HC.out hlt hbz)
      have HT := Lib.hid (tr_bad HX.out h0)
      generalize lastOf xs k = la at *
      cases h1 : inB x.time la 100000 with
      | false =>
        go_wp2_with (go_at_call 66; refine (l1In_any _ _ _ _).mono ?_; rintro e w' ⟨rfl, rfl⟩)
        go_ret
        exact ⟨ret_bool (by rw [HT.out (by rw [h1]; rfl)]), ext_alloc hb _⟩
      | true =>
        cases h2 : inB x.size 1 1500 with
        | false =>
          go_wp2_with (go_at_call 66; refine (l1In_any _ _ _ _).mono ?_; rintro e w' ⟨rfl, rfl⟩)
          go_ret
          exact ⟨ret_bool (by rw [HT.out (by rw [h1, h2]; rfl)]), ext_alloc hb _⟩
        | true =>
          go_wp2_with (go_at_call 66; refine (l1In_any _ _ _ _).mono ?_; rintro e w' ⟨rfl, rfl⟩)
          go_roundw
          case rel => exact HS.out h1 h2 _ (ext_alloc hb _)
          case measure => simp [intOf]; omega
    · go_wp2_with fail
      go_ret
      exact ⟨ret_bool (by rw [traceB, chain_true (fun j hj => HC.out j (by rw [HL.out] at hj; omega)), HL.out, Bool.true_and, Bool.eq_iff_iff]; simp; omega), hb⟩

theorem max_if (a b : Int) : (if a < b then b else a) = max a b := by split <;> omega
def LbOut (w : World) (n : Nat) (rate : Int) (xs : List Arrived) (most i : Value) (wr : World) : Prop := ∃ k : Nat, k ≤ n ∧ i = .int .i64 k ∧ most = .int .i64 (leastTo rate xs k) ∧ Below w.heap.size w wr
def LbIn (w : World) (G : World → Prop) (rate t0 m0 : Int) (ys : List Arrived) (most sum i : Value) (wr : World) : Prop :=
  ∃ j : Nat, j ≤ ys.length ∧ i = .int .i64 j ∧ most = .int .i64 (innerR rate t0 m0 (ys.take j)).1 ∧ sum = .int .i64 (innerR rate t0 m0 (ys.take j)).2 ∧ G wr ∧ Below w.heap.size w wr
theorem lbIn_step {w wr : World} {G : World → Prop} {rate t0 m0 a b : Int} {ys : List Arrived} {j : Nat} {y : Arrived} (hy : ys[j]? = some y) (hj : j < ys.length) (ha : (innerR rate t0 m0 (ys.take j)).1 = a) (hb : (innerR rate t0 m0 (ys.take j)).2 = b) (hB : G wr) (hz : Below w.heap.size w wr) :
    LbIn w G rate t0 m0 ys (.int .i64 (max a (b + y.size - rate * (y.time - t0)))) (.int .i64 (b + y.size)) (.int .i64 ((j : Int) + 1)) wr := by
  refine ⟨j + 1, by omega, by simp, ?_, ?_, hB, hz⟩
  · rw [take_snoc hy, innerR_snoc]; unfold innerF; rw [ha, hb]
  · rw [take_snoc hy, innerR_snoc]; unfold innerF; rw [hb]

set_option maxHeartbeats 4000000 in
theorem bnLeast_any (rate : Int) (A : Option Addr) (n : Nat) (xs : List Arrived) (w : World) (hrt : 0 ≤ rate ∧ rate ≤ 100000) (htr : traceB xs = true) (hr : Rd w 2 A n (xs.flatMap encArrived)) :
    Calls Try.prog 73 #[.int .i64 rate, .slice A n n] w fun e w' => e = .returned (.int .i64 (leastR rate xs)) ∧ Below w.heap.size w w' := by
  have hl : xs.length = n := by have h1 := hr.1; rw [flat_len encArrived 2 encArrived_len] at h1; omega
  have hn : n ≤ 40 := by have := trace_len htr; omega
  have HL := Lib.hid hl
  have HTR := Lib.hid htr
  clear hl htr
  go_enter Try.func73, Try.ntmps73
  go_wp2_with fail
  go_loopw [5, 13] (LbOut w n rate xs) (fun _ i _ => n - (intOf i).toNat)
  case atStart => exact ⟨0, Nat.zero_le _, rfl, rfl, ext_refl w⟩
  case round =>
    obtain ⟨k, hk, rfl, rfl, hb⟩ := hrel
    have hm0 := leastTo_bd hrt HTR.out k (by rw [HL.out]; exact hk)
    by_cases hlt : k < n
    · obtain ⟨wo, rfl⟩ : ∃ wo : World, wo = wr := ⟨_, rfl⟩
      obtain ⟨b, o, rfl, hblb, hcellb⟩ := hr.2 (by omega)
      have hblrbx : b < wo.heap.size := Nat.lt_of_lt_of_le hblb hb.size
      have hlxx : k < xs.length := by rw [HL.out]; omega
      have hxx : xs[k]? = some xs[k] := List.getElem?_eq_getElem hlxx
      generalize xs[k] = x at hxx
      have c0 : wo.cell? ⟨b, o + (k * 2 + 0), none⟩ = some (.int .i64 x.time) := (hb.cell (p := ⟨b, o + (k * 2 + 0), none⟩) hblb).trans (hcellb _ _ ((flat_get encArrived 2 encArrived_len xs k 0 x hxx (by omega)).trans rfl))
      have c1 : wo.cell? ⟨b, o + (k * 2 + 1), none⟩ = some (.int .i64 x.size) := (hb.cell (p := ⟨b, o + (k * 2 + 1), none⟩) hblb).trans (hcellb _ _ ((flat_get encArrived 2 encArrived_len xs k 1 x hxx (by omega)).trans rfl))
      simp only [Nat.add_zero, ← Nat.add_assoc] at c0 c1
      have HX := Lib.hid hxx
      clear hxx hlxx
      have hxb := trace_at HTR.out HX.out
      have hsu := leastTo_succ (rate := rate) HX.out
      have HSU := Lib.hid hsu
      clear hsu
      have hyl : (xs.drop k).length = n - k := by rw [List.length_drop, HL.out]
      have HYL := Lib.hid hyl
      clear hyl
      have HCELL := Lib.hid hcellb
      clear hcellb
      generalize hmm : leastTo rate xs k = m0 at *
      have HMM := Lib.hid hmm
      clear hmm
      have k1 : (k : Int) < (n : Int) := by omega
      have B7 := Blk.new wo 90 [.int .i64 x.time, .int .i64 x.size]
      go_wp2_with fail
      go_loopw [5, 8, 22] (LbIn w (fun wz => Blk wz wo.heap.size 90 [.int .i64 x.time, .int .i64 x.size]) rate x.time m0 (xs.drop k)) (fun _ _ i _ => n - (intOf i).toNat)
      case atStart => exact ⟨0, Nat.zero_le _, rfl, rfl, rfl, B7, ext_alloc hb _⟩
      case round =>
        obtain ⟨j, hj, rfl, rfl, rfl, B8, hb2⟩ := hrel
        rw [HYL.out] at hj
        have hbd := innerR_bd hrt hxb.1 hm0 ((xs.drop k).take j) (by rw [List.length_take, HYL.out]; omega) (mem_at fun i y hy => by
          rw [List.getElem?_take] at hy
          split at hy
          · rw [List.getElem?_drop] at hy; exact trace_at HTR.out hy
          · cases hy)
        have hl2 : ((xs.drop k).take j).length ≤ 40 := by rw [List.length_take]; omega
        generalize ha : (innerR rate x.time m0 ((xs.drop k).take j)).1 = ma at *
        generalize hs : (innerR rate x.time m0 ((xs.drop k).take j)).2 = sa at *
        have HA := Lib.hid ha
        have HS := Lib.hid hs
        clear ha hs
        have sb1 : sa ≤ 60000 := by omega
        obtain ⟨y8, x8, d8, f8⟩ := B8.two
        by_cases hlj : j < n - k
        · have hbr2 : b < wr.heap.size := Nat.lt_of_lt_of_le hblb hb2.size
          have hlx2 : k + j < xs.length := by rw [HL.out]; omega
          have hy : xs[k + j]? = some xs[k + j] := List.getElem?_eq_getElem hlx2
          generalize xs[k + j] = y at hy
          have hyd : (xs.drop k)[j]? = some y := by rw [List.getElem?_drop]; exact hy
          have hyb := trace_at HTR.out hy
          have e0 : wr.cell? ⟨b, o + ((k + j) * 2 + 0), none⟩ = some (.int .i64 y.time) := (hb2.cell (p := ⟨b, o + ((k + j) * 2 + 0), none⟩) hblb).trans (HCELL.out _ _ ((flat_get encArrived 2 encArrived_len xs (k + j) 0 y hy (by omega)).trans rfl))
          have e1 : wr.cell? ⟨b, o + ((k + j) * 2 + 1), none⟩ = some (.int .i64 y.size) := (hb2.cell (p := ⟨b, o + ((k + j) * 2 + 1), none⟩) hblb).trans (HCELL.out _ _ ((flat_get encArrived 2 encArrived_len xs (k + j) 1 y hy (by omega)).trans rfl))
          rw [show o + ((k + j) * 2 + 0) = o + k * 2 + j * 2 by omega] at e0
          rw [show o + ((k + j) * 2 + 1) = o + k * 2 + j * 2 + 1 by omega] at e1
          have g0 : wr.cell? ⟨b, o + (k * 2 + 0), none⟩ = some (.int .i64 x.time) := (hb2.cell (p := ⟨b, o + (k * 2 + 0), none⟩) hblb).trans (HCELL.out _ _ ((flat_get encArrived 2 encArrived_len xs k 0 x HX.out (by omega)).trans rfl))
          rw [Nat.add_zero] at g0
          have hst := fun (wz : World) (hBz : (fun wz => Blk wz wo.heap.size 90 [.int .i64 x.time, .int .i64 x.size]) wz) (hz : Below w.heap.size w wz) => lbIn_step (G := (fun wz => Blk wz wo.heap.size 90 [.int .i64 x.time, .int .i64 x.size])) hyd (by rw [HYL.out]; exact hlj) HA.out HS.out hBz hz
          have HST := Lib.hid hst
          clear hst hyd hy c0 c1
          have p := mul_bd3 rate (y.time - x.time) hrt (by omega)
          have p1 := p.1
          have p2 := p.2
          clear p
          go_wp2_with (go_at_call 67; refine (l1Most_any _ _ _).mono ?_; rintro e w' ⟨rfl, rfl⟩)
          skip
          skip
          all_goals go_roundw
          case rel => exact HST.out _ (B8.alloc _) (ext_alloc hb2 _)
          case measure => simp [intOf]; omega
        · go_wp2_with fail
          go_roundw
          case rel => exact ⟨k + 1, by omega, by go_num, by rw [HSU.out, ← HA.out, List.take_of_length_le (by rw [HYL.out]; omega)], hb2⟩
          case measure => simp [intOf]; omega
    · go_wp2_with fail
      go_ret
      exact ⟨ret_int (by rw [leastR, HL.out]; congr 1; omega), hb⟩

set_option maxHeartbeats 4000000 in
theorem burstOf_any (rate : Int) (A : Option Addr) (n : Nat) (xs : List Arrived) (w : World) (hrt : 0 ≤ rate ∧ rate ≤ 100000) (htr : traceB xs = true) (hr : Rd w 2 A n (xs.flatMap encArrived)) :
    Calls Try.prog 76 #[.int .i64 rate, .slice A n n] w fun e w' => e = .returned (.int .i64 (leastR rate xs)) ∧ Below w.heap.size w w' := by
  have hl : xs.length = n := by have h1 := hr.1; rw [flat_len encArrived 2 encArrived_len] at h1; omega
  have hn : n ≤ 40 := by have := trace_len htr; omega
  have HL := Lib.hid hl
  have HTR := Lib.hid htr
  clear hl htr
  go_enter Try.func76, Try.ntmps76
  go_wp2_with fail
  go_loopw [5, 12] (LbOut w n rate xs) (fun _ i _ => n - (intOf i).toNat)
  case atStart => exact ⟨0, Nat.zero_le _, rfl, rfl, ext_refl w⟩
  case round =>
    obtain ⟨k, hk, rfl, rfl, hb⟩ := hrel
    have hm0 := leastTo_bd hrt HTR.out k (by rw [HL.out]; exact hk)
    by_cases hlt : k < n
    · obtain ⟨wo, rfl⟩ : ∃ wo : World, wo = wr := ⟨_, rfl⟩
      obtain ⟨b, o, rfl, hblb, hcellb⟩ := hr.2 (by omega)
      have hblrbx : b < wo.heap.size := Nat.lt_of_lt_of_le hblb hb.size
      have hlxx : k < xs.length := by rw [HL.out]; omega
      have hxx : xs[k]? = some xs[k] := List.getElem?_eq_getElem hlxx
      generalize xs[k] = x at hxx
      have c0 : wo.cell? ⟨b, o + (k * 2 + 0), none⟩ = some (.int .i64 x.time) := (hb.cell (p := ⟨b, o + (k * 2 + 0), none⟩) hblb).trans (hcellb _ _ ((flat_get encArrived 2 encArrived_len xs k 0 x hxx (by omega)).trans rfl))
      have c1 : wo.cell? ⟨b, o + (k * 2 + 1), none⟩ = some (.int .i64 x.size) := (hb.cell (p := ⟨b, o + (k * 2 + 1), none⟩) hblb).trans (hcellb _ _ ((flat_get encArrived 2 encArrived_len xs k 1 x hxx (by omega)).trans rfl))
      simp only [Nat.add_zero, ← Nat.add_assoc] at c0 c1
      have HX := Lib.hid hxx
      clear hxx hlxx
      have hxb := trace_at HTR.out HX.out
      have hsu := leastTo_succ (rate := rate) HX.out
      have HSU := Lib.hid hsu
      clear hsu
      have hyl : (xs.drop k).length = n - k := by rw [List.length_drop, HL.out]
      have HYL := Lib.hid hyl
      clear hyl
      have HCELL := Lib.hid hcellb
      clear hcellb
      generalize hmm : leastTo rate xs k = m0 at *
      have HMM := Lib.hid hmm
      clear hmm
      have k1 : (k : Int) < (n : Int) := by omega
      have B7 := Blk.new wo 90 [.int .i64 x.time, .int .i64 x.size]
      go_wp2_with fail
      go_loopw [5, 7, 19] (LbIn w (fun _ => True) rate x.time m0 (xs.drop k)) (fun _ _ i _ => n - (intOf i).toNat)
      case atStart => exact ⟨0, Nat.zero_le _, rfl, rfl, rfl, trivial, hb⟩
      case round =>
        obtain ⟨j, hj, rfl, rfl, rfl, B8, hb2⟩ := hrel
        rw [HYL.out] at hj
        have hbd := innerR_bd hrt hxb.1 hm0 ((xs.drop k).take j) (by rw [List.length_take, HYL.out]; omega) (mem_at fun i y hy => by
          rw [List.getElem?_take] at hy
          split at hy
          · rw [List.getElem?_drop] at hy; exact trace_at HTR.out hy
          · cases hy)
        have hl2 : ((xs.drop k).take j).length ≤ 40 := by rw [List.length_take]; omega
        generalize ha : (innerR rate x.time m0 ((xs.drop k).take j)).1 = ma at *
        generalize hs : (innerR rate x.time m0 ((xs.drop k).take j)).2 = sa at *
        have HA := Lib.hid ha
        have HS := Lib.hid hs
        clear ha hs
        have sb1 : sa ≤ 60000 := by omega
        skip
        by_cases hlj : j < n - k
        · have hbr2 : b < wr.heap.size := Nat.lt_of_lt_of_le hblb hb2.size
          have hlx2 : k + j < xs.length := by rw [HL.out]; omega
          have hy : xs[k + j]? = some xs[k + j] := List.getElem?_eq_getElem hlx2
          generalize xs[k + j] = y at hy
          have hyd : (xs.drop k)[j]? = some y := by rw [List.getElem?_drop]; exact hy
          have hyb := trace_at HTR.out hy
          have e0 : wr.cell? ⟨b, o + ((k + j) * 2 + 0), none⟩ = some (.int .i64 y.time) := (hb2.cell (p := ⟨b, o + ((k + j) * 2 + 0), none⟩) hblb).trans (HCELL.out _ _ ((flat_get encArrived 2 encArrived_len xs (k + j) 0 y hy (by omega)).trans rfl))
          have e1 : wr.cell? ⟨b, o + ((k + j) * 2 + 1), none⟩ = some (.int .i64 y.size) := (hb2.cell (p := ⟨b, o + ((k + j) * 2 + 1), none⟩) hblb).trans (HCELL.out _ _ ((flat_get encArrived 2 encArrived_len xs (k + j) 1 y hy (by omega)).trans rfl))
          rw [show o + ((k + j) * 2 + 0) = o + k * 2 + j * 2 by omega] at e0
          rw [show o + ((k + j) * 2 + 1) = o + k * 2 + j * 2 + 1 by omega] at e1
          have g0 : wr.cell? ⟨b, o + (k * 2 + 0), none⟩ = some (.int .i64 x.time) := (hb2.cell (p := ⟨b, o + (k * 2 + 0), none⟩) hblb).trans (HCELL.out _ _ ((flat_get encArrived 2 encArrived_len xs k 0 x HX.out (by omega)).trans rfl))
          rw [Nat.add_zero] at g0
          have hst := fun (wz : World) (hBz : (fun _ => True) wz) (hz : Below w.heap.size w wz) => lbIn_step (G := (fun _ => True)) hyd (by rw [HYL.out]; exact hlj) HA.out HS.out hBz hz
          have HST := Lib.hid hst
          clear hst hyd hy c0 c1
          have p := mul_bd3 rate (y.time - x.time) hrt (by omega)
          have p1 := p.1
          have p2 := p.2
          clear p
          go_wp2_with fail
          go_region
          all_goals go_wp2_with fail
          all_goals go_roundw
          case rel => rw [max_if]; exact HST.out _ trivial (ext_alloc hb2 _).drew
          case measure => simp [intOf]; omega
        · go_wp2_with fail
          go_roundw
          case rel => exact ⟨k + 1, by omega, by go_num, by rw [HSU.out, ← HA.out, List.take_of_length_le (by rw [HYL.out]; omega)], hb2⟩
          case measure => simp [intOf]; omega
    · go_wp2_with fail
      go_ret
      exact ⟨ret_int (by rw [leastR, HL.out]; congr 1; omega), hb⟩

def leastOk (rate : Int) (xs : List Arrived) : Bool := inB rate 0 100000 && traceB xs
def conOk (b r : Int) (xs : List Arrived) : Bool := isInflowB b r && traceB xs
def conV (b r : Int) (xs : List Arrived) : Bool := conOk b r xs && decide (leastR r xs ≤ b)
def ConS (w : World) (t : TypeId) (b r : Int) (w' : World) : Prop := Blk w' w.heap.size t [.int .i64 b, .int .i64 r] ∧ Below w.heap.size w w'
theorem conS_all {w w' : World} {t : TypeId} {b r : Int} (h : ConS w t b r w') : w'.cell? ⟨w.heap.size, 0, none⟩ = some (.int .i64 b) ∧ w'.cell? ⟨w.heap.size, 1, none⟩ = some (.int .i64 r) ∧ ConS w t b r w' := ⟨h.1.cell 0, h.1.cell 1, h⟩
theorem inB_not {n a b : Int} (h : inB n a b = false) : n < a ∨ b < n := by
  rcases Int.lt_or_le n a with h1 | h1
  · exact .inl h1
  · rcases Int.lt_or_le b n with h2 | h2
    · exact .inr h2
    · rw [inB_iff.2 ⟨h1, h2⟩] at h; cases h
theorem fp_false {c : Bool} (h : c = false) (s : Int) : fp c s = 0 := by simp [fp, h]
theorem fp_true {c : Bool} (h : c = true) (s : Int) : fp c s = s := by simp [fp, h]

set_option maxHeartbeats 1000000 in
theorem specLeastBurst_any (rate : Int) (A : Option Addr) (n : Nat) (xs : List Arrived) (w : World) (hn : n ≤ 1048576) (hr : Rd w 2 A n (xs.flatMap encArrived)) :
    Calls Try.prog 45 #[.int .i64 rate, .slice A n n] w fun e w' => e = .returned (.tuple #[.int .i64 (fp (leastOk rate xs) (leastR rate xs)), .bool (leastOk rate xs)]) ∧ Below w.heap.size w w' := by
  cases h1 : inB rate 0 100000 with
  | false =>
    have h2 := inB_not h1
    have e0 : leastOk rate xs = false := by simp [leastOk, h1]
    rw [fp_false e0, e0]
    clear e0
    by_cases h3 : rate < 0
    · go_enter Try.func45, Try.ntmps45
      go_wp2_with (first | (go_at_call 66; refine (l1In_any _ _ _ _).mono ?_; rintro e w' ⟨rfl, rfl⟩) | (go_at_call 72; refine (bnTrace_any _ n _ xs _ hn hr).mono ?_; rintro e w1 ⟨rfl, hb1⟩))
      all_goals first | exact (show False by omega).elim | (go_ret2; exact ⟨rfl, ext_refl w⟩)
    · go_enter Try.func45, Try.ntmps45
      go_wp2_with (first | (go_at_call 66; refine (l1In_any _ _ _ _).mono ?_; rintro e w' ⟨rfl, rfl⟩) | (go_at_call 72; refine (bnTrace_any _ n _ xs _ hn hr).mono ?_; rintro e w1 ⟨rfl, hb1⟩))
      all_goals first | exact (show False by omega).elim | (go_ret2; exact ⟨rfl, ext_refl w⟩)
  | true =>
    have hrt := inB_iff.1 h1
    cases htr : traceB xs with
    | false =>
      have e0 : leastOk rate xs = false := by simp [leastOk, htr]
      rw [fp_false e0, e0]
      clear e0
      go_enter Try.func45, Try.ntmps45
      go_wp2_with (first | (go_at_call 66; refine (l1In_any _ _ _ _).mono ?_; rintro e w' ⟨rfl, rfl⟩) | (go_at_call 72; refine (bnTrace_any _ n _ xs _ hn hr).mono ?_; rintro e w1 ⟨rfl, hb1⟩))
      all_goals first | exact (show False by omega).elim | (go_ret2; exact ⟨rfl, hb1⟩)
    | true =>
      have e0 : leastOk rate xs = true := by simp [leastOk, h1, htr]
      rw [fp_true e0, e0]
      clear e0
      go_enter Try.func45, Try.ntmps45
      go_wp2_with (first | (go_at_call 66; refine (l1In_any _ _ _ _).mono ?_; rintro e w' ⟨rfl, rfl⟩) | (go_at_call 72; refine (bnTrace_any _ n _ xs _ hn hr).mono ?_; rintro e w1 ⟨rfl, hb1⟩) | (go_at_call 73; refine (bnLeast_any _ _ n xs _ hrt htr (hr.below hb1)).mono ?_; rintro e w2 ⟨rfl, hb2⟩))
      all_goals first | exact (show False by omega).elim | (go_ret2; exact ⟨rfl, ext_trans hb1 hb2⟩)

set_option maxHeartbeats 1000000 in
theorem specConformsTo_any (b r : Int) (A : Option Addr) (n : Nat) (xs : List Arrived) (w : World) (hn : n ≤ 1048576) (hr : Rd w 2 A n (xs.flatMap encArrived)) :
    Calls Try.prog 49 #[.agg #[.int .i64 b, .int .i64 r], .slice A n n] w fun e w' => e = .returned (.tuple #[.bool (conV b r xs), .bool (conOk b r xs)]) ∧ Below w.heap.size w w' := by
  have B0 := Blk.new w 25 [.int .i64 b, .int .i64 r]
  have z0 := ext_alloc (ext_refl w) (.cells (List.toArray [.int .i64 b, .int .i64 r]) 25)
  have hr0 := hr.below z0
  cases h1 : isInflowB b r with
  | false =>
    have e0 : conOk b r xs = false := by simp [conOk, h1]
    have e1 : conV b r xs = false := by simp [conV, e0]
    rw [e0, e1]
    clear e0 e1
    go_enter Try.func49, Try.ntmps49
    go_wp2_with fail
    refine (bnInflow_any _ _ _).mono ?_; rintro e w1 ⟨rfl, hb1⟩
    rw [h1]
    have C0 := B0.below hb1
    have z1 := ext_trans z0 hb1
    have hr1 := hr0.below hb1
    clear hb1 B0 z0 hr0
    go_wp2_with fail
    go_ret2
    exact ⟨rfl, z1⟩
  | true =>
    have hrt := (isInflowB_iff.1 h1).2
    cases htr : traceB xs with
    | false =>
      have e0 : conOk b r xs = false := by simp [conOk, htr]
      have e1 : conV b r xs = false := by simp [conV, e0]
      rw [e0, e1]
      clear e0 e1
      go_enter Try.func49, Try.ntmps49
      go_wp2_with fail
      refine (bnInflow_any _ _ _).mono ?_; rintro e w1 ⟨rfl, hb1⟩
      rw [h1]
      have C0 := B0.below hb1
      have z1 := ext_trans z0 hb1
      have hr1 := hr0.below hb1
      clear hb1 B0 z0 hr0
      go_wp2_with fail
      refine (bnTrace_any _ n _ xs _ hn hr1).mono ?_; rintro e w2 ⟨rfl, hb2⟩
      rw [htr]
      have D0 := C0.below hb2
      have z2 := ext_trans z1 hb2
      have hr2 := hr1.below hb2
      clear hb2 C0 z1 hr1
      obtain ⟨y0, x0, d0, f0⟩ := D0.two
      go_wp2_with fail
      go_ret2
      exact ⟨rfl, z2⟩
    | true =>
      have e0 : conOk b r xs = true := by simp [conOk, h1, htr]
      have e1 : conV b r xs = decide (leastR r xs ≤ b) := by simp [conV, e0]
      rw [e0, e1]
      clear e0 e1
      go_enter Try.func49, Try.ntmps49
      go_wp2_with fail
      refine (bnInflow_any _ _ _).mono ?_; rintro e w1 ⟨rfl, hb1⟩
      rw [h1]
      have C0 := B0.below hb1
      have z1 := ext_trans z0 hb1
      have hr1 := hr0.below hb1
      clear hb1 B0 z0 hr0
      go_wp2_with fail
      refine (bnTrace_any _ n _ xs _ hn hr1).mono ?_; rintro e w2 ⟨rfl, hb2⟩
      rw [htr]
      have D0 := C0.below hb2
      have z2 := ext_trans z1 hb2
      have hr2 := hr1.below hb2
      clear hb2 C0 z1 hr1
      obtain ⟨y0, x0, d0, f0⟩ := D0.two
      go_wp2_with fail
      go_region_held3 (fun w' => w'.cell? ⟨w.heap.size, 0, none⟩ = some (.int .i64 b) ∧ w'.cell? ⟨w.heap.size, 1, none⟩ = some (.int .i64 r) ∧ ConS w 25 b r w')
        (first | exact conS_all ⟨D0.drew, z2.drew⟩ | exact conS_all ⟨D0.drew.below hb3, ext_trans z2.drew hb3⟩)
        (first | (go_at_call 73; refine (bnLeast_any _ _ n xs _ hrt htr hr2.drew).mono ?_; rintro e w3 ⟨rfl, hb3⟩))
      rename_i hS
      go_wp2_with fail
      go_ret2
      exact ⟨rfl, hS.2.2.2⟩

set_option maxHeartbeats 1000000 in
theorem implLeastBurst_any (rate : Int) (A : Option Addr) (n : Nat) (xs : List Arrived) (w : World) (hn : n ≤ 1048576) (hr : Rd w 2 A n (xs.flatMap encArrived)) :
    Calls Try.prog 47 #[.int .i64 rate, .slice A n n] w fun e w' => e = .returned (.tuple #[.int .i64 (fp (leastOk rate xs) (leastR rate xs)), .bool (leastOk rate xs)]) ∧ Below w.heap.size w w' := by
  cases h1 : inB rate 0 100000 with
  | false =>
    have h2 := inB_not h1
    have e0 : leastOk rate xs = false := by simp [leastOk, h1]
    rw [fp_false e0, e0]
    clear e0
    by_cases h3 : rate < 0
    · go_enter Try.func47, Try.ntmps47
      go_wp2_with (first | (go_at_call 75; refine (isTrace_any _ n _ xs _ hn hr).mono ?_; rintro e w1 ⟨rfl, hb1⟩))
      all_goals first | exact (show False by omega).elim | (go_ret2; exact ⟨rfl, ext_refl w⟩)
    · go_enter Try.func47, Try.ntmps47
      go_wp2_with (first | (go_at_call 75; refine (isTrace_any _ n _ xs _ hn hr).mono ?_; rintro e w1 ⟨rfl, hb1⟩))
      all_goals first | exact (show False by omega).elim | (go_ret2; exact ⟨rfl, ext_refl w⟩)
  | true =>
    have hrt := inB_iff.1 h1
    cases htr : traceB xs with
    | false =>
      have e0 : leastOk rate xs = false := by simp [leastOk, htr]
      rw [fp_false e0, e0]
      clear e0
      go_enter Try.func47, Try.ntmps47
      go_wp2_with (first | (go_at_call 75; refine (isTrace_any _ n _ xs _ hn hr).mono ?_; rintro e w1 ⟨rfl, hb1⟩))
      all_goals first | exact (show False by omega).elim | (go_ret2; exact ⟨rfl, hb1⟩)
    | true =>
      have e0 : leastOk rate xs = true := by simp [leastOk, h1, htr]
      rw [fp_true e0, e0]
      clear e0
      go_enter Try.func47, Try.ntmps47
      go_wp2_with (first | (go_at_call 75; refine (isTrace_any _ n _ xs _ hn hr).mono ?_; rintro e w1 ⟨rfl, hb1⟩) | (go_at_call 76; refine (burstOf_any _ _ n xs _ hrt htr (hr.below hb1)).mono ?_; rintro e w2 ⟨rfl, hb2⟩))
      all_goals first | exact (show False by omega).elim | (go_ret2; exact ⟨rfl, ext_trans hb1 hb2⟩)

set_option maxHeartbeats 1000000 in
theorem implConformsTo_any (b r : Int) (A : Option Addr) (n : Nat) (xs : List Arrived) (w : World) (hn : n ≤ 1048576) (hr : Rd w 2 A n (xs.flatMap encArrived)) :
    Calls Try.prog 50 #[.agg #[.int .i64 b, .int .i64 r], .slice A n n] w fun e w' => e = .returned (.tuple #[.bool (conV b r xs), .bool (conOk b r xs)]) ∧ Below w.heap.size w w' := by
  have B0 := Blk.new w 25 [.int .i64 b, .int .i64 r]
  have z0 := ext_alloc (ext_refl w) (.cells (List.toArray [.int .i64 b, .int .i64 r]) 25)
  have hr0 := hr.below z0
  cases h1 : isInflowB b r with
  | false =>
    have e0 : conOk b r xs = false := by simp [conOk, h1]
    have e1 : conV b r xs = false := by simp [conV, e0]
    rw [e0, e1]
    clear e0 e1
    go_enter Try.func50, Try.ntmps50
    go_wp2_with fail
    refine (implIsInflow_any _ _ _).mono ?_; rintro e w1 ⟨rfl, hb1⟩
    rw [h1]
    have C0 := B0.below hb1
    have z1 := ext_trans z0 hb1
    have hr1 := hr0.below hb1
    clear hb1 B0 z0 hr0
    go_wp2_with fail
    go_ret2
    exact ⟨rfl, z1⟩
  | true =>
    have hrt := (isInflowB_iff.1 h1).2
    cases htr : traceB xs with
    | false =>
      have e0 : conOk b r xs = false := by simp [conOk, htr]
      have e1 : conV b r xs = false := by simp [conV, e0]
      rw [e0, e1]
      clear e0 e1
      go_enter Try.func50, Try.ntmps50
      go_wp2_with fail
      refine (implIsInflow_any _ _ _).mono ?_; rintro e w1 ⟨rfl, hb1⟩
      rw [h1]
      have C0 := B0.below hb1
      have z1 := ext_trans z0 hb1
      have hr1 := hr0.below hb1
      clear hb1 B0 z0 hr0
      go_wp2_with fail
      refine (isTrace_any _ n _ xs _ hn hr1).mono ?_; rintro e w2 ⟨rfl, hb2⟩
      rw [htr]
      have D0 := C0.below hb2
      have z2 := ext_trans z1 hb2
      have hr2 := hr1.below hb2
      clear hb2 C0 z1 hr1
      obtain ⟨y0, x0, d0, f0⟩ := D0.two
      go_wp2_with fail
      go_ret2
      exact ⟨rfl, z2⟩
    | true =>
      have e0 : conOk b r xs = true := by simp [conOk, h1, htr]
      have e1 : conV b r xs = decide (leastR r xs ≤ b) := by simp [conV, e0]
      rw [e0, e1]
      clear e0 e1
      go_enter Try.func50, Try.ntmps50
      go_wp2_with fail
      refine (implIsInflow_any _ _ _).mono ?_; rintro e w1 ⟨rfl, hb1⟩
      rw [h1]
      have C0 := B0.below hb1
      have z1 := ext_trans z0 hb1
      have hr1 := hr0.below hb1
      clear hb1 B0 z0 hr0
      go_wp2_with fail
      refine (isTrace_any _ n _ xs _ hn hr1).mono ?_; rintro e w2 ⟨rfl, hb2⟩
      rw [htr]
      have D0 := C0.below hb2
      have z2 := ext_trans z1 hb2
      have hr2 := hr1.below hb2
      clear hb2 C0 z1 hr1
      obtain ⟨y0, x0, d0, f0⟩ := D0.two
      go_wp2_with fail
      go_region_held3 (fun w' => w'.cell? ⟨w.heap.size, 0, none⟩ = some (.int .i64 b) ∧ w'.cell? ⟨w.heap.size, 1, none⟩ = some (.int .i64 r) ∧ ConS w 25 b r w')
        (first | exact conS_all ⟨D0.drew, z2.drew⟩ | exact conS_all ⟨D0.drew.below hb3, ext_trans z2.drew hb3⟩)
        (first | (go_at_call 76; refine (burstOf_any _ _ n xs _ hrt htr hr2.drew).mono ?_; rintro e w3 ⟨rfl, hb3⟩))
      rename_i hS
      go_wp2_with fail
      go_ret2
      exact ⟨rfl, hS.2.2.2⟩

end Go.Proofs.Ytmmelpgnfjjokaa