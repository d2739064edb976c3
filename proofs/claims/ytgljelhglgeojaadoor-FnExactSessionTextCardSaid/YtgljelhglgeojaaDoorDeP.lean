/- Sessions in plain words: validity, service, deadline, the next one, the run of slots. No condition. -/
import Derived.Test.YtgljelhglgeojaaDoorHelp
namespace Go.Proofs.YtgljelhglgeojaaDoor
open Go.RowKit

/-- A session: three numbers of its curve, its start, its base, what it has served, its sizes. -/
structure Ses where
  (f l s st ba se : Int)
  zs : List Int
def curB (f l s : Int) : Bool := inB f 0 100000 && inB l 0 10000 && inB s 0 100000
def sizesB (zs : List Int) : Bool := zs.all fun z => inB z 1 1500
def sesB (x : Ses) : Bool := sizesB x.zs && curB x.f x.l x.s && inB x.st 0 100000 && inB x.ba 0 1000000 && inB x.se x.ba 1000000000 && decide (x.zs.length ≤ 20)
def curI (f l s t : Int) : Int := if t ≤ l then f * t else f * l + s * (t - l)
def srvI (x : Ses) (t : Int) : Int := x.ba + curI x.f x.l x.s (t - x.st)
structure SesOk (x : Ses) : Prop where
  f : 0 ≤ x.f ∧ x.f ≤ 100000
  l : 0 ≤ x.l ∧ x.l ≤ 10000
  s : 0 ≤ x.s ∧ x.s ≤ 100000
  st : 0 ≤ x.st ∧ x.st ≤ 100000
  ba : 0 ≤ x.ba ∧ x.ba ≤ 1000000
  se : x.ba ≤ x.se ∧ x.se ≤ 1000000000
  len : x.zs.length ≤ 20
  zs : ∀ z ∈ x.zs, 1 ≤ z ∧ z ≤ 1500
theorem curB_iff {f l s : Int} : curB f l s = true ↔ (0 ≤ f ∧ f ≤ 100000) ∧ (0 ≤ l ∧ l ≤ 10000) ∧ (0 ≤ s ∧ s ≤ 100000) := by
  simp only [curB, Bool.and_eq_true, inB_iff, and_assoc]
theorem sesB_iff {x : Ses} : sesB x = true ↔ SesOk x := by
  simp only [sesB, sizesB, Bool.and_eq_true, inB_iff, curB_iff, List.all_eq_true, decide_eq_true_eq]
  constructor
  · rintro ⟨⟨⟨⟨⟨h1, h2, h3, h4⟩, h5⟩, h6⟩, h7⟩, h8⟩
    exact ⟨h2, h3, h4, h5, h6, h7, h8, h1⟩
  · rintro ⟨h2, h3, h4, h5, h6, h7, h8, h1⟩
    exact ⟨⟨⟨⟨⟨h1, h2, h3, h4⟩, h5⟩, h6⟩, h7⟩, h8⟩
theorem mul_range {a b A B : Int} (h1 : 0 ≤ a) (h2 : a ≤ A) (h3 : -B ≤ b) (h4 : b ≤ B) (hB : 0 ≤ B) : -(A * B) ≤ a * b ∧ a * b ≤ A * B := by
  have e1 : a * b ≤ a * B := Int.mul_le_mul_of_nonneg_left h4 h1
  have e2 : a * B ≤ A * B := Int.mul_le_mul_of_nonneg_right h2 hB
  have e3 : a * -B ≤ a * b := Int.mul_le_mul_of_nonneg_left h3 h1
  rw [Int.mul_neg] at e3
  omega
theorem curI_parts {f l s t : Int} (hf : 0 ≤ f ∧ f ≤ 100000) (hl : 0 ≤ l ∧ l ≤ 10000) (hs : 0 ≤ s ∧ s ≤ 100000) (ht : -100000 ≤ t ∧ t ≤ 200000) :
    (-20000000000 ≤ f * t ∧ f * t ≤ 20000000000) ∧ (0 ≤ f * l ∧ f * l ≤ 1000000000) ∧ (-20000000000 ≤ s * (t - l) ∧ s * (t - l) ≤ 20000000000) := by
  have h1 := mul_range (B := 200000) hf.1 hf.2 (by omega) ht.2 (by omega)
  have h2 := mul_bd hf.1 hf.2 hl.1 hl.2
  have h3 := mul_range (B := 200000) (b := t - l) hs.1 hs.2 (by omega) (by omega) (by omega)
  omega
theorem curI_bd {f l s t : Int} (hf : 0 ≤ f ∧ f ≤ 100000) (hl : 0 ≤ l ∧ l ≤ 10000) (hs : 0 ≤ s ∧ s ≤ 100000) (ht : -100000 ≤ t ∧ t ≤ 200000) : -21000000000 ≤ curI f l s t ∧ curI f l s t ≤ 21000000000 := by
  have := curI_parts hf hl hs ht
  unfold curI
  split <;> omega
theorem curI_mono {f l s a b : Int} (hf : 0 ≤ f) (hs : 0 ≤ s) (h : a ≤ b) : curI f l s a ≤ curI f l s b := by
  unfold curI
  split
  · rename_i h1
    split
    · exact Int.mul_le_mul_of_nonneg_left h hf
    · rename_i h2
      have e1 : f * a ≤ f * l := Int.mul_le_mul_of_nonneg_left h1 hf
      have e2 : 0 ≤ s * (b - l) := Int.mul_nonneg hs (by omega)
      omega
  · rename_i h1
    rw [if_neg (by omega)]
    have e2 : s * (a - l) ≤ s * (b - l) := Int.mul_le_mul_of_nonneg_left (by omega) hs
    omega
theorem srv_bd {x : Ses} (h : SesOk x) {t : Int} (h0 : 0 ≤ t) (h1 : t ≤ 300000) (h2 : t - x.st ≤ 200000) : -21000000000 ≤ srvI x t ∧ srvI x t ≤ 22000000000 := by
  have h3 := h.st
  have h4 := h.ba
  have := curI_bd h.f h.l h.s (t := t - x.st) (by omega)
  unfold srvI
  omega

/-! ### The least time -/
def tN : Nat := 100001
theorem tN_eq : tN = 100001 := rfl
def hits (f l s y : Int) (d : Nat) : Bool := decide (y ≤ curI f l s d)
def leastI (f l s y : Int) : Int := match (List.range tN).find? (hits f l s y) with
  | some d => (d : Int)
  | none => -1
theorem leastI_some {f l s y : Int} {d : Nat} (hd : d ≤ 100000) (h : y ≤ curI f l s d) (hno : ∀ j : Nat, j < d → curI f l s j < y) : leastI f l s y = d := by
  have : (List.range tN).find? (hits f l s y) = some d := by
    rw [List.find?_range_eq_some]
    refine ⟨by simp [hits, h], List.mem_range.2 (by rw [tN_eq]; omega), fun j hj => ?_⟩
    have := hno j hj
    simp [hits]; omega
  unfold leastI
  rw [this]
theorem leastI_none {f l s y : Int} (hf : 0 ≤ f) (hs : 0 ≤ s) (h : curI f l s 100000 < y) : leastI f l s y = -1 := by
  have : (List.range tN).find? (hits f l s y) = none := by
    rw [List.find?_eq_none]
    intro d hd
    have hd' := List.mem_range.1 hd
    rw [tN_eq] at hd'
    have := curI_mono (l := l) hf hs (show (d : Int) ≤ 100000 by omega)
    simp [hits]; omega
  unfold leastI
  rw [this]
theorem leastI_cases {f l s y : Int} : (leastI f l s y = -1 ∧ curI f l s 100000 < y) ∨ (∃ d : Nat, d ≤ 100000 ∧ leastI f l s y = d ∧ y ≤ curI f l s d ∧ ∀ j : Nat, j < d → curI f l s j < y) := by
  unfold leastI
  cases h : (List.range tN).find? (hits f l s y) with
  | none =>
    left
    rw [List.find?_eq_none] at h
    have := h 100000 (List.mem_range.2 (by rw [tN_eq]; omega))
    simp [hits] at this
    exact ⟨rfl, this⟩
  | some d =>
    right
    rw [List.find?_range_eq_some] at h
    obtain ⟨h1, h2, h3⟩ := h
    refine ⟨d, by have h2' := List.mem_range.1 h2; rw [tN_eq] at h2'; omega, rfl, by simpa [hits] using h1, fun j hj => ?_⟩
    have := h3 j hj
    simpa [hits] using this
def needI (x : Ses) : Int := x.se + x.zs.headD 0
def deadI (x : Ses) : Int := if x.zs = [] then -1 else if leastI x.f x.l x.s (needI x - x.ba) < 0 ∨ 100000 < x.st + leastI x.f x.l x.s (needI x - x.ba) then -1 else x.st + leastI x.f x.l x.s (needI x - x.ba)
theorem dead_nil {x : Ses} (h : x.zs = []) : deadI x = -1 := by simp [deadI, h]
/-- By the service at the last time. -/
theorem dead_late {x : Ses} (hx : SesOk x) (h : srvI x 100000 < needI x) : deadI x = -1 := by
  unfold deadI
  split
  · rfl
  · rw [if_pos]
    rcases leastI_cases (f := x.f) (l := x.l) (s := x.s) (y := needI x - x.ba) with ⟨h1, _⟩ | ⟨d, h1, h2, h3, h4⟩
    · left; omega
    · right
      rw [h2]
      rcases Int.lt_or_le 100000 (x.st + d) with h5 | h5
      · exact h5
      · have := curI_mono (f := x.f) (l := x.l) (s := x.s) hx.f.1 hx.s.1 (show (d : Int) ≤ 100000 - x.st by omega)
        unfold srvI at h
        omega
/-- The first time at which the service suffices. -/
theorem dead_at {x : Ses} (hx : SesOk x) (hz : x.zs ≠ []) {t : Int} (h0 : x.st ≤ t) (h1 : t ≤ 100000) (h : needI x ≤ srvI x t) (hno : ∀ u, x.st ≤ u → u < t → srvI x u < needI x) : deadI x = t := by
  have hst := hx.st
  have e : leastI x.f x.l x.s (needI x - x.ba) = ((t - x.st).toNat : Nat) := by
    refine leastI_some (by omega) ?_ fun j hj => ?_
    · rw [show (((t - x.st).toNat : Nat) : Int) = t - x.st by omega]
      unfold srvI at h
      omega
    · have := hno (x.st + j) (by omega) (by omega)
      unfold srvI at this
      rw [show x.st + (j : Int) - x.st = j by omega] at this
      omega
  unfold deadI
  rw [if_neg hz, e, if_neg (by omega)]
  omega
theorem dead_by_least {x : Ses} (hz : x.zs ≠ []) : deadI x = (if leastI x.f x.l x.s (needI x - x.ba) < 0 ∨ 100000 < x.st + leastI x.f x.l x.s (needI x - x.ba) then -1 else x.st + leastI x.f x.l x.s (needI x - x.ba)) := by
  unfold deadI; rw [if_neg hz]
theorem dead_bd (x : Ses) (h : 0 ≤ x.st) : -1 ≤ deadI x ∧ deadI x ≤ 100000 := by
  unfold deadI
  split
  · omega
  · split <;> omega

/-! ### The next session -/
def eligB (x : Ses) (t : Int) : Bool := !x.zs.isEmpty && decide (x.st ≤ t) && decide (x.se ≤ srvI x t)
def nextStep (t : Int) (acc : Int × Int) (i : Nat) (x : Ses) : Int × Int := if eligB x t && decide (0 ≤ deadI x) && (decide (acc.1 < 0) || decide (deadI x < acc.2)) then ((i : Int), deadI x) else acc
def nextTo (xs : List Ses) (t : Int) : Nat → Int × Int
  | 0 => (-1, 0)
  | k + 1 => match xs[k]? with
    | none => nextTo xs t k
    | some x => nextStep t (nextTo xs t k) k x
def nextI (xs : List Ses) (t : Int) : Int × Int := nextTo xs t xs.length
theorem nextTo_succ {xs : List Ses} {t : Int} {k : Nat} {x : Ses} (h : xs[k]? = some x) : nextTo xs t (k + 1) = nextStep t (nextTo xs t k) k x := by simp [nextTo, h]
/-- The one found so far: none, or an earlier one with its deadline. -/
def Found (xs : List Ses) (t : Int) (k : Nat) (r : Int × Int) : Prop := r = (-1, 0) ∨ ∃ (j : Nat) (y : Ses), j < k ∧ xs[j]? = some y ∧ r = ((j : Int), deadI y) ∧ 0 ≤ deadI y ∧ eligB y t = true
theorem nextTo_found (xs : List Ses) (t : Int) : ∀ k, Found xs t k (nextTo xs t k)
  | 0 => .inl rfl
  | k + 1 => by
    have ih := nextTo_found xs t k
    have up : Found xs t (k + 1) (nextTo xs t k) := by
      rcases ih with h | ⟨j, y, h1, h2⟩
      · exact .inl h
      · exact .inr ⟨j, y, by omega, h2⟩
    unfold nextTo
    cases hx : xs[k]? with
    | none => exact up
    | some x =>
      simp only
      unfold nextStep
      split
      · rename_i hc
        simp only [Bool.and_eq_true, decide_eq_true_eq] at hc
        exact .inr ⟨k, x, by omega, hx, rfl, hc.1.2, hc.1.1⟩
      · exact up

/-! ### Slots -/
def serveI (x : Ses) : Ses := { x with se := needI x, zs := x.zs.tail }
structure Run where
  ss : List Ses
  t : Int
  sent : List Int
  late : List Bool
/-- One slot. -/
def slotI (rate : Int) (r : Run) : Option Run :=
  if 100000 < r.t then none else
  if (nextI r.ss r.t).1 < 0 then some ⟨r.ss, r.t + 1, r.sent ++ [(nextI r.ss r.t).1], r.late ++ [false]⟩ else
  match r.ss[(nextI r.ss r.t).1.toNat]? with
  | none => none
  | some x => if 1000000000 < needI x then none else
    some ⟨r.ss.set (nextI r.ss r.t).1.toNat (serveI x), r.t + (x.zs.headD 0 + rate - 1) / rate, r.sent ++ [(nextI r.ss r.t).1], r.late ++ [decide ((nextI r.ss r.t).2 < r.t + (x.zs.headD 0 + rate - 1) / rate)]⟩
def slotsI (rate : Int) (r : Run) : Nat → Option Run
  | 0 => some r
  | k + 1 => (slotsI rate r k).bind (slotI rate)
theorem slots_none {rate : Int} {r : Run} {k n : Nat} (h : slotsI rate r k = none) (hk : k ≤ n) : slotsI rate r n = none := by
  induction n with
  | zero => obtain rfl : k = 0 := by omega
            exact h
  | succ n ih =>
    by_cases he : k = n + 1
    · rw [← he]; exact h
    · rw [slotsI, ih (by omega)]; rfl
theorem slots_succ {rate : Int} {r r1 : Run} {k : Nat} (h : slotsI rate r k = some r1) : slotsI rate r (k + 1) = slotI rate r1 := by rw [slotsI, h]; rfl
/-- The indices at which a list of Bools is true. -/
def trueAt : Nat → List Bool → List Int
  | _, [] => []
  | i, b :: bs => (if b then [(i : Int)] else []) ++ trueAt (i + 1) bs
theorem trueAt_snoc (i : Nat) (bs : List Bool) (b : Bool) : trueAt i (bs ++ [b]) = trueAt i bs ++ (if b then [((i + bs.length : Nat) : Int)] else []) := by
  induction bs generalizing i with
  | nil => simp [trueAt]
  | cons c bs ih =>
    rw [List.cons_append, trueAt, ih, trueAt]
    simp only [List.append_assoc, List.length_cons]
    rw [show i + 1 + bs.length = i + (bs.length + 1) by omega]
theorem trueAt_len (i : Nat) (bs : List Bool) : (trueAt i bs).length ≤ bs.length := by
  induction bs generalizing i with
  | nil => simp [trueAt]
  | cons c bs ih => have := ih (i + 1); rw [trueAt]; split <;> simp <;> omega
theorem serve_ok {x : Ses} (h : SesOk x) (hz : x.zs ≠ []) (hn : needI x ≤ 1000000000) : SesOk (serveI x) := by
  have hd : 1 ≤ x.zs.headD 0 := by
    cases hzz : x.zs with
    | nil => exact absurd hzz hz
    | cons z zs => have := h.zs z (by simp [hzz]); simpa using this.1
  have h1 := h.se
  refine ⟨h.f, h.l, h.s, h.st, h.ba, ⟨?_, hn⟩, ?_, fun z hm => h.zs z (List.mem_of_mem_tail hm)⟩
  · simp only [serveI, needI]; omega
  · have := h.len; simp only [serveI, List.length_tail]; omega
theorem head_bd {x : Ses} (h : SesOk x) (hz : x.zs ≠ []) : 1 ≤ x.zs.headD 0 ∧ x.zs.headD 0 ≤ 1500 := by
  cases hzz : x.zs with
  | nil => exact absurd hzz hz
  | cons z zs => have := h.zs z (by simp [hzz]); simpa using this
end Go.Proofs.YtgljelhglgeojaaDoor
