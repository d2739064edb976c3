/- The run of slots in plain words: what holds at each slot; rows of sessions of which one is set. No condition. -/
import Derived.Test.YtgljelhglgeojaaAps
namespace Go.Proofs.Ytgljelhglgeojaa
open Go.RowKit

def run0 (ss : List Ses) : Run := ⟨ss, 0, [], []⟩
def schGo (ss : List Ses) (rate slots : Int) : Bool := listS ss && inB rate 1 100000 && inB slots 0 60
def schRun (ss : List Ses) (rate slots : Int) : Option Run := if schGo ss rate slots then slotsI rate (run0 ss) slots.toNat else none
def schOk (ss : List Ses) (rate slots : Int) : Bool := (schRun ss rate slots).isSome
def schR (ss : List Ses) (rate slots : Int) : List Int := match schRun ss rate slots with
  | some r => r.sent
  | none => []
def schL (ss : List Ses) (rate slots : Int) : List Bool := match schRun ss rate slots with
  | some r => r.late
  | none => []
def misR (ss : List Ses) (rate slots : Int) : List Int := trueAt 0 (schL ss rate slots)
theorem slot_len {rate : Int} {r r2 : Run} (h : slotI rate r = some r2) : r2.sent.length = r.sent.length + 1 ∧ r2.late.length = r.late.length + 1 := by
  unfold slotI at h
  split at h
  · cases h
  · split at h
    · injection h with h; subst h; simp
    · split at h
      · cases h
      · split at h
        · cases h
        · injection h with h; subst h; simp
theorem slots_len {rate : Int} {r : Run} : ∀ (k : Nat) (r2 : Run), slotsI rate r k = some r2 → r2.sent.length = r.sent.length + k ∧ r2.late.length = r.late.length + k
  | 0, r2, h => by injection h with h; subst h; simp
  | k + 1, r2, h => by
    rw [slotsI] at h
    cases h1 : slotsI rate r k with
    | none => rw [h1] at h; cases h
    | some r1 =>
      rw [h1] at h
      have h2 := slots_len k r1 h1
      have h3 := slot_len (r := r1) (r2 := r2) h
      omega
theorem schR_len (ss : List Ses) (rate slots : Int) : (schR ss rate slots).length ≤ 1048576 := by
  unfold schR schRun
  split
  · rename_i r h
    split at h
    · rename_i hg
      have := slots_len _ _ h
      simp only [schGo, Bool.and_eq_true, inB_iff] at hg
      simp only [run0, List.length_nil] at this
      omega
    · cases h
  · simp
theorem schL_len (ss : List Ses) (rate slots : Int) : (schL ss rate slots).length ≤ 60 := by
  unfold schL schRun
  split
  · rename_i r h
    split at h
    · rename_i hg
      have := slots_len _ _ h
      simp only [schGo, Bool.and_eq_true, inB_iff] at hg
      simp only [run0, List.length_nil] at this
      omega
    · cases h
  · simp
theorem misR_len (ss : List Ses) (rate slots : Int) : (misR ss rate slots).length ≤ 1048576 := by
  have h1 := trueAt_len 0 (schL ss rate slots)
  have h2 := schL_len ss rate slots
  unfold misR
  omega
/-- What holds of the run at each slot. -/
structure RunOk (r : Run) (n k : Nat) : Prop where
  ok : ∀ x ∈ r.ss, SesOk x
  len : r.ss.length = n
  t0 : 0 ≤ r.t
  t1 : r.t ≤ 102000
  sl : r.sent.length = k
  ll : r.late.length = k
theorem runOk_start {ss : List Ses} (h : listS ss = true) : RunOk (run0 ss) ss.length 0 := by
  simp only [listS, Bool.and_eq_true, List.all_eq_true] at h
  exact ⟨fun x hx => sesB_iff.1 (h.1 x hx), rfl, by simp [run0], by simp [run0], rfl, rfl⟩
theorem runOk_list {r : Run} {n k : Nat} (h : RunOk r n k) (hn : n ≤ 6) : listS r.ss = true := by
  simp only [listS, Bool.and_eq_true, List.all_eq_true, decide_eq_true_eq]
  exact ⟨fun x hx => sesB_iff.2 (h.ok x hx), by rw [h.len]; exact hn⟩
def idleR (r : Run) : Run := ⟨r.ss, r.t + 1, r.sent ++ [(nextI r.ss r.t).1], r.late ++ [false]⟩
def upT (rate z : Int) : Int := (z + rate - 1) / rate
def busyR (rate : Int) (r : Run) (j : Nat) (x : Ses) : Run := ⟨r.ss.set j (serveI x), r.t + upT rate (x.zs.headD 0), r.sent ++ [(j : Int)], r.late ++ [decide (deadI x < r.t + upT rate (x.zs.headD 0))]⟩
theorem slot_over {rate : Int} {r : Run} (h : 100000 < r.t) : slotI rate r = none := by simp [slotI, h]
theorem slot_idle {rate : Int} {r : Run} (h : ¬ 100000 < r.t) (hn : (nextI r.ss r.t).1 < 0) : slotI rate r = some (idleR r) := by simp [slotI, h, hn, idleR]
theorem slot_big {rate : Int} {r : Run} {j : Nat} {x : Ses} (h : ¬ 100000 < r.t) (hj : nextI r.ss r.t = ((j : Int), deadI x)) (hx : r.ss[j]? = some x) (hb : 1000000000 < needI x) : slotI rate r = none := by
  unfold slotI
  rw [if_neg h, hj, if_neg (by simp)]
  simp only [Int.toNat_natCast, hx]
  rw [if_pos hb]
theorem slot_busy {rate : Int} {r : Run} {j : Nat} {x : Ses} (h : ¬ 100000 < r.t) (hj : nextI r.ss r.t = ((j : Int), deadI x)) (hx : r.ss[j]? = some x) (hb : ¬ 1000000000 < needI x) : slotI rate r = some (busyR rate r j x) := by
  unfold slotI
  rw [if_neg h, hj, if_neg (by simp)]
  simp only [Int.toNat_natCast, hx]
  rw [if_neg hb]
  rfl
theorem next_cases (r : Run) : (nextI r.ss r.t).1 < 0 ∨ ∃ (j : Nat) (x : Ses), r.ss[j]? = some x ∧ nextI r.ss r.t = ((j : Int), deadI x) ∧ 0 ≤ deadI x ∧ x.zs ≠ [] := by
  rcases nextTo_found r.ss r.t r.ss.length with h | ⟨j, y, _, h2, h3, h4, h5⟩
  · left; unfold nextI; rw [h]; decide
  · right
    refine ⟨j, y, h2, h3, h4, ?_⟩
    intro e
    simp [eligB, e] at h5
theorem up_bd {rate z : Int} (h1 : 1 ≤ rate) (h2 : 1 ≤ z ∧ z ≤ 1500) : 0 ≤ upT rate z ∧ upT rate z ≤ 1500 := by
  unfold upT
  constructor
  · exact Int.ediv_nonneg (by omega) (by omega)
  · have : (z + rate - 1) / rate < z + 1 := Int.ediv_lt_of_lt_mul (by omega) (by
      have := Int.mul_le_mul_of_nonneg_left h1 (show 0 ≤ z by omega)
      rw [Int.add_mul]; omega)
    omega
theorem runOk_idle {r : Run} {n k : Nat} (h : RunOk r n k) (ht : ¬ 100000 < r.t) : RunOk (idleR r) n (k + 1) :=
  ⟨h.ok, h.len, by have := h.t0; simp only [idleR]; omega, by simp only [idleR]; omega, by simp [idleR, h.sl], by simp [idleR, h.ll]⟩
theorem runOk_busy {rate : Int} {r : Run} {n k j : Nat} {x : Ses} (h : RunOk r n k) (ht : ¬ 100000 < r.t) (hr : 1 ≤ rate) (hx : r.ss[j]? = some x) (hz : x.zs ≠ []) (hb : ¬ 1000000000 < needI x) : RunOk (busyR rate r j x) n (k + 1) := by
  have hok := h.ok x (List.mem_of_getElem? hx)
  have hzb := head_bd hok hz
  have hu := up_bd hr hzb
  refine ⟨fun y hy => ?_, by simp [busyR, h.len], by have := h.t0; simp only [busyR]; omega, by simp only [busyR]; omega, by simp [busyR, h.sl], by simp [busyR, h.ll]⟩
  have := List.mem_or_eq_of_mem_set hy
  rcases this with h1 | rfl
  · exact h.ok y h1
  · exact serve_ok hok hz (by omega)
theorem sch_none {ss : List Ses} {rate slots : Int} {r : Run} {k : Nat} (hk : (k : Int) < slots) (h : slotsI rate (run0 ss) k = some r) (h2 : slotI rate r = none) : schRun ss rate slots = none := by
  unfold schRun
  split
  · exact slots_none (k := k + 1) (by rw [slots_succ h, h2]) (by omega)
  · rfl
theorem sch_bad {ss : List Ses} {rate slots : Int} (h : schGo ss rate slots = false) : schRun ss rate slots = none := by simp [schRun, h]
theorem sch_some {ss : List Ses} {rate slots : Int} {r : Run} {k : Nat} (hg : schGo ss rate slots = true) (hk : (k : Int) = slots) (h : slotsI rate (run0 ss) k = some r) : schRun ss rate slots = some r := by
  unfold schRun
  rw [if_pos hg, show slots.toNat = k by omega, h]
theorem trueAt_false (bs : List Bool) : trueAt 0 (bs ++ [false]) = trueAt 0 bs := by rw [trueAt_snoc]; simp
theorem trueAt_true (bs : List Bool) : trueAt 0 (bs ++ [true]) = trueAt 0 bs ++ [(bs.length : Int)] := by rw [trueAt_snoc]; simp

/-! ### A row of structs of which one is set -/
theorem take_setRow {α : Type} {enc : α → List Value} {m : Nat} (hm : ∀ a, (enc a).length = m) {xs : List α} {cs : List Value} {n k : Nat} {x : α} (hn : xs.length = n) (hk : k < n) (ht : cs.take (n * m) = xs.flatMap enc) (hl : n * m ≤ cs.length) :
    (SetRow cs (k * m) (enc x)).take (n * m) = (xs.set k x).flatMap enc := by
  have hkm : k * m + m ≤ n * m := by
    have := Nat.mul_le_mul_right m (show k + 1 ≤ n by omega)
    rw [Nat.add_mul] at this; omega
  apply List.ext_getElem?
  intro j
  rw [List.getElem?_take]
  split
  · rename_i hj
    have hm0 : 0 < m := by
      rcases Nat.eq_zero_or_pos m with h | h
      · subst h; simp at hj
      · exact h
    rw [setRow_get _ _ _ _ (by rw [hm]; omega), hm]
    have hq : j / m < n := Nat.div_lt_of_lt_mul (by rw [Nat.mul_comm]; exact hj)
    have hdm : j / m * m + j % m = j := by rw [Nat.mul_comm]; exact Nat.div_add_mod j m
    have hmod := Nat.mod_lt j hm0
    by_cases he : j / m = k
    · have h1 : k * m ≤ j ∧ j < k * m + m := by rw [he] at hdm; omega
      rw [if_pos h1]
      have hx : (xs.set k x)[k]? = some x := by rw [List.getElem?_set]; simp [hn, hk]
      have := flat_get enc m hm (xs.set k x) k (j - k * m) x hx (by omega)
      rw [← this]
      congr 1; omega
    · have h1 : ¬ (k * m ≤ j ∧ j < k * m + m) := by
        intro ⟨ha, hb⟩
        apply he
        rw [Nat.div_eq_of_lt_le (by omega) (by rw [Nat.add_mul]; omega)]
      rw [if_neg h1]
      have hxq : xs[j / m]? = some (xs[j / m]'(by omega)) := List.getElem?_eq_getElem _
      have hxs : (xs.set k x)[j / m]? = some (xs[j / m]'(by omega)) := by rw [List.getElem?_set, if_neg (fun e => he e.symm)]; exact hxq
      have h2 := flat_get enc m hm (xs.set k x) (j / m) (j % m) _ hxs hmod
      have h3 := flat_get enc m hm xs (j / m) (j % m) _ hxq hmod
      rw [hdm] at h2 h3
      rw [h2, ← h3, ← ht, List.getElem?_take, if_pos hj]
  · rename_i hj
    rw [List.getElem?_eq_none]
    rw [flat_len enc m hm, List.length_set, hn]
    omega
theorem own_setRow {α : Type} {enc : α → List Value} {m : Nat} (hm : ∀ a, (enc a).length = m) {w' : World} {base g n c k : Nat} {t : TypeId} {xs : List α} {cs : List Value} {x : α} (hn : xs.length = n) (hk : k < n) (hbg : base ≤ g) (hl : cs.length = c * m) (hnc : n ≤ c) (hcm : c ≤ maxLen)
    (ht : cs.take (n * m) = xs.flatMap enc) (hB : Blk w' g t (SetRow cs (k * m) (enc x))) : w'.ownsRow base t m (.slice (some ⟨g, 0, none⟩) n c) n ((xs.set k x).flatMap enc) := by
  have hle : n * m ≤ c * m := Nat.mul_le_mul_right m hnc
  refine ⟨by rw [flat_len enc m hm, List.length_set, hn], .inr ⟨g, c, (SetRow cs (k * m) (enc x)).toArray, rfl, hbg, hB, hnc, hcm, by simp [setRow_length, hl], ?_⟩⟩
  exact take_setRow hm hn hk ht (by omega)
theorem sesOf_set {ys : List SesV} {j : Nat} {y : SesV} : sesOf (ys.set j y) = (sesOf ys).set j y.toSes := by unfold sesOf; rw [List.map_set]
end Go.Proofs.Ytgljelhglgeojaa
