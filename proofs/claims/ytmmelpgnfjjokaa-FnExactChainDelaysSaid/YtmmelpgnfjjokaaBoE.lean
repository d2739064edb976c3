/- AddInflows: contracts of the program's and the reference's; the law's walk. -/
import Derived.Test.YtmmelpgnfjjokaaBoD
import Derived.Deep.RegionHeld3
namespace Go.Proofs.Ytmmelpgnfjjokaa
open Go.RowKit

theorem take_snoc {α : Type} {xs : List α} {k : Nat} {x : α} (h : xs[k]? = some x) : xs.take (k + 1) = xs.take k ++ [x] := by rw [List.take_add_one, h]; rfl
theorem all_false {α : Type} {xs : List α} {k : Nat} {x : α} {f : α → Bool} (h : xs[k]? = some x) (hf : f x = false) : xs.all f = false := by
  rw [List.all_eq_false]
  exact ⟨x, List.mem_of_getElem? h, by simp [hf]⟩
theorem all_get {α : Type} {xs : List α} {f : α → Bool} (h : xs.all f = true) {k : Nat} {x : α} (hx : xs[k]? = some x) : f x = true := List.all_eq_true.1 h x (List.mem_of_getElem? hx)
def sumOf {α : Type} (f : α → Int) (l : List α) : Int := (l.map f).foldl (· + ·) 0
theorem sumOf_snoc {α : Type} (f : α → Int) (l : List α) (x : α) : sumOf f (l ++ [x]) = sumOf f l + f x := by simp [sumOf]
theorem sumOf_nil {α : Type} (f : α → Int) : sumOf f [] = 0 := rfl
theorem sumOf_bd {α : Type} (f : α → Int) (V : Int) (l : List α) (h : ∀ x ∈ l, 0 ≤ f x ∧ f x ≤ V) : 0 ≤ sumOf f l ∧ sumOf f l ≤ l.length * V := by
  have key : ∀ (l : List α) (a B : Int), (∀ x ∈ l, 0 ≤ f x ∧ f x ≤ V) → 0 ≤ a → a ≤ B → 0 ≤ (l.map f).foldl (· + ·) a ∧ (l.map f).foldl (· + ·) a ≤ B + l.length * V := by
    intro l
    induction l with
    | nil => intro a B _ h0 h1; simp; omega
    | cons x l ih =>
      intro a B hl h0 h1
      have hx := hl x (by simp)
      have h2 := ih (a + f x) (B + V) (fun y hy => hl y (by simp [hy])) (by omega) (by omega)
      simp only [List.map_cons, List.foldl_cons, List.length_cons, Int.natCast_add, Int.add_mul] at h2 ⊢
      omega
  have := key l 0 0 h (by omega) (by omega)
  simpa [sumOf] using this
def inflowsOk (l : List Inflow) : Bool := l.all fun x => isInflowB x.burst x.rate
def addB (l : List Inflow) : Bool := inB l.length 1 8 && inflowsOk l && isInflowB (sumOf Inflow.burst l) (sumOf Inflow.rate l)
theorem inflows_bd {l : List Inflow} (h : inflowsOk l = true) : (0 ≤ sumOf Inflow.burst l ∧ sumOf Inflow.burst l ≤ l.length * 1000000000) ∧ (0 ≤ sumOf Inflow.rate l ∧ sumOf Inflow.rate l ≤ l.length * 100000) := by
  have h1 : ∀ x ∈ l, (0 ≤ x.burst ∧ x.burst ≤ 1000000000) ∧ (0 ≤ x.rate ∧ x.rate ≤ 100000) := fun x hx => isInflowB_iff.1 (List.all_eq_true.1 h x hx)
  exact ⟨sumOf_bd _ _ _ fun x hx => (h1 x hx).1, sumOf_bd _ _ _ fun x hx => (h1 x hx).2⟩
/-- The loop: a result's block, a sum's block. -/
def AddRel (w : World) (t : TypeId) (n : Nat) (l : List Inflow) (i : Value) (wr : World) : Prop :=
  ∃ k : Nat, k ≤ n ∧ i = .int .i64 k ∧ inflowsOk (l.take k) = true ∧ Blk wr w.heap.size t [.int .i64 0, .int .i64 0] ∧ Blk wr (w.heap.size + 1) t [.int .i64 (sumOf Inflow.burst (l.take k)), .int .i64 (sumOf Inflow.rate (l.take k))] ∧ Below w.heap.size w wr

theorem add_false {xs : List Inflow} (h : addB xs = false) (s : Int) : fp (addB xs) s = 0 := by simp [fp, h]
theorem add_true {xs : List Inflow} (h : addB xs = true) (s : Int) : fp (addB xs) s = s := by simp [fp, h]
theorem addRel_start (w : World) (t : TypeId) (n : Nat) (l : List Inflow) : AddRel w t n l (.int .i64 0) ((w.alloc (.cells #[.int .i64 0, .int .i64 0] t)).alloc (.cells #[.int .i64 0, .int .i64 0] t)) := by
  refine ⟨0, Nat.zero_le _, rfl, rfl, (Blk.new w t [.int .i64 0, .int .i64 0]).alloc _, ?_, ext_alloc (ext_alloc (ext_refl w) _) _⟩
  have h := Blk.new (w.alloc (.cells #[.int .i64 0, .int .i64 0] t)) t [.int .i64 0, .int .i64 0]
  rwa [World.size_alloc] at h
theorem ok_snoc {l : List Inflow} {k : Nat} {x : Inflow} (h : l[k]? = some x) (h0 : inflowsOk (l.take k) = true) (h1 : isInflowB x.burst x.rate = true) : inflowsOk (l.take (k + 1)) = true := by
  rw [take_snoc h]; simp only [inflowsOk, List.all_append, List.all_cons, List.all_nil, Bool.and_true, Bool.and_eq_true] at *; exact ⟨h0, h1⟩
theorem sum_snoc {l : List Inflow} {k : Nat} {x : Inflow} (h : l[k]? = some x) (f : Inflow → Int) : sumOf f (l.take (k + 1)) = sumOf f (l.take k) + f x := by rw [take_snoc h, sumOf_snoc]

theorem res_false {xs : List Inflow} (h : addB xs = false) : Ending.returned (.tuple #[.agg #[.int .i64 0, .int .i64 0], .bool false]) = .returned (.tuple #[.agg #[.int .i64 (fp (addB xs) (sumOf Inflow.burst xs)), .int .i64 (fp (addB xs) (sumOf Inflow.rate xs))], .bool (addB xs)]) := by rw [add_false h, add_false h, h]
theorem res_true {xs : List Inflow} (h : addB xs = true) : Ending.returned (.tuple #[.agg #[.int .i64 (sumOf Inflow.burst xs), .int .i64 (sumOf Inflow.rate xs)], .bool true]) = .returned (.tuple #[.agg #[.int .i64 (fp (addB xs) (sumOf Inflow.burst xs)), .int .i64 (fp (addB xs) (sumOf Inflow.rate xs))], .bool (addB xs)]) := by rw [add_true h, add_true h, h]

set_option maxHeartbeats 2000000 in
theorem implAddInflows_any (A : Option Addr) (n c : Nat) (xs : List Inflow) (w : World) (hn : n ≤ 1048576) (hr : Rd w 2 A n (xs.flatMap encInflow)) :
    Calls Try.prog 37 #[.slice A n c] w fun e w' => e = .returned (.tuple #[.agg #[.int .i64 (fp (addB xs) (sumOf Inflow.burst xs)), .int .i64 (fp (addB xs) (sumOf Inflow.rate xs))], .bool (addB xs)]) ∧ Below w.heap.size w w' := by
  have hl : xs.length = n := by have h1 := hr.1; rw [flat_len encInflow 2 encInflow_len] at h1; omega
  have HL := Lib.hid hl
  have B9 := Blk.new w 25 [.int .i64 0, .int .i64 0]
  by_cases hlen : 1 ≤ n ∧ n ≤ 8
  · clear hl
    go_enter Try.func37, Try.ntmps37
    go_wp2_with fail
    clear B9
    go_loopw [19] (AddRel w 25 n xs) (fun i _ => n - (intOf i).toNat)
    case atStart => exact addRel_start _ _ _ _
    case round =>
      obtain ⟨k, hk, rfl, hok, B0, B1, hb⟩ := hrel
      have hbd := inflows_bd hok
      have hlk : (xs.take k).length ≤ 8 := by rw [List.length_take]; omega
      have HOK := Lib.hid hok
      clear hok
      generalize hsb : sumOf Inflow.burst (xs.take k) = sb at *
      generalize hsr : sumOf Inflow.rate (xs.take k) = sr at *
      have HSB := Lib.hid hsb
      have HSR := Lib.hid hsr
      clear hsb hsr
      have q1 : sb ≤ 8000000000 := by omega
      have q2 : sr ≤ 800000 := by omega
      obtain ⟨y0, x0, d0, f0⟩ := B0.two
      obtain ⟨y1, x1, d1, f1⟩ := B1.two
      by_cases hlt : k < n
      · obtain ⟨b, o, rfl, hbl, hcell⟩ := hr.2 (by omega)
        have hblr : b < wr.heap.size := Nat.lt_of_lt_of_le hbl hb.size
        have hlx : k < xs.length := by rw [HL.out]; exact hlt
        have hx : xs[k]? = some xs[k] := List.getElem?_eq_getElem hlx
        generalize xs[k] = x at hx
        have c0 : wr.cell? ⟨b, o + (k * 2 + 0), none⟩ = some (.int .i64 x.burst) := (hb.cell (p := ⟨b, o + (k * 2 + 0), none⟩) hbl).trans (hcell _ _ ((flat_get encInflow 2 encInflow_len xs k 0 x hx (by omega)).trans rfl))
        have c1 : wr.cell? ⟨b, o + (k * 2 + 1), none⟩ = some (.int .i64 x.rate) := (hb.cell (p := ⟨b, o + (k * 2 + 1), none⟩) hbl).trans (hcell _ _ ((flat_get encInflow 2 encInflow_len xs k 1 x hx (by omega)).trans rfl))
        simp only [Nat.add_zero, ← Nat.add_assoc] at c0 c1
        have HX := Lib.hid hx
        clear hx hcell
        cases h1 : isInflowB x.burst x.rate with
        | false =>
          have hF : addB xs = false := by simp [addB, inflowsOk, all_false (f := fun x : Inflow => isInflowB x.burst x.rate) HX.out h1]
          have HF := Lib.hid hF
          clear hF
          go_wp2_with fail
          refine (implIsInflow_any _ _ _).mono ?_; rintro e w1 ⟨rfl, hb1⟩
          rw [h1]
          have C0 := (B0.alloc (.cells (List.toArray [.int .i64 x.burst, .int .i64 x.rate]) 25)).below hb1
          have z1 := ext_trans (ext_alloc hb (.cells (List.toArray [.int .i64 x.burst, .int .i64 x.rate]) 25)) hb1
          clear hb1 y0 x0 d0 f0 y1 x1 d1 f1 c0 c1
          obtain ⟨y0, x0, d0, f0⟩ := C0.two
          go_wp2_with fail
          exact bodyPost_ret (v := .tuple #[.agg #[.int .i64 0, .int .i64 0], .bool false]) (res_cell2 Try.results37 _ rfl ((C0.set_ 0 (.int .i64 0)).set_ 1 (.int .i64 0)) Try.underlying25 rfl (by kernel_rfl)) rfl ⟨res_false HF.out, ((z1.setCell (p := ⟨w.heap.size, 0, none⟩) (by simp) (.int .i64 0)).setCell (p := ⟨w.heap.size, 1, none⟩) (by simp) (.int .i64 0))⟩
        | true =>
          have hxb := isInflowB_iff.1 h1
          go_wp2_with fail
          refine (implIsInflow_any _ _ _).mono ?_; rintro e w1 ⟨rfl, hb1⟩
          rw [h1]
          have C0 := (B0.alloc (.cells (List.toArray [.int .i64 x.burst, .int .i64 x.rate]) 25)).below hb1
          have C1 := (B1.alloc (.cells (List.toArray [.int .i64 x.burst, .int .i64 x.rate]) 25)).below hb1
          have C2 := (Blk.new wr 25 [.int .i64 x.burst, .int .i64 x.rate]).below hb1
          have z1 := ext_trans (ext_alloc hb (.cells (List.toArray [.int .i64 x.burst, .int .i64 x.rate]) 25)) hb1
          clear hb1 x0 d0 f0 x1 d1 f1 c0 c1
          obtain ⟨y2, x2, d2, f2⟩ := C2.two
          obtain ⟨y3, x3, d3, f3⟩ := C1.two
          go_wp2_with fail
          go_roundw
          case rel => exact ⟨k + 1, by omega, by go_num, ok_snoc HX.out HOK.out h1, (C0.far (by simp) _).far (by simp) _, by rw [sum_snoc HX.out, sum_snoc HX.out, HSB.out, HSR.out]; exact (C1.set_ 0 _).set_ 1 _, (z1.setCell (by simp) _).setCell (by simp) _⟩
          case measure => simp [intOf]; omega
      · have ht : xs.take k = xs := List.take_of_length_le (by rw [HL.out]; omega)
        have e1 := HSB.out; have e2 := HSR.out; have e3 := HOK.out
        rw [ht] at e1 e2 e3
        cases h2 : isInflowB sb sr with
        | false =>
          have hF : addB xs = false := by simp [addB, e1, e2, h2]
          have HF := Lib.hid hF
          clear hF
          clear e1 e2 e3 ht
          go_wp2_with fail
          refine (implIsInflow_any _ _ _).mono ?_; rintro e w1 ⟨rfl, hb1⟩
          rw [h2]
          have C0 := B0.below hb1
          have z1 := ext_trans hb hb1
          clear hb1 y0 x0 d0 f0 y1 x1 d1 f1
          obtain ⟨y0, x0, d0, f0⟩ := C0.two
          go_wp2_with fail
          exact bodyPost_ret (v := .tuple #[.agg #[.int .i64 0, .int .i64 0], .bool false]) (res_cell2 Try.results37 _ rfl ((C0.set_ 0 (.int .i64 0)).set_ 1 (.int .i64 0)) Try.underlying25 rfl (by kernel_rfl)) rfl ⟨res_false HF.out, ((z1.setCell (p := ⟨w.heap.size, 0, none⟩) (by simp) (.int .i64 0)).setCell (p := ⟨w.heap.size, 1, none⟩) (by simp) (.int .i64 0))⟩
        | true =>
          have hT : addB xs = true := by simp [addB, e1, e2, e3, h2, inB, HL.out]; omega
          have HT := Lib.hid (show Ending.returned (.tuple #[.agg #[.int .i64 sb, .int .i64 sr], .bool true]) = .returned (.tuple #[.agg #[.int .i64 (fp (addB xs) (sumOf Inflow.burst xs)), .int .i64 (fp (addB xs) (sumOf Inflow.rate xs))], .bool (addB xs)]) by rw [← e1, ← e2]; exact res_true hT)
          clear e1 e2 e3 ht hT
          go_wp2_with fail
          refine (implIsInflow_any _ _ _).mono ?_; rintro e w1 ⟨rfl, hb1⟩
          rw [h2]
          have C0 := B0.below hb1
          have C1 := B1.below hb1
          have z1 := ext_trans hb hb1
          clear hb1 y0 x0 d0 f0 y1 x1 d1 f1
          obtain ⟨y0, x0, d0, f0⟩ := C0.two
          obtain ⟨y1, x1, d1, f1⟩ := C1.two
          go_wp2_with fail
          exact bodyPost_ret (v := .tuple #[.agg #[.int .i64 sb, .int .i64 sr], .bool true]) (res_cell2 Try.results37 _ rfl ((C0.set_ 0 (.int .i64 sb)).set_ 1 (.int .i64 sr)) Try.underlying25 rfl (by kernel_rfl)) rfl ⟨HT.out, ((z1.setCell (p := ⟨w.heap.size, 0, none⟩) (by simp) (.int .i64 sb)).setCell (p := ⟨w.heap.size, 1, none⟩) (by simp) (.int .i64 sr))⟩
  · have hF : addB xs = false := by simp [addB, inB, HL.out]; omega
    have HF := Lib.hid hF
    clear hl hF
    obtain ⟨y0, x0, d0, f0⟩ := B9.two
    by_cases hlo : n < 1
    · go_enter Try.func37, Try.ntmps37
      go_wp2_with fail
      all_goals first | exact (show False by omega).elim | exact bodyPost_ret (v := .tuple #[.agg #[.int .i64 0, .int .i64 0], .bool false]) (res_cell2 Try.results37 _ rfl B9 Try.underlying25 rfl (by kernel_rfl)) rfl ⟨res_false HF.out, (ext_alloc (ext_refl w) _)⟩
    · go_enter Try.func37, Try.ntmps37
      go_wp2_with fail
      all_goals first | exact (show False by omega).elim | exact bodyPost_ret (v := .tuple #[.agg #[.int .i64 0, .int .i64 0], .bool false]) (res_cell2 Try.results37 _ rfl B9 Try.underlying25 rfl (by kernel_rfl)) rfl ⟨res_false HF.out, (ext_alloc (ext_refl w) _)⟩

set_option maxHeartbeats 2000000 in
theorem specAddInflows_any (A : Option Addr) (n c : Nat) (xs : List Inflow) (w : World) (hn : n ≤ 1048576) (hr : Rd w 2 A n (xs.flatMap encInflow)) :
    Calls Try.prog 35 #[.slice A n c] w fun e w' => e = .returned (.tuple #[.agg #[.int .i64 (fp (addB xs) (sumOf Inflow.burst xs)), .int .i64 (fp (addB xs) (sumOf Inflow.rate xs))], .bool (addB xs)]) ∧ Below w.heap.size w w' := by
  have hl : xs.length = n := by have h1 := hr.1; rw [flat_len encInflow 2 encInflow_len] at h1; omega
  have HL := Lib.hid hl
  have B9 := Blk.new w 25 [.int .i64 0, .int .i64 0]
  · clear hl
    go_enter Try.func35, Try.ntmps35
    go_wp2_with fail
    clear B9
    go_loopw [10] (AddRel w 25 n xs) (fun i _ => n - (intOf i).toNat)
    case atStart => exact addRel_start _ _ _ _
    case round =>
      obtain ⟨k, hk, rfl, hok, B0, B1, hb⟩ := hrel
      have hbd := inflows_bd hok
      have hlk : (xs.take k).length ≤ 1048576 := by rw [List.length_take]; omega
      have HOK := Lib.hid hok
      clear hok
      generalize hsb : sumOf Inflow.burst (xs.take k) = sb at *
      generalize hsr : sumOf Inflow.rate (xs.take k) = sr at *
      have HSB := Lib.hid hsb
      have HSR := Lib.hid hsr
      clear hsb hsr
      have q1 : sb ≤ 1048576000000000 := by omega
      have q2 : sr ≤ 104857600000 := by omega
      obtain ⟨y0, x0, d0, f0⟩ := B0.two
      obtain ⟨y1, x1, d1, f1⟩ := B1.two
      by_cases hlt : k < n
      · obtain ⟨b, o, rfl, hbl, hcell⟩ := hr.2 (by omega)
        have hblr : b < wr.heap.size := Nat.lt_of_lt_of_le hbl hb.size
        have hlx : k < xs.length := by rw [HL.out]; exact hlt
        have hx : xs[k]? = some xs[k] := List.getElem?_eq_getElem hlx
        generalize xs[k] = x at hx
        have c0 : wr.cell? ⟨b, o + (k * 2 + 0), none⟩ = some (.int .i64 x.burst) := (hb.cell (p := ⟨b, o + (k * 2 + 0), none⟩) hbl).trans (hcell _ _ ((flat_get encInflow 2 encInflow_len xs k 0 x hx (by omega)).trans rfl))
        have c1 : wr.cell? ⟨b, o + (k * 2 + 1), none⟩ = some (.int .i64 x.rate) := (hb.cell (p := ⟨b, o + (k * 2 + 1), none⟩) hbl).trans (hcell _ _ ((flat_get encInflow 2 encInflow_len xs k 1 x hx (by omega)).trans rfl))
        simp only [Nat.add_zero, ← Nat.add_assoc] at c0 c1
        have HX := Lib.hid hx
        clear hx hcell
        cases h1 : isInflowB x.burst x.rate with
        | false =>
          have hF : addB xs = false := by simp [addB, inflowsOk, all_false (f := fun x : Inflow => isInflowB x.burst x.rate) HX.out h1]
          have HF := Lib.hid hF
          clear hF
          go_wp2_with fail
          refine (bnInflow_any _ _ _).mono ?_; rintro e w1 ⟨rfl, hb1⟩
          rw [h1]
          have C0 := (B0.alloc (.cells (List.toArray [.int .i64 x.burst, .int .i64 x.rate]) 25)).below hb1
          have z1 := ext_trans (ext_alloc hb (.cells (List.toArray [.int .i64 x.burst, .int .i64 x.rate]) 25)) hb1
          clear hb1 y0 x0 d0 f0 y1 x1 d1 f1 c0 c1
          obtain ⟨y0, x0, d0, f0⟩ := C0.two
          go_wp2_with fail
          exact bodyPost_ret (v := .tuple #[.agg #[.int .i64 0, .int .i64 0], .bool false]) (res_cell2 Try.results35 _ rfl ((C0.set_ 0 (.int .i64 0)).set_ 1 (.int .i64 0)) Try.underlying25 rfl (by kernel_rfl)) rfl ⟨res_false HF.out, ((z1.setCell (p := ⟨w.heap.size, 0, none⟩) (by simp) (.int .i64 0)).setCell (p := ⟨w.heap.size, 1, none⟩) (by simp) (.int .i64 0))⟩
        | true =>
          have hxb := isInflowB_iff.1 h1
          go_wp2_with fail
          refine (bnInflow_any _ _ _).mono ?_; rintro e w1 ⟨rfl, hb1⟩
          rw [h1]
          have C0 := (B0.alloc (.cells (List.toArray [.int .i64 x.burst, .int .i64 x.rate]) 25)).below hb1
          have C1 := (B1.alloc (.cells (List.toArray [.int .i64 x.burst, .int .i64 x.rate]) 25)).below hb1
          have C2 := (Blk.new wr 25 [.int .i64 x.burst, .int .i64 x.rate]).below hb1
          have z1 := ext_trans (ext_alloc hb (.cells (List.toArray [.int .i64 x.burst, .int .i64 x.rate]) 25)) hb1
          clear hb1 x0 d0 f0 x1 d1 f1 c0 c1
          obtain ⟨y2, x2, d2, f2⟩ := C2.two
          obtain ⟨y3, x3, d3, f3⟩ := C1.two
          go_wp2_with fail
          go_roundw
          case rel => exact ⟨k + 1, by omega, by go_num, ok_snoc HX.out HOK.out h1, (C0.far (by simp) _).far (by simp) _, by rw [sum_snoc HX.out, sum_snoc HX.out, HSB.out, HSR.out]; exact (C1.set_ 0 _).set_ 1 _, (z1.setCell (by simp) _).setCell (by simp) _⟩
          case measure => simp [intOf]; omega
      · have ht : xs.take k = xs := List.take_of_length_le (by rw [HL.out]; omega)
        have e1 := HSB.out; have e2 := HSR.out; have e3 := HOK.out
        rw [ht] at e1 e2 e3
        cases h2 : inB n 1 8 with
        | false =>
          have hF : addB xs = false := by simp [addB, HL.out, h2]
          have HF := Lib.hid hF
          clear hF
          clear e1 e2 e3 ht
          go_wp2_with fail
          refine (l1In_any _ _ _ _).mono ?_; rintro e w1 ⟨rfl, rfl⟩
          rw [h2]
          go_wp2_with fail
          exact bodyPost_ret (v := .tuple #[.agg #[.int .i64 0, .int .i64 0], .bool false]) (res_cell2 Try.results35 _ rfl ((B0.set_ 0 (.int .i64 0)).set_ 1 (.int .i64 0)) Try.underlying25 rfl (by kernel_rfl)) rfl ⟨res_false HF.out, ((hb.setCell (p := ⟨w.heap.size, 0, none⟩) (by simp) (.int .i64 0)).setCell (p := ⟨w.heap.size, 1, none⟩) (by simp) (.int .i64 0))⟩
        | true =>
          have hT : addB xs = isInflowB sb sr := by simp [addB, e1, e2, e3, HL.out, h2]
          have HT := Lib.hid (show Ending.returned (.tuple #[.agg #[.int .i64 (fp (isInflowB sb sr) sb), .int .i64 (fp (isInflowB sb sr) sr)], .bool (isInflowB sb sr)]) = .returned (.tuple #[.agg #[.int .i64 (fp (addB xs) (sumOf Inflow.burst xs)), .int .i64 (fp (addB xs) (sumOf Inflow.rate xs))], .bool (addB xs)]) by rw [hT, e1, e2])
          clear e1 e2 e3 ht hT
          go_wp2_with fail
          refine (l1In_any _ _ _ _).mono ?_; rintro e w1 ⟨rfl, rfl⟩
          rw [h2]
          go_wp2_with fail
          refine (bnIf_any _ _ _).mono ?_; rintro e w1 ⟨rfl, hb1⟩
          have C0 := B0.below hb1
          have z1 := ext_trans hb hb1
          clear hb1 y0 x0 d0 f0 y1 x1 d1 f1
          obtain ⟨y0, x0, d0, f0⟩ := C0.two
          go_wp2_with fail
          exact bodyPost_ret (v := .tuple #[.agg #[.int .i64 (fp (isInflowB sb sr) sb), .int .i64 (fp (isInflowB sb sr) sr)], .bool (isInflowB sb sr)]) (res_cell2 Try.results35 _ rfl ((C0.set_ 0 (.int .i64 (fp (isInflowB sb sr) sb))).set_ 1 (.int .i64 (fp (isInflowB sb sr) sr))) Try.underlying25 rfl (by kernel_rfl)) rfl ⟨HT.out, ((z1.setCell (p := ⟨w.heap.size, 0, none⟩) (by simp) (.int .i64 (fp (isInflowB sb sr) sb))).setCell (p := ⟨w.heap.size, 1, none⟩) (by simp) (.int .i64 (fp (isInflowB sb sr) sr)))⟩

set_option maxHeartbeats 2000000 in
theorem walkAddInflows (A : Option Addr) (n c : Nat) (l : List Inflow) (hn : n ≤ 9223372036854775807) (w : World) (hr : Rd w 2 A n (l.flatMap encInflow)) :
    Calls Try.prog 10 #[.slice A n c] w fun e w' => e = .returned (.bool true) ∧ Below w.heap.size w w' := by
  by_cases hbig : 1048576 < n
  · go_enter Try.func10, Try.ntmps10
    go_wp2_with fail
    refine (szInflowS_any A n c _ _ hn (by omega) (by omega)).mono ?_; rintro e w' ⟨rfl, rfl⟩
    have hs : (if (1048576 : Int) < (n : Int) then (-1 : Int) else 1048576 - n) = -1 := by { split <;> omega }
    rw [hs]
    clear hs
    go_wp2_with fail
    go_ret
    exact ⟨rfl, ext_refl w⟩
  have hm : n ≤ 1048576 := by omega
  go_enter Try.func10, Try.ntmps10
  go_wp2_with fail
  refine (szInflowS_any A n c _ _ hn (by omega) (by omega)).mono ?_; rintro e w' ⟨rfl, rfl⟩
  have hs : (if (1048576 : Int) < (n : Int) then (-1 : Int) else 1048576 - n) = 1048576 - n := by { split <;> omega }
  rw [hs]
  clear hs
  go_wp2_with fail
  refine (toInflowS_any A n c l _ hm hr).mono ?_; rintro e w1 ⟨g1, rfl, ow1, hb1⟩
  go_wp2_with fail
  refine (specAddInflows_any _ n _ l _ hm (Rd.of_own ow1)).mono ?_; rintro e w2 ⟨rfl, hb2⟩
  have z2 := ext_alloc (ext_trans hb1 hb2) (.cells (List.toArray [.int .i64 (fp (addB l) (sumOf Inflow.burst l)), .int .i64 (fp (addB l) (sumOf Inflow.rate l))]) 25)
  have D2 := Blk.new w2 25 [.int .i64 (fp (addB l) (sumOf Inflow.burst l)), .int .i64 (fp (addB l) (sumOf Inflow.rate l))]
  clear ow1 hb1 hb2
  go_wp2_with fail
  refine (toInflowS_any A n c l _ hm (hr.below z2)).mono ?_; rintro e w3 ⟨g3, rfl, ow3, hb3⟩
  have z3 := ext_trans z2 hb3
  have D3 := D2.below hb3
  clear hb3 z2 D2
  go_wp2_with fail
  refine (implAddInflows_any _ n _ l _ hm (Rd.of_own ow3)).mono ?_; rintro e w4 ⟨rfl, hb4⟩
  have z4 := ext_alloc (ext_trans z3 hb4) (.cells (List.toArray [.int .i64 (fp (addB l) (sumOf Inflow.burst l)), .int .i64 (fp (addB l) (sumOf Inflow.rate l))]) 25)
  have D4 := (D3.below hb4).alloc (.cells (List.toArray [.int .i64 (fp (addB l) (sumOf Inflow.burst l)), .int .i64 (fp (addB l) (sumOf Inflow.rate l))]) 25)
  have ow4 := own_ext (own_ext ow3 hb4) (ext_alloc (ext_refl w4) (.cells (List.toArray [.int .i64 (fp (addB l) (sumOf Inflow.burst l)), .int .i64 (fp (addB l) (sumOf Inflow.rate l))]) 25))
  obtain ⟨y4, x4, c4, f4⟩ := (D3.below hb4).two
  clear hb4 z3 D3 ow3
  go_wp2_with fail
  refine (eqInflow_same _ _ _ ).mono ?_; rintro e w5 ⟨rfl, hb5⟩
  have z5 := ext_trans z4 hb5
  have ow5 := own_ext ow4 hb5
  clear hb5 z4 D4 ow4 y4 x4 c4 f4
  go_wp2_with fail
  refine (toInflowS_any A n c l _ hm (hr.below z5)).mono ?_; rintro e w6 ⟨g6, rfl, ow6, hb6⟩
  have z6 := ext_trans z5 hb6
  have ow56 := own_ext ow5 hb6
  go_wp2_with fail
  refine (eqInflowS_same _ _ n _ _ l _ hm (Rd.of_own ow56) (Rd.of_own ow6)).mono ?_; rintro e w7 ⟨rfl, hb7⟩
  go_wp2_with fail
  go_ret
  exact ⟨rfl, ext_trans z6 hb7⟩

end Go.Proofs.Ytmmelpgnfjjokaa