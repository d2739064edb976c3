/- Timed packets: contracts of IsPacket, areTimed and the reference's. -/
import Derived.Test.YtnnihiajggdplaaTrA
import Derived.Test.YtnnihiajggdplaaApp
namespace Go.Proofs.Ytnnihiajggdplaa
open Go.RowKit


/-! ### Rows whose elements are good and whose keys do not fall -/
def stepB {α : Type} (ok : α → Bool) (key : α → Int) (xs : List α) (k : Nat) : Bool :=
  match xs[k]? with
  | none => true
  | some x => ok x && (match k with
    | 0 => true
    | j + 1 => match xs[j]? with
      | none => true
      | some y => decide (key y ≤ key x))
def chainB {α : Type} (ok : α → Bool) (key : α → Int) (xs : List α) : Bool := (List.range xs.length).all (stepB ok key xs)
theorem chain_false {α : Type} {ok : α → Bool} {key : α → Int} {xs : List α} {k : Nat} (hk : k < xs.length) (h : stepB ok key xs k = false) : chainB ok key xs = false := by
  unfold chainB
  rw [List.all_eq_false]
  exact ⟨k, List.mem_range.2 hk, by simp [h]⟩
theorem chain_true {α : Type} {ok : α → Bool} {key : α → Int} {xs : List α} (h : ∀ k, k < xs.length → stepB ok key xs k = true) : chainB ok key xs = true := by
  unfold chainB
  rw [List.all_eq_true]
  exact fun k hk => h k (List.mem_range.1 hk)
theorem chain_at {α : Type} {ok : α → Bool} {key : α → Int} {xs : List α} (h : chainB ok key xs = true) {k : Nat} {x : α} (hx : xs[k]? = some x) : ok x = true ∧ ∀ j y, k = j + 1 → xs[j]? = some y → key y ≤ key x := by
  unfold chainB at h
  have hk : k < xs.length := (List.getElem?_eq_some_iff.1 hx).1
  have h1 := List.all_eq_true.1 h k (List.mem_range.2 hk)
  unfold stepB at h1
  rw [hx] at h1
  simp only [Bool.and_eq_true] at h1
  refine ⟨h1.1, fun j y hj hy => ?_⟩
  subst hj
  have h2 := h1.2
  simp only [hy, decide_eq_true_eq] at h2
  exact h2
theorem step_bad {α : Type} {ok : α → Bool} {key : α → Int} {xs : List α} {k : Nat} {x : α} (hx : xs[k]? = some x) (h : ok x = false) : stepB ok key xs k = false := by simp [stepB, hx, h]
theorem step_zero {α : Type} {ok : α → Bool} {key : α → Int} {xs : List α} {x : α} (hx : xs[0]? = some x) (h : ok x = true) : stepB ok key xs 0 = true := by simp [stepB, hx, h]
theorem step_succ {α : Type} {ok : α → Bool} {key : α → Int} {xs : List α} {j : Nat} {x y : α} (hx : xs[j + 1]? = some x) (hy : xs[j]? = some y) (h : ok x = true) : stepB ok key xs (j + 1) = decide (key y ≤ key x) := by simp [stepB, hx, hy, h]

def ChainRel {α : Type} (w : World) (n : Nat) (ok : α → Bool) (key : α → Int) (xs : List α) (i : Value) (wr : World) : Prop :=
  ∃ k : Nat, k ≤ n ∧ i = .int .i64 k ∧ (∀ j, j < k → stepB ok key xs j = true) ∧ Below w.heap.size w wr
theorem chainRel_zero {α : Type} {w wr : World} {n k : Nat} {ok : α → Bool} {key : α → Int} {xs : List α} {x : α} (hk : k = 0) (hx : xs[k]? = some x) (h : ok x = true) (hlt : k < n) (hb : Below w.heap.size w wr) : ChainRel w n ok key xs (.int .i64 ((k : Int) + 1)) wr := by
  subst hk
  refine ⟨1, by omega, by simp, fun j hj => ?_, hb⟩
  obtain rfl : j = 0 := by omega
  exact step_zero hx h
theorem chainRel_succ {α : Type} {w wr : World} {n k j : Nat} {ok : α → Bool} {key : α → Int} {xs : List α} {x y : α} (hk : k = j + 1) (hx : xs[k]? = some x) (hy : xs[j]? = some y) (h : ok x = true) (hle : key y ≤ key x)
    (hch : ∀ j, j < k → stepB ok key xs j = true) (hlt : k < n) (hb : Below w.heap.size w wr) : ChainRel w n ok key xs (.int .i64 ((k : Int) + 1)) wr := by
  refine ⟨k + 1, by omega, by simp, fun i hi => ?_, hb⟩
  by_cases hik : i = k
  · subst hik
    subst hk
    rw [step_succ hx hy h]
    simpa using hle
  · exact hch i (by omega)
theorem step_down {α : Type} {ok : α → Bool} {key : α → Int} {xs : List α} {k j : Nat} {x y : α} (hk : k = j + 1) (hx : xs[k]? = some x) (hy : xs[j]? = some y) (hle : key x < key y) : stepB ok key xs k = false := by
  subst hk
  simp [stepB, hx, hy]
  intro _; omega

def packOk (p : Packet) : Bool := inB p.id 1 100000 && (([p.source, p.dest, p.port, p.mark] : List Int).all fun x => inB x 0 65535) && inB p.size 1 1500
theorem seven_of {W : World} {g : Nat} {t : TypeId} {a b c d e f k : Value} (h : Blk W g t [a, b, c, d, e, f, k]) : W.cell? ⟨g, 0, none⟩ = some a ∧ W.cell? ⟨g, 1, none⟩ = some b ∧ W.cell? ⟨g, 2, none⟩ = some c ∧ W.cell? ⟨g, 3, none⟩ = some d ∧ W.cell? ⟨g, 4, none⟩ = some e ∧ W.cell? ⟨g, 5, none⟩ = some f ∧ W.cell? ⟨g, 6, none⟩ = some k := ⟨h.cell 0, h.cell 1, h.cell 2, h.cell 3, h.cell 4, h.cell 5, h.cell 6⟩
def timedOk (x : Timed) : Bool := inB x.tick 0 100000 && packOk x.packet
def timedB (xs : List Timed) : Bool := chainB timedOk Timed.tick xs && decide (xs.length ≤ 60)
theorem timedOk_bad1 {x : Timed} (h : inB x.tick 0 100000 = false) : timedOk x = false := by simp [timedOk, h]
theorem timedOk_bad2 {x : Timed} (h : packOk x.packet = false) : timedOk x = false := by simp [timedOk, h]
theorem timedOk_mk {x : Timed} (h1 : inB x.tick 0 100000 = true) (h2 : packOk x.packet = true) : timedOk x = true := by simp [timedOk, h1, h2]
theorem timed_at {xs : List Timed} (h : timedB xs = true) {k : Nat} {x : Timed} (hx : xs[k]? = some x) : (0 ≤ x.tick ∧ x.tick ≤ 100000) ∧ (1 ≤ x.packet.size ∧ x.packet.size ≤ 1500) := by
  simp only [timedB, Bool.and_eq_true] at h
  have h1 := (chain_at h.1 hx).1
  simp only [timedOk, packOk, Bool.and_eq_true, inB_iff] at h1
  exact ⟨h1.1, h1.2.2⟩
theorem timed_len {xs : List Timed} (h : timedB xs = true) : xs.length ≤ 60 := by simp only [timedB, Bool.and_eq_true, decide_eq_true_eq] at h; exact h.2

set_option maxHeartbeats 400000 in
theorem pkWord_any (n : Int) (w : World) :
    Calls Try.prog 85 #[.int .i64 n] w fun e w' => e = .returned (.bool (inB n 0 65535)) ∧ w = w' := by
  go_enter Try.func85, Try.ntmps85
  go_wp2_with (go_at_call 55; refine (l1In_any _ _ _ _).mono ?_; rintro e w' ⟨rfl, rfl⟩)
  go_ret
  exact ⟨rfl, rfl⟩

set_option maxRecDepth 100000 in
set_option maxHeartbeats 4000000 in
theorem pkGood_any (p : Packet) (w : World) :
    Calls Try.prog 80 #[.agg #[.int .i64 p.id, .int .i64 p.source, .int .i64 p.dest, .int .i64 p.port, .int .i64 p.mark, .int .i64 p.size]] w fun e w' => e = .returned (.bool (packOk p)) ∧ Below w.heap.size w w' := by
  cases h0 : inB p.id 1 100000 with
  | false =>
    go_enter Try.func80, Try.ntmps80
    go_wp2_with (first | (go_at_call 55; refine (l1In_any _ _ _ _).mono ?_; rintro e w' ⟨rfl, rfl⟩) | (go_at_call 85; refine (pkWord_any _ _).mono ?_; rintro e w' ⟨rfl, rfl⟩))
    go_ret
    exact ⟨ret_bool (by simp [packOk, h0]), ext_alloc (ext_refl w) _⟩
  | true =>
    cases h1 : inB p.source 0 65535 with
    | false =>
      go_enter Try.func80, Try.ntmps80
      go_wp2_with (first | (go_at_call 55; refine (l1In_any _ _ _ _).mono ?_; rintro e w' ⟨rfl, rfl⟩) | (go_at_call 85; refine (pkWord_any _ _).mono ?_; rintro e w' ⟨rfl, rfl⟩))
      go_ret
      exact ⟨ret_bool (by simp [packOk, h0, h1]), ext_alloc (ext_refl w) _⟩
    | true =>
      cases h2 : inB p.dest 0 65535 with
      | false =>
        go_enter Try.func80, Try.ntmps80
        go_wp2_with (first | (go_at_call 55; refine (l1In_any _ _ _ _).mono ?_; rintro e w' ⟨rfl, rfl⟩) | (go_at_call 85; refine (pkWord_any _ _).mono ?_; rintro e w' ⟨rfl, rfl⟩))
        go_ret
        exact ⟨ret_bool (by simp [packOk, h0, h1, h2]), ext_alloc (ext_refl w) _⟩
      | true =>
        cases h3 : inB p.port 0 65535 with
        | false =>
          go_enter Try.func80, Try.ntmps80
          go_wp2_with (first | (go_at_call 55; refine (l1In_any _ _ _ _).mono ?_; rintro e w' ⟨rfl, rfl⟩) | (go_at_call 85; refine (pkWord_any _ _).mono ?_; rintro e w' ⟨rfl, rfl⟩))
          go_ret
          exact ⟨ret_bool (by simp [packOk, h0, h1, h2, h3]), ext_alloc (ext_refl w) _⟩
        | true =>
          cases h4 : inB p.mark 0 65535 with
          | false =>
            go_enter Try.func80, Try.ntmps80
            go_wp2_with (first | (go_at_call 55; refine (l1In_any _ _ _ _).mono ?_; rintro e w' ⟨rfl, rfl⟩) | (go_at_call 85; refine (pkWord_any _ _).mono ?_; rintro e w' ⟨rfl, rfl⟩))
            go_ret
            exact ⟨ret_bool (by simp [packOk, h0, h1, h2, h3, h4]), ext_alloc (ext_refl w) _⟩
          | true =>
            cases h5 : inB p.size 1 1500 with
            | false =>
              go_enter Try.func80, Try.ntmps80
              go_wp2_with (first | (go_at_call 55; refine (l1In_any _ _ _ _).mono ?_; rintro e w' ⟨rfl, rfl⟩) | (go_at_call 85; refine (pkWord_any _ _).mono ?_; rintro e w' ⟨rfl, rfl⟩))
              go_ret
              exact ⟨ret_bool (by simp [packOk, h0, h1, h2, h3, h4, h5]), ext_alloc (ext_refl w) _⟩
            | true =>
              go_enter Try.func80, Try.ntmps80
              go_wp2_with (first | (go_at_call 55; refine (l1In_any _ _ _ _).mono ?_; rintro e w' ⟨rfl, rfl⟩) | (go_at_call 85; refine (pkWord_any _ _).mono ?_; rintro e w' ⟨rfl, rfl⟩))
              go_ret
              exact ⟨ret_bool (by simp [packOk, h0, h1, h2, h3, h4, h5]), ext_alloc (ext_refl w) _⟩

set_option maxHeartbeats 1000000 in
theorem fieldsOf_any (p : Packet) (w : World) :
    Calls Try.prog 86 #[.agg #[.int .i64 p.id, .int .i64 p.source, .int .i64 p.dest, .int .i64 p.port, .int .i64 p.mark, .int .i64 p.size]] w fun e w' => e = .returned (.agg #[.int .i64 p.source, .int .i64 p.dest, .int .i64 p.port, .int .i64 p.mark]) ∧ Below w.heap.size w w' := by
  go_enter Try.func86, Try.ntmps86
  go_wp2
  refine bodyPost_ret (v := .agg #[.int .i64 p.source, .int .i64 p.dest, .int .i64 p.port, .int .i64 p.mark]) (by simp [results, Try.results86, go_sem]) rfl ⟨rfl, ?_⟩
  exact ext_alloc (ext_alloc (ext_refl w) _) _

set_option maxRecDepth 100000 in
set_option maxHeartbeats 4000000 in
theorem isPacket_any (p : Packet) (w : World) :
    Calls Try.prog 82 #[.agg #[.int .i64 p.id, .int .i64 p.source, .int .i64 p.dest, .int .i64 p.port, .int .i64 p.mark, .int .i64 p.size]] w fun e w' => e = .returned (.bool (packOk p)) ∧ Below w.heap.size w w' := by
  have B0 := Blk.new w 56 [.int .i64 p.id, .int .i64 p.source, .int .i64 p.dest, .int .i64 p.port, .int .i64 p.mark, .int .i64 p.size]
  have z0 := ext_alloc (ext_refl w) (.cells (List.toArray [.int .i64 p.id, .int .i64 p.source, .int .i64 p.dest, .int .i64 p.port, .int .i64 p.mark, .int .i64 p.size]) 56)
  go_enter Try.func82, Try.ntmps82
  go_wp2_with fail
  refine (fieldsOf_any p _).mono ?_; rintro e w1 ⟨rfl, hb1⟩
  have D0 := B0.below hb1
  have z1 := ext_trans z0 hb1
  clear hb1 B0 z0
  obtain ⟨y0, x0, d0, f0⟩ := D0.six
  go_wp2_with fail
  go_loop [7] (AllRel 4 [p.source, p.dest, p.port, p.mark] 0 65535) (fun i => 4 - (intOf i).toNat)
  case atStart => exact ⟨0, Nat.zero_le _, rfl, by simp⟩
  case round =>
    obtain ⟨k, hk, rfl, ha⟩ := hrel
    by_cases hlt : k < 4
    · obtain ⟨y, hy, hx⟩ : ∃ y, (∀ W, (Instr.index 68 (.agg #[.int .i64 p.source, .int .i64 p.dest, .int .i64 p.port, .int .i64 p.mark]) (.int .i64 (k : Int))).run Try.prog W = .ok (.int .i64 y) W) ∧ ([p.source, p.dest, p.port, p.mark] : List Int)[k]? = some y := by
        match k, hlt with
        | 0, _ => exact ⟨p.source, fun _ => by kernel_rfl, rfl⟩
        | 1, _ => exact ⟨p.dest, fun _ => by kernel_rfl, rfl⟩
        | 2, _ => exact ⟨p.port, fun _ => by kernel_rfl, rfl⟩
        | 3, _ => exact ⟨p.mark, fun _ => by kernel_rfl, rfl⟩
      have HX := Lib.hid hx
      have HA := Lib.hid ha
      clear hx ha
      by_cases h0 : y < 0
      · have HI := Lib.hid (show inB y 0 65535 = false by simp [inB]; omega)
        go_wp2_with fail
        go_ret
        exact ⟨ret_bool (by rw [packOk, all_false HX.out HI.out]; simp), z1⟩
      · by_cases h1 : 65535 < y
        · have HI := Lib.hid (show inB y 0 65535 = false by simp [inB]; omega)
          go_wp2_with fail
          go_ret
          exact ⟨ret_bool (by rw [packOk, all_false HX.out HI.out]; simp), z1⟩
        · have HI := Lib.hid (show inB y 0 65535 = true by simp [inB]; omega)
          go_wp2_with fail
          go_round
          case rel => exact ⟨k + 1, by omega, by go_num, by rw [take_snoc HX.out, List.all_append, HA.out]; simp [HI.out]⟩
          case measure => simp [intOf]; omega
    · have HA := Lib.hid (show (([p.source, p.dest, p.port, p.mark] : List Int).all fun x => inB x 0 65535) = true by rw [List.take_of_length_le (by simp; omega)] at ha; exact ha)
      clear ha
      go_wp2_with fail
      all_goals (go_ret; refine ⟨ret_bool ?_, z1⟩; rw [packOk, HA.out]; simp [inB, *] <;> omega)

end Go.Proofs.Ytnnihiajggdplaa