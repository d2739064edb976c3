/- ChainServices: contracts of the program's and the reference's; the law's walk. -/
import Derived.Test.YtmmelpgnfjjokaaBoE
import Derived.Deep.RegionHeld3
namespace Go.Proofs.Ytmmelpgnfjjokaa
open Go.RowKit

def servicesOk (l : List Service) : Bool := l.all fun x => isServiceB x.rate x.delay
def chRate (l : List Service) : Int := (l.map Service.rate).foldl min 100000
def chDelay (l : List Service) : Int := sumOf Service.delay l
def chainOk (l : List Service) : Bool := inB l.length 1 8 && servicesOk l && isServiceB (chRate l) (chDelay l)
theorem chRate_snoc (l : List Service) (x : Service) : chRate (l ++ [x]) = min (chRate l) x.rate := by simp [chRate]
theorem services_bd {l : List Service} (h : servicesOk l = true) : (1 ≤ chRate l ∧ chRate l ≤ 100000) ∧ (0 ≤ chDelay l ∧ chDelay l ≤ l.length * 10000) := by
  have h1 : ∀ x ∈ l, (1 ≤ x.rate ∧ x.rate ≤ 100000) ∧ (0 ≤ x.delay ∧ x.delay ≤ 10000) := fun x hx => isServiceB_iff.1 (List.all_eq_true.1 h x hx)
  refine ⟨?_, sumOf_bd _ _ _ fun x hx => (h1 x hx).2⟩
  have key : ∀ (l : List Service) (a : Int), (∀ x ∈ l, 1 ≤ x.rate) → 1 ≤ a → a ≤ 100000 → 1 ≤ (l.map Service.rate).foldl min a ∧ (l.map Service.rate).foldl min a ≤ 100000 := by
    intro l
    induction l with
    | nil => intro a _ h0 h1; exact ⟨h0, h1⟩
    | cons x l ih =>
      intro a hl h0 h1
      have hx := hl x (by simp)
      exact ih (min a x.rate) (fun y hy => hl y (by simp [hy])) (by omega) (by omega)
  exact key l 100000 (fun x hx => (h1 x hx).1.1) (by omega) (by omega)
/-- The loop: a result's block, the sum's block. -/
def ChRel (w : World) (t : TypeId) (n : Nat) (l : List Service) (i : Value) (wr : World) : Prop :=
  ∃ k : Nat, k ≤ n ∧ i = .int .i64 k ∧ servicesOk (l.take k) = true ∧ Blk wr w.heap.size t [.int .i64 0, .int .i64 0] ∧ Blk wr (w.heap.size + 1) t [.int .i64 (chRate (l.take k)), .int .i64 (chDelay (l.take k))] ∧ Below w.heap.size w wr
theorem ch_false {xs : List Service} (h : chainOk xs = false) (s : Int) : fp (chainOk xs) s = 0 := by simp [fp, h]
theorem ch_true {xs : List Service} (h : chainOk xs = true) (s : Int) : fp (chainOk xs) s = s := by simp [fp, h]
theorem chRel_start (w : World) (t : TypeId) (n : Nat) (l : List Service) : ChRel w t n l (.int .i64 0) ((w.alloc (.cells #[.int .i64 0, .int .i64 0] t)).alloc (.cells #[.int .i64 100000, .int .i64 0] t)) := by
  refine ⟨0, Nat.zero_le _, rfl, rfl, (Blk.new w t [.int .i64 0, .int .i64 0]).alloc _, ?_, ext_alloc (ext_alloc (ext_refl w) _) _⟩
  have h := Blk.new (w.alloc (.cells #[.int .i64 0, .int .i64 0] t)) t [.int .i64 100000, .int .i64 0]
  rwa [World.size_alloc] at h
theorem sok_snoc {l : List Service} {k : Nat} {x : Service} (h : l[k]? = some x) (h0 : servicesOk (l.take k) = true) (h1 : isServiceB x.rate x.delay = true) : servicesOk (l.take (k + 1)) = true := by
  rw [take_snoc h]; simp only [servicesOk, List.all_append, List.all_cons, List.all_nil, Bool.and_true, Bool.and_eq_true] at *; exact ⟨h0, h1⟩
theorem ch_snoc {l : List Service} {k : Nat} {x : Service} (h : l[k]? = some x) : chRate (l.take (k + 1)) = min (chRate (l.take k)) x.rate ∧ chDelay (l.take (k + 1)) = chDelay (l.take k) + x.delay := by
  rw [take_snoc h, chRate_snoc, chDelay, sumOf_snoc]; exact ⟨rfl, rfl⟩

theorem res_falseC {xs : List Service} (h : chainOk xs = false) : Ending.returned (.tuple #[.agg #[.int .i64 0, .int .i64 0], .bool false]) = .returned (.tuple #[.agg #[.int .i64 (fp (chainOk xs) (chRate xs)), .int .i64 (fp (chainOk xs) (chDelay xs))], .bool (chainOk xs)]) := by rw [ch_false h, ch_false h, h]
theorem res_trueC {xs : List Service} (h : chainOk xs = true) : Ending.returned (.tuple #[.agg #[.int .i64 (chRate xs), .int .i64 (chDelay xs)], .bool true]) = .returned (.tuple #[.agg #[.int .i64 (fp (chainOk xs) (chRate xs)), .int .i64 (fp (chainOk xs) (chDelay xs))], .bool (chainOk xs)]) := by rw [ch_true h, ch_true h, h]

set_option maxHeartbeats 2000000 in
theorem implChainServices_any (A : Option Addr) (n c : Nat) (xs : List Service) (w : World) (hn : n ≤ 1048576) (hr : Rd w 2 A n (xs.flatMap encService)) :
    Calls Try.prog 42 #[.slice A n c] w fun e w' => e = .returned (.tuple #[.agg #[.int .i64 (fp (chainOk xs) (chRate xs)), .int .i64 (fp (chainOk xs) (chDelay xs))], .bool (chainOk xs)]) ∧ Below w.heap.size w w' := by
  have hl : xs.length = n := by have h1 := hr.1; rw [flat_len encService 2 encService_len] at h1; omega
  have HL := Lib.hid hl
  have B9 := Blk.new w 31 [.int .i64 0, .int .i64 0]
  by_cases hlen : 1 ≤ n ∧ n ≤ 8
  · clear hl
    go_enter Try.func42, Try.ntmps42
    go_wp2_with fail
    clear B9
    go_loopw [19] (ChRel w 31 n xs) (fun i _ => n - (intOf i).toNat)
    case atStart => exact chRel_start _ _ _ _
    case round =>
      obtain ⟨k, hk, rfl, hok, B0, B1, hb⟩ := hrel
      have hbd := services_bd hok
      have hlk : (xs.take k).length ≤ 8 := by rw [List.length_take]; omega
      have HOK := Lib.hid hok
      clear hok
      generalize hsb : chRate (xs.take k) = sb at *
      generalize hsr : chDelay (xs.take k) = sr at *
      have HSB := Lib.hid hsb
      have HSR := Lib.hid hsr
      clear hsb hsr
      have q2 : sr ≤ 80000 := by omega
      obtain ⟨y0, x0, d0, f0⟩ := B0.two
      obtain ⟨y1, x1, d1, f1⟩ := B1.two
      by_cases hlt : k < n
      · obtain ⟨b, o, rfl, hbl, hcell⟩ := hr.2 (by omega)
        have hblr : b < wr.heap.size := Nat.lt_of_lt_of_le hbl hb.size
        have hlx : k < xs.length := by rw [HL.out]; exact hlt
        have hx : xs[k]? = some xs[k] := List.getElem?_eq_getElem hlx
        generalize xs[k] = x at hx
        have c0 : wr.cell? ⟨b, o + (k * 2 + 0), none⟩ = some (.int .i64 x.rate) := (hb.cell (p := ⟨b, o + (k * 2 + 0), none⟩) hbl).trans (hcell _ _ ((flat_get encService 2 encService_len xs k 0 x hx (by omega)).trans rfl))
        have c1 : wr.cell? ⟨b, o + (k * 2 + 1), none⟩ = some (.int .i64 x.delay) := (hb.cell (p := ⟨b, o + (k * 2 + 1), none⟩) hbl).trans (hcell _ _ ((flat_get encService 2 encService_len xs k 1 x hx (by omega)).trans rfl))
        simp only [Nat.add_zero, ← Nat.add_assoc] at c0 c1
        have HX := Lib.hid hx
        clear hx hcell
        cases h1 : isServiceB x.rate x.delay with
        | false =>
          have hF : chainOk xs = false := by simp [chainOk, servicesOk, all_false (f := fun x : Service => isServiceB x.rate x.delay) HX.out h1]
          have HF := Lib.hid hF
          clear hF
          go_wp2_with fail
          refine (implIsService_any _ _ _).mono ?_; rintro e w1 ⟨rfl, hb1⟩
          rw [h1]
          have C0 := (B0.alloc (.cells (List.toArray [.int .i64 x.rate, .int .i64 x.delay]) 31)).below hb1
          have z1 := ext_trans (ext_alloc hb (.cells (List.toArray [.int .i64 x.rate, .int .i64 x.delay]) 31)) hb1
          clear hb1 y0 x0 d0 f0 y1 x1 d1 f1 c0 c1
          obtain ⟨y0, x0, d0, f0⟩ := C0.two
          go_wp2_with fail
          exact bodyPost_ret (v := .tuple #[.agg #[.int .i64 0, .int .i64 0], .bool false]) (res_cell2 Try.results42 _ rfl ((C0.set_ 0 (.int .i64 0)).set_ 1 (.int .i64 0)) Try.underlying31 rfl (by kernel_rfl)) rfl ⟨res_falseC HF.out, ((z1.setCell (p := ⟨w.heap.size, 0, none⟩) (by simp) (.int .i64 0)).setCell (p := ⟨w.heap.size, 1, none⟩) (by simp) (.int .i64 0))⟩
        | true =>
          have hxb := isServiceB_iff.1 h1
          by_cases hmin : sb ≤ x.rate
          · have hmn : min sb x.rate = sb := by omega
            have HMN := Lib.hid hmn
            clear hmn
            go_wp2_with fail
            refine (implIsService_any _ _ _).mono ?_; rintro e w1 ⟨rfl, hb1⟩
            rw [h1]
            have C0 := (B0.alloc (.cells (List.toArray [.int .i64 x.rate, .int .i64 x.delay]) 31)).below hb1
            have C1 := (B1.alloc (.cells (List.toArray [.int .i64 x.rate, .int .i64 x.delay]) 31)).below hb1
            have C2 := (Blk.new wr 31 [.int .i64 x.rate, .int .i64 x.delay]).below hb1
            have z1 := ext_trans (ext_alloc hb (.cells (List.toArray [.int .i64 x.rate, .int .i64 x.delay]) 31)) hb1
            clear hb1 x0 d0 f0 x1 d1 f1 c0 c1
            obtain ⟨y2, x2, d2, f2⟩ := C2.two
            obtain ⟨y3, x3, d3, f3⟩ := C1.two
            go_wp2_with fail
            go_roundw
            case rel => exact ⟨k + 1, by omega, by go_num, sok_snoc HX.out HOK.out h1, (C0.far (by simp) _).far (by simp) _, by rw [(ch_snoc HX.out).1, (ch_snoc HX.out).2, HSB.out, HSR.out, HMN.out]; exact (C1.set_ 0 _).set_ 1 _, (z1.setCell (by simp) _).setCell (by simp) _⟩
            case measure => simp [intOf]; omega

          · have hmn : min sb x.rate = x.rate := by omega
            have HMN := Lib.hid hmn
            clear hmn
            go_wp2_with fail
            refine (implIsService_any _ _ _).mono ?_; rintro e w1 ⟨rfl, hb1⟩
            rw [h1]
            have C0 := (B0.alloc (.cells (List.toArray [.int .i64 x.rate, .int .i64 x.delay]) 31)).below hb1
            have C1 := (B1.alloc (.cells (List.toArray [.int .i64 x.rate, .int .i64 x.delay]) 31)).below hb1
            have C2 := (Blk.new wr 31 [.int .i64 x.rate, .int .i64 x.delay]).below hb1
            have z1 := ext_trans (ext_alloc hb (.cells (List.toArray [.int .i64 x.rate, .int .i64 x.delay]) 31)) hb1
            clear hb1 x0 d0 f0 x1 d1 f1 c0 c1
            obtain ⟨y2, x2, d2, f2⟩ := C2.two
            obtain ⟨y3, x3, d3, f3⟩ := C1.two
            go_wp2_with fail
            go_roundw
            case rel => exact ⟨k + 1, by omega, by go_num, sok_snoc HX.out HOK.out h1, (C0.far (by simp) _).far (by simp) _, by rw [(ch_snoc HX.out).1, (ch_snoc HX.out).2, HSB.out, HSR.out, HMN.out]; exact (C1.set_ 0 _).set_ 1 _, (z1.setCell (by simp) _).setCell (by simp) _⟩
            case measure => simp [intOf]; omega

      · have ht : xs.take k = xs := List.take_of_length_le (by rw [HL.out]; omega)
        have e1 := HSB.out; have e2 := HSR.out; have e3 := HOK.out
        rw [ht] at e1 e2 e3
        cases h2 : isServiceB sb sr with
        | false =>
          have hF : chainOk xs = false := by simp [chainOk, e1, e2, h2]
          have HF := Lib.hid hF
          clear hF
          clear e1 e2 e3 ht
          go_wp2_with fail
          refine (implIsService_any _ _ _).mono ?_; rintro e w1 ⟨rfl, hb1⟩
          rw [h2]
          have C0 := B0.below hb1
          have z1 := ext_trans hb hb1
          clear hb1 y0 x0 d0 f0 y1 x1 d1 f1
          obtain ⟨y0, x0, d0, f0⟩ := C0.two
          go_wp2_with fail
          exact bodyPost_ret (v := .tuple #[.agg #[.int .i64 0, .int .i64 0], .bool false]) (res_cell2 Try.results42 _ rfl ((C0.set_ 0 (.int .i64 0)).set_ 1 (.int .i64 0)) Try.underlying31 rfl (by kernel_rfl)) rfl ⟨res_falseC HF.out, ((z1.setCell (p := ⟨w.heap.size, 0, none⟩) (by simp) (.int .i64 0)).setCell (p := ⟨w.heap.size, 1, none⟩) (by simp) (.int .i64 0))⟩
        | true =>
          have hT : chainOk xs = true := by simp [chainOk, e1, e2, e3, h2, inB, HL.out]; omega
          have HT := Lib.hid (show Ending.returned (.tuple #[.agg #[.int .i64 sb, .int .i64 sr], .bool true]) = .returned (.tuple #[.agg #[.int .i64 (fp (chainOk xs) (chRate xs)), .int .i64 (fp (chainOk xs) (chDelay xs))], .bool (chainOk xs)]) by rw [← e1, ← e2]; exact res_trueC hT)
          clear e1 e2 e3 ht hT
          go_wp2_with fail
          refine (implIsService_any _ _ _).mono ?_; rintro e w1 ⟨rfl, hb1⟩
          rw [h2]
          have C0 := B0.below hb1
          have C1 := B1.below hb1
          have z1 := ext_trans hb hb1
          clear hb1 y0 x0 d0 f0 y1 x1 d1 f1
          obtain ⟨y0, x0, d0, f0⟩ := C0.two
          obtain ⟨y1, x1, d1, f1⟩ := C1.two
          go_wp2_with fail
          exact bodyPost_ret (v := .tuple #[.agg #[.int .i64 sb, .int .i64 sr], .bool true]) (res_cell2 Try.results42 _ rfl ((C0.set_ 0 (.int .i64 sb)).set_ 1 (.int .i64 sr)) Try.underlying31 rfl (by kernel_rfl)) rfl ⟨HT.out, ((z1.setCell (p := ⟨w.heap.size, 0, none⟩) (by simp) (.int .i64 sb)).setCell (p := ⟨w.heap.size, 1, none⟩) (by simp) (.int .i64 sr))⟩
  · have hF : chainOk xs = false := by simp [chainOk, inB, HL.out]; omega
    have HF := Lib.hid hF
    clear hl hF
    obtain ⟨y0, x0, d0, f0⟩ := B9.two
    by_cases hlo : n < 1
    · go_enter Try.func42, Try.ntmps42
      go_wp2_with fail
      all_goals first | exact (show False by omega).elim | exact bodyPost_ret (v := .tuple #[.agg #[.int .i64 0, .int .i64 0], .bool false]) (res_cell2 Try.results42 _ rfl B9 Try.underlying31 rfl (by kernel_rfl)) rfl ⟨res_falseC HF.out, (ext_alloc (ext_refl w) _)⟩
    · go_enter Try.func42, Try.ntmps42
      go_wp2_with fail
      all_goals first | exact (show False by omega).elim | exact bodyPost_ret (v := .tuple #[.agg #[.int .i64 0, .int .i64 0], .bool false]) (res_cell2 Try.results42 _ rfl B9 Try.underlying31 rfl (by kernel_rfl)) rfl ⟨res_falseC HF.out, (ext_alloc (ext_refl w) _)⟩

def SvRel (w : World) (n : Nat) (l : List Service) (i : Value) (wr : World) : Prop := ∃ k : Nat, k ≤ n ∧ i = .int .i64 k ∧ servicesOk (l.take k) = true ∧ Below w.heap.size w wr
set_option maxHeartbeats 2000000 in
theorem bnServices_any (A : Option Addr) (n c : Nat) (xs : List Service) (w : World) (hn : n ≤ 1048576) (hr : Rd w 2 A n (xs.flatMap encService)) :
    Calls Try.prog 70 #[.slice A n c] w fun e w' => e = .returned (.bool (servicesOk xs && inB n 1 8)) ∧ Below w.heap.size w w' := by
  have hl : xs.length = n := by have h1 := hr.1; rw [flat_len encService 2 encService_len] at h1; omega
  have HL := Lib.hid hl
  clear hl
  go_enter Try.func70, Try.ntmps70
  go_wp2_with fail
  go_loopw [7] (SvRel w n xs) (fun i _ => n - (intOf i).toNat)
  case atStart => exact ⟨0, Nat.zero_le _, rfl, rfl, ext_refl w⟩
  case round =>
    obtain ⟨k, hk, rfl, hok, hb⟩ := hrel
    have HOK := Lib.hid hok
    clear hok
    by_cases hlt : k < n
    · skip
      obtain ⟨b, o, rfl, hblb, hcellb⟩ := hr.2 (by omega)
      have hblrbx : b < wr.heap.size := Nat.lt_of_lt_of_le hblb hb.size
      have hlxx : k < xs.length := by rw [HL.out]; omega
      have hxx : xs[k]? = some xs[k] := List.getElem?_eq_getElem hlxx
      generalize xs[k] = x at hxx
      have c0 : wr.cell? ⟨b, o + (k * 2 + 0), none⟩ = some (.int .i64 x.rate) := (hb.cell (p := ⟨b, o + (k * 2 + 0), none⟩) hblb).trans (hcellb _ _ ((flat_get encService 2 encService_len xs k 0 x hxx (by omega)).trans rfl))
      have c1 : wr.cell? ⟨b, o + (k * 2 + 1), none⟩ = some (.int .i64 x.delay) := (hb.cell (p := ⟨b, o + (k * 2 + 1), none⟩) hblb).trans (hcellb _ _ ((flat_get encService 2 encService_len xs k 1 x hxx (by omega)).trans rfl))
      simp only [Nat.add_zero, ← Nat.add_assoc] at c0 c1
      have HX := Lib.hid hxx
      clear hxx hlxx hcellb
      cases h1 : isServiceB x.rate x.delay with
      | false =>
        go_wp2_with fail
        refine (bnService_any _ _ _).mono ?_; rintro e w1 ⟨rfl, hb1⟩
        rw [h1]
        go_wp2_with fail
        go_ret
        exact ⟨ret_bool (by rw [servicesOk, all_false (f := fun x : Service => isServiceB x.rate x.delay) HX.out h1]; rfl), ext_trans (ext_alloc hb _) hb1⟩
      | true =>
        go_wp2_with fail
        refine (bnService_any _ _ _).mono ?_; rintro e w1 ⟨rfl, hb1⟩
        rw [h1]
        go_wp2_with fail
        go_roundw
        case rel => exact ⟨k + 1, by omega, by go_num, sok_snoc HX.out HOK.out h1, ext_trans (ext_alloc hb _) hb1⟩
        case measure => simp [intOf]; omega
    · go_wp2_with (go_at_call 66; refine (l1In_any _ _ _ _).mono ?_; rintro e w' ⟨rfl, rfl⟩)
      go_ret
      have e3 := HOK.out
      rw [List.take_of_length_le (by rw [HL.out]; omega)] at e3
      exact ⟨ret_bool (by rw [e3]; rfl), hb⟩

def ChIn (w : World) (t : TypeId) (n : Nat) (l : List Service) (i : Value) (wr : World) : Prop :=
  ∃ k : Nat, k + 1 ≤ n ∧ i = .int .i64 k ∧ Blk wr w.heap.size t [.int .i64 0, .int .i64 0] ∧ Blk wr (w.heap.size + 1) t [.int .i64 (chRate (l.take (k + 1))), .int .i64 (chDelay (l.take (k + 1)))] ∧ Below w.heap.size w wr
theorem ch_one {xs : List Service} {x : Service} (hx : xs[0]? = some x) (h : x.rate ≤ 100000) : chRate (xs.take 1) = x.rate ∧ chDelay (xs.take 1) = x.delay := by
  have h1 := ch_snoc hx
  have e0 : chRate (xs.take 0) = 100000 := rfl
  have e1 : chDelay (xs.take 0) = 0 := rfl
  rw [e0, e1] at h1
  simp only [Nat.zero_add] at h1
  omega
theorem sok_take {xs : List Service} (h : servicesOk xs = true) (k : Nat) : servicesOk (xs.take k) = true := by
  unfold servicesOk at h ⊢
  rw [List.all_eq_true] at h ⊢
  exact fun x hx => h x (List.mem_of_mem_take hx)

set_option maxHeartbeats 2000000 in
theorem bnChain_any (A : Option Addr) (n : Nat) (xs : List Service) (w : World) (hn : n ≤ 8) (hn1 : 1 ≤ n) (hr : Rd w 2 A n (xs.flatMap encService)) (hok : servicesOk xs = true) :
    Calls Try.prog 71 #[.slice A n n] w fun e w' => e = .returned (.agg #[.int .i64 (chRate xs), .int .i64 (chDelay xs)]) ∧ Below w.heap.size w w' := by
  have hl : xs.length = n := by have h1 := hr.1; rw [flat_len encService 2 encService_len] at h1; omega
  have HL := Lib.hid hl
  clear hl
  have HOK := Lib.hid hok
  clear hok
  have hb := ext_refl w
  obtain ⟨b, o, rfl, hblb, hcellb⟩ := hr.2 (by omega)
  have hblrbx0 : b < w.heap.size := Nat.lt_of_lt_of_le hblb hb.size
  have hlxx0 : 0 < xs.length := by rw [HL.out]; omega
  have hxx0 : xs[0]? = some xs[0] := List.getElem?_eq_getElem hlxx0
  generalize xs[0] = x0 at hxx0
  have q0 : w.cell? ⟨b, o + (0 * 2 + 0), none⟩ = some (.int .i64 x0.rate) := (hb.cell (p := ⟨b, o + (0 * 2 + 0), none⟩) hblb).trans (hcellb _ _ ((flat_get encService 2 encService_len xs 0 0 x0 hxx0 (by omega)).trans rfl))
  have q1 : w.cell? ⟨b, o + (0 * 2 + 1), none⟩ = some (.int .i64 x0.delay) := (hb.cell (p := ⟨b, o + (0 * 2 + 1), none⟩) hblb).trans (hcellb _ _ ((flat_get encService 2 encService_len xs 0 1 x0 hxx0 (by omega)).trans rfl))
  simp only [Nat.add_zero, ← Nat.add_assoc] at q0 q1
  have HX0 := Lib.hid hxx0
  clear hxx0 hlxx0
  simp only [Nat.zero_mul, Nat.add_zero] at q0 q1
  have hx0 := isServiceB_iff.1 (List.all_eq_true.1 HOK.out x0 (List.mem_of_getElem? HX0.out))
  have H1 := Lib.hid (ch_one HX0.out hx0.1.2)
  have HCELL := Lib.hid hcellb
  clear hcellb hb
  by_cases hone : n = 1
  · subst hone
    have e2 : xs.take 1 = xs := List.take_of_length_le (by rw [HL.out]; omega)
    have HR := Lib.hid (show Ending.returned (.agg #[.int .i64 x0.rate, .int .i64 x0.delay]) = .returned (.agg #[.int .i64 (chRate xs), .int .i64 (chDelay xs)]) by rw [← e2, H1.out.1, H1.out.2])
    clear e2
    have D0 : Blk ((w.alloc (.cells (List.toArray [.int .i64 x0.rate, .int .i64 x0.delay]) 31)).alloc (.cells (List.toArray [.int .i64 x0.rate, .int .i64 x0.delay]) 31)) w.heap.size 31 [.int .i64 x0.rate, .int .i64 x0.delay] := (Blk.new w 31 [.int .i64 x0.rate, .int .i64 x0.delay]).alloc _
    have z0 : Below w.heap.size w ((w.alloc (.cells (List.toArray [.int .i64 x0.rate, .int .i64 x0.delay]) 31)).alloc (.cells (List.toArray [.int .i64 x0.rate, .int .i64 x0.delay]) 31)) := ext_alloc (ext_alloc (ext_refl w) _) _
    go_enter Try.func71, Try.ntmps71
    go_wp2_with fail
    go_loopw [12] (fun i wr => i = .int .i64 0 ∧ ((w.alloc (.cells (List.toArray [.int .i64 0, .int .i64 0]) 31)).alloc (.cells (List.toArray [.int .i64 x0.rate, .int .i64 x0.delay]) 31)) = wr) (fun _ _ => 0)
    case atStart => exact ⟨rfl, rfl⟩
    case round =>
      obtain ⟨rfl, rfl⟩ := hrel
      go_wp2_with fail
      exact bodyPost_ret (v := .agg #[.int .i64 x0.rate, .int .i64 x0.delay]) (res_cell1 Try.results71 _ rfl D0 Try.underlying31 rfl (by kernel_rfl)) rfl ⟨HR.out, z0⟩
  · have hcap : 1 < n := by omega
    go_enter Try.func71, Try.ntmps71
    go_wp2_with fail
    go_loopw [12] (ChIn w 31 n xs) (fun i _ => n - (intOf i).toNat)
    case atStart => exact ⟨0, by omega, rfl, (Blk.new w 31 [.int .i64 0, .int .i64 0]).alloc _, by rw [H1.out.1, H1.out.2]; have h := Blk.new (w.alloc (.cells (List.toArray [.int .i64 0, .int .i64 0]) 31)) 31 [.int .i64 x0.rate, .int .i64 x0.delay]; rwa [World.size_alloc] at h, ext_alloc (ext_alloc (ext_refl w) _) _⟩
    case round =>
      obtain ⟨k, hk, rfl, B0, B1, hb⟩ := hrel
      have hok := sok_take HOK.out (k + 1)
      have hbd := services_bd hok
      have hlk : (xs.take (k + 1)).length ≤ 8 := by rw [List.length_take]; omega
      clear hok
      have hsb0 : chRate (xs.take (k + 1)) = chRate (xs.take (k + 1)) := rfl
      generalize hsb : chRate (xs.take (k + 1)) = sb at *
      generalize hsr : chDelay (xs.take (k + 1)) = sr at *
      have HSB := Lib.hid hsb
      have HSR := Lib.hid hsr
      clear hsb hsr hsb0
      have q2 : sr ≤ 80000 := by omega
      obtain ⟨y0, x0', d0, f0⟩ := B0.two
      obtain ⟨y1, x1', d1, f1⟩ := B1.two
      by_cases hlt : k + 1 < n
      · have hlx : k + 1 < xs.length := by rw [HL.out]; omega
        have hx : xs[k + 1]? = some xs[k + 1] := List.getElem?_eq_getElem hlx
        generalize xs[k + 1] = x at hx
        have hblr : b < wr.heap.size := Nat.lt_of_lt_of_le hblb hb.size
        have c0 : wr.cell? ⟨b, o + ((k + 1) * 2 + 0), none⟩ = some (.int .i64 x.rate) := (hb.cell (p := ⟨b, o + ((k + 1) * 2 + 0), none⟩) hblb).trans (HCELL.out _ _ ((flat_get encService 2 encService_len xs (k + 1) 0 x hx (by omega)).trans rfl))
        have c1 : wr.cell? ⟨b, o + ((k + 1) * 2 + 1), none⟩ = some (.int .i64 x.delay) := (hb.cell (p := ⟨b, o + ((k + 1) * 2 + 1), none⟩) hblb).trans (HCELL.out _ _ ((flat_get encService 2 encService_len xs (k + 1) 1 x hx (by omega)).trans rfl))
        rw [show o + ((k + 1) * 2 + 0) = o + 2 + k * 2 by omega] at c0
        rw [show o + ((k + 1) * 2 + 1) = o + 2 + k * 2 + 1 by omega] at c1
        have hxb := isServiceB_iff.1 (List.all_eq_true.1 HOK.out x (List.mem_of_getElem? hx))
        have HX := Lib.hid hx
        clear hx q0 q1
        have C2 := Blk.new wr 31 [.int .i64 x.rate, .int .i64 x.delay]
        go_wp2_with (go_at_call 78; refine (l1Least_any _ _ _).mono ?_; rintro e w' ⟨rfl, rfl⟩)
        go_roundw
        case rel => exact ⟨k + 1, by omega, by go_num, ((B0.far (by simp) _).far (by simp) _).alloc _, by rw [(ch_snoc HX.out).1, (ch_snoc HX.out).2, HSB.out, HSR.out]; exact ((B1.set_ 0 _).set_ 1 _).alloc _, ext_alloc ((hb.setCell (by simp) _).setCell (by simp) _) _⟩
        case measure => simp [intOf]; omega
      · have ht : xs.take (k + 1) = xs := List.take_of_length_le (by rw [HL.out]; omega)
        have e1 := HSB.out; have e2 := HSR.out
        rw [ht] at e1 e2
        have HR := Lib.hid (show Ending.returned (.agg #[.int .i64 sb, .int .i64 sr]) = .returned (.agg #[.int .i64 (chRate xs), .int .i64 (chDelay xs)]) by rw [e1, e2])
        clear e1 e2 ht
        go_wp2_with fail
        exact bodyPost_ret (v := .agg #[.int .i64 sb, .int .i64 sr]) (res_cell1 Try.results71 _ rfl ((B0.set_ 0 (.int .i64 sb)).set_ 1 (.int .i64 sr)) Try.underlying31 rfl (by kernel_rfl)) rfl ⟨HR.out, ((hb.setCell (p := ⟨w.heap.size, 0, none⟩) (by simp) (.int .i64 sb)).setCell (p := ⟨w.heap.size, 1, none⟩) (by simp) (.int .i64 sr))⟩

set_option maxHeartbeats 2000000 in
theorem specChainServices_any (A : Option Addr) (n : Nat) (xs : List Service) (w : World) (hn : n ≤ 1048576) (hr : Rd w 2 A n (xs.flatMap encService)) :
    Calls Try.prog 40 #[.slice A n n] w fun e w' => e = .returned (.tuple #[.agg #[.int .i64 (fp (chainOk xs) (chRate xs)), .int .i64 (fp (chainOk xs) (chDelay xs))], .bool (chainOk xs)]) ∧ Below w.heap.size w w' := by
  have hl : xs.length = n := by have h1 := hr.1; rw [flat_len encService 2 encService_len] at h1; omega
  have HL := Lib.hid hl
  clear hl
  have B0 := Blk.new w 31 [.int .i64 0, .int .i64 0]
  have z0 := ext_alloc (ext_refl w) (.cells (List.toArray [.int .i64 0, .int .i64 0]) 31)
  have hr0 := hr.below z0
  cases h1 : (servicesOk xs && inB n 1 8) with
  | false =>
    have hF : chainOk xs = false := by rw [chainOk, HL.out, Bool.and_comm (inB _ _ _), h1]; rfl
    have HF := Lib.hid hF
    clear hF
    go_enter Try.func40, Try.ntmps40
    go_wp2_with fail
    refine (bnServices_any _ n _ xs _ hn hr0).mono ?_; rintro e w1 ⟨rfl, hb1⟩
    rw [h1]
    have C0 := B0.below hb1
    have z1 := ext_trans z0 hb1
    clear hb1
    obtain ⟨y0, x0, d0, f0⟩ := C0.two
    go_wp2_with fail
    exact bodyPost_ret (v := .tuple #[.agg #[.int .i64 0, .int .i64 0], .bool false]) (res_cell2 Try.results40 _ rfl ((C0.set_ 0 (.int .i64 0)).set_ 1 (.int .i64 0)) Try.underlying31 rfl (by kernel_rfl)) rfl ⟨res_falseC HF.out, ((z1.setCell (p := ⟨w.heap.size, 0, none⟩) (by simp) (.int .i64 0)).setCell (p := ⟨w.heap.size, 1, none⟩) (by simp) (.int .i64 0))⟩
  | true =>
    have h12 := h1
    rw [Bool.and_eq_true] at h12
    have h8 := inB_iff.1 h12.2
    have hn8 : n ≤ 8 := by omega
    have hn1 : 1 ≤ n := by omega
    have HOK := Lib.hid h12.1
    have HI := Lib.hid h12.2
    clear h12 h8
    cases h2 : isServiceB (chRate xs) (chDelay xs) with
    | false =>
      have hF : chainOk xs = false := by rw [chainOk, h2, Bool.and_false]
      have HF := Lib.hid hF
      clear hF
      go_enter Try.func40, Try.ntmps40
      go_wp2_with fail
      refine (bnServices_any _ n _ xs _ hn hr0).mono ?_; rintro e w1 ⟨rfl, hb1⟩
      rw [h1]
      have C0 := B0.below hb1
      have z1 := ext_trans z0 hb1
      have hr1 := hr0.below hb1
      clear hb1
      go_wp2_with fail
      refine (bnChain_any _ n xs _ hn8 hn1 hr1 HOK.out).mono ?_; rintro e w2 ⟨rfl, hb2⟩
      have D0 := C0.below hb2
      have z2 := ext_trans z1 hb2
      clear hb2
      go_wp2_with fail
      refine (bnService_any _ _ _).mono ?_; rintro e w3 ⟨rfl, hb3⟩
      rw [h2]
      have E0 := D0.below hb3
      have z3 := ext_trans z2 hb3
      clear hb3
      obtain ⟨y0, x0, d0, f0⟩ := E0.two
      go_wp2_with fail
      exact bodyPost_ret (v := .tuple #[.agg #[.int .i64 0, .int .i64 0], .bool false]) (res_cell2 Try.results40 _ rfl ((E0.set_ 0 (.int .i64 0)).set_ 1 (.int .i64 0)) Try.underlying31 rfl (by kernel_rfl)) rfl ⟨res_falseC HF.out, ((z3.setCell (p := ⟨w.heap.size, 0, none⟩) (by simp) (.int .i64 0)).setCell (p := ⟨w.heap.size, 1, none⟩) (by simp) (.int .i64 0))⟩
    | true =>
      have hT : chainOk xs = true := by rw [chainOk, HL.out, HI.out, HOK.out, h2]; rfl
      have HT := Lib.hid hT
      clear hT
      go_enter Try.func40, Try.ntmps40
      go_wp2_with fail
      refine (bnServices_any _ n _ xs _ hn hr0).mono ?_; rintro e w1 ⟨rfl, hb1⟩
      rw [h1]
      have C0 := B0.below hb1
      have z1 := ext_trans z0 hb1
      have hr1 := hr0.below hb1
      clear hb1
      go_wp2_with fail
      refine (bnChain_any _ n xs _ hn8 hn1 hr1 HOK.out).mono ?_; rintro e w2 ⟨rfl, hb2⟩
      have D0 := C0.below hb2
      have z2 := ext_trans z1 hb2
      have hr2 := hr1.below hb2
      clear hb2
      go_wp2_with fail
      refine (bnService_any _ _ _).mono ?_; rintro e w3 ⟨rfl, hb3⟩
      rw [h2]
      have E0 := D0.below hb3
      have z3 := ext_trans z2 hb3
      have hr3 := hr2.below hb3
      clear hb3
      go_wp2_with fail
      refine (bnChain_any _ n xs _ hn8 hn1 hr3 HOK.out).mono ?_; rintro e w4 ⟨rfl, hb4⟩
      have G0 := E0.below hb4
      have z4 := ext_trans z3 hb4
      clear hb4
      obtain ⟨y0, x0, d0, f0⟩ := G0.two
      go_wp2_with fail
      exact bodyPost_ret (v := .tuple #[.agg #[.int .i64 (chRate xs), .int .i64 (chDelay xs)], .bool true]) (res_cell2 Try.results40 _ rfl ((G0.set_ 0 (.int .i64 (chRate xs))).set_ 1 (.int .i64 (chDelay xs))) Try.underlying31 rfl (by kernel_rfl)) rfl ⟨res_trueC HT.out, ((z4.setCell (p := ⟨w.heap.size, 0, none⟩) (by simp) (.int .i64 (chRate xs))).setCell (p := ⟨w.heap.size, 1, none⟩) (by simp) (.int .i64 (chDelay xs)))⟩

set_option maxHeartbeats 2000000 in
theorem walkChainServices (A : Option Addr) (n c : Nat) (l : List Service) (hn : n ≤ 9223372036854775807) (w : World) (hr : Rd w 2 A n (l.flatMap encService)) :
    Calls Try.prog 11 #[.slice A n c] w fun e w' => e = .returned (.bool true) ∧ Below w.heap.size w w' := by
  by_cases hbig : 1048576 < n
  · go_enter Try.func11, Try.ntmps11
    go_wp2_with fail
    refine (szServiceS_any A n c _ _ hn (by omega) (by omega)).mono ?_; rintro e w' ⟨rfl, rfl⟩
    have hs : (if (1048576 : Int) < (n : Int) then (-1 : Int) else 1048576 - n) = -1 := by { split <;> omega }
    rw [hs]
    clear hs
    go_wp2_with fail
    go_ret
    exact ⟨rfl, ext_refl w⟩
  have hm : n ≤ 1048576 := by omega
  go_enter Try.func11, Try.ntmps11
  go_wp2_with fail
  refine (szServiceS_any A n c _ _ hn (by omega) (by omega)).mono ?_; rintro e w' ⟨rfl, rfl⟩
  have hs : (if (1048576 : Int) < (n : Int) then (-1 : Int) else 1048576 - n) = 1048576 - n := by { split <;> omega }
  rw [hs]
  clear hs
  go_wp2_with fail
  refine (toServiceS_any A n c l _ hm hr).mono ?_; rintro e w1 ⟨g1, rfl, ow1, hb1⟩
  go_wp2_with fail
  refine (specChainServices_any _ n l _ hm (Rd.of_own ow1)).mono ?_; rintro e w2 ⟨rfl, hb2⟩
  have z2 := ext_alloc (ext_trans hb1 hb2) (.cells (List.toArray [.int .i64 (fp (chainOk l) (chRate l)), .int .i64 (fp (chainOk l) (chDelay l))]) 31)
  have D2 := Blk.new w2 31 [.int .i64 (fp (chainOk l) (chRate l)), .int .i64 (fp (chainOk l) (chDelay l))]
  clear ow1 hb1 hb2
  go_wp2_with fail
  refine (toServiceS_any A n c l _ hm (hr.below z2)).mono ?_; rintro e w3 ⟨g3, rfl, ow3, hb3⟩
  have z3 := ext_trans z2 hb3
  have D3 := D2.below hb3
  clear hb3 z2 D2
  go_wp2_with fail
  refine (implChainServices_any _ n _ l _ hm (Rd.of_own ow3)).mono ?_; rintro e w4 ⟨rfl, hb4⟩
  have z4 := ext_alloc (ext_trans z3 hb4) (.cells (List.toArray [.int .i64 (fp (chainOk l) (chRate l)), .int .i64 (fp (chainOk l) (chDelay l))]) 31)
  have D4 := (D3.below hb4).alloc (.cells (List.toArray [.int .i64 (fp (chainOk l) (chRate l)), .int .i64 (fp (chainOk l) (chDelay l))]) 31)
  have ow4 := own_ext (own_ext ow3 hb4) (ext_alloc (ext_refl w4) (.cells (List.toArray [.int .i64 (fp (chainOk l) (chRate l)), .int .i64 (fp (chainOk l) (chDelay l))]) 31))
  obtain ⟨y4, x4, c4, f4⟩ := (D3.below hb4).two
  clear hb4 z3 D3 ow3
  go_wp2_with fail
  refine (eqService_same _ _ _ ).mono ?_; rintro e w5 ⟨rfl, hb5⟩
  have z5 := ext_trans z4 hb5
  have ow5 := own_ext ow4 hb5
  clear hb5 z4 D4 ow4 y4 x4 c4 f4
  go_wp2_with fail
  refine (toServiceS_any A n c l _ hm (hr.below z5)).mono ?_; rintro e w6 ⟨g6, rfl, ow6, hb6⟩
  have z6 := ext_trans z5 hb6
  have ow56 := own_ext ow5 hb6
  go_wp2_with fail
  refine (eqServiceS_same _ _ n _ _ l _ hm (Rd.of_own ow56) (Rd.of_own ow6)).mono ?_; rintro e w7 ⟨rfl, hb7⟩
  go_wp2_with fail
  go_ret
  exact ⟨rfl, ext_trans z6 hb7⟩

end Go.Proofs.Ytmmelpgnfjjokaa