/- RestartSession: the loop over times of the program, the reference's comparison; contracts; the law's walk. -/
import Derived.Test.YtgljelhglgeojaaDeE
import Derived.Deep.RegionHeld3
namespace Go.Proofs.Ytgljelhglgeojaa
open Go.RowKit

def outS (x : Ses) (t : Int) : Ses := ⟨x.f, x.l, x.s, t, x.se, x.se, x.zs⟩
def usL (x : Ses) (t : Int) : List Int := [t, x.st + x.l, t + x.l, 100000]
def badU (x : Ses) (t u : Int) : Bool := decide (t ≤ u) && decide (u ≤ 100000) && decide (srvI x u < srvI (outS x t) u)
def restBad (x : Ses) (t : Int) : Bool := (usL x t).any (badU x t)
def restOk (x : Ses) (t : Int) : Bool := svcOk x t && decide (x.se ≤ 1000000)
def restR (x : Ses) (t : Int) : Ses := if restOk x t then (if restBad x t then x else outS x t) else zeroS
theorem restR_len (x : Ses) (t : Int) (h : x.zs.length ≤ 1048576) : (restR x t).zs.length ≤ 1048576 := by
  unfold restR
  split
  · split
    · exact h
    · exact h
  · simp [zeroS]
theorem out_ok {x : Ses} {t : Int} (h : SesOk x) (ht : 0 ≤ t ∧ t ≤ 100000) (hse : x.se ≤ 1000000) : SesOk (outS x t) := by
  have h1 := h.se
  have h2 := h.ba
  exact ⟨h.f, h.l, h.s, ht, ⟨by simp only [outS]; omega, hse⟩, ⟨Int.le_refl _, by simp only [outS]; omega⟩, h.len, h.zs⟩
def us2 (x : Ses) (t : Int) : List Int := [t + x.l, x.st + x.l]
def timesTo (x : Ses) (t : Int) (k : Nat) : List Int := [t, 100000] ++ ((us2 x t).take k).filter (fun u => inB u t 100000)
def gtU (x : Ses) (t u : Int) : Bool := decide (srvI x u < srvI (outS x t) u)
theorem times_bad {x : Ses} {t : Int} (ht : t ≤ 100000) : (timesTo x t 2).any (gtU x t) = restBad x t := by
  have e1 : badU x t t = gtU x t t := by simp [badU, gtU, ht]
  have e2 : badU x t 100000 = gtU x t 100000 := by simp [badU, gtU, ht]
  have e3 : ∀ u, ([u].filter (fun u => inB u t 100000)).any (gtU x t) = badU x t u := by
    intro u
    by_cases h : inB u t 100000 = true
    · rw [List.filter_cons_of_pos (by simpa using h)]
      have := inB_iff.1 h
      simp [badU, gtU, this]
    · rw [List.filter_cons_of_neg (by simpa using h)]
      have h2 : inB u t 100000 = false := by simpa using h
      have := inB_not h2
      simp only [List.filter_nil, List.any_nil, badU]
      by_cases h3 : t ≤ u
      · have h4 : ¬ u ≤ 100000 := by omega
        simp [h4]
      · simp [h3]
  have e4 : timesTo x t 2 = [t, 100000] ++ ([t + x.l].filter (fun u => inB u t 100000) ++ [x.st + x.l].filter (fun u => inB u t 100000)) := by
    unfold timesTo us2
    rw [List.take_of_length_le (by simp), ← List.filter_append]; rfl
  rw [e4, List.any_append, List.any_append, e3, e3]
  simp only [restBad, usL, List.any_cons, List.any_nil, e1, e2, Bool.or_false]
  cases gtU x t t <;> cases gtU x t 100000 <;> cases badU x t (t + x.l) <;> cases badU x t (x.st + x.l) <;> rfl
theorem times_len {x : Ses} {t : Int} (k : Nat) : (timesTo x t k).length ≤ 4 := by
  have := List.length_filter_le (fun u => inB u t 100000) ((us2 x t).take k)
  have h2 : ((us2 x t).take k).length ≤ 2 := by rw [List.length_take]; simp only [us2, List.length_cons, List.length_nil]; omega
  unfold timesTo
  rw [List.length_append]
  simp only [List.length_cons, List.length_nil]
  omega
theorem times_in {x : Ses} {t : Int} (ht : 0 ≤ t ∧ t ≤ 100000) {k i : Nat} {u : Int} (h : (timesTo x t k)[i]? = some u) : t ≤ u ∧ u ≤ 100000 := by
  have := List.mem_of_getElem? h
  unfold timesTo at this
  rw [List.mem_append, List.mem_filter] at this
  rcases this with h1 | ⟨_, h2⟩
  · simp only [List.mem_cons, List.not_mem_nil, or_false] at h1; omega
  · exact inB_iff.1 h2
theorem times_succ {x : Ses} {t : Int} {k : Nat} {u : Int} (h : (us2 x t)[k]? = some u) : timesTo x t (k + 1) = timesTo x t k ++ (if inB u t 100000 then [u] else []) := by
  unfold timesTo
  rw [take_snoc h, List.filter_append, List.append_assoc]
  congr 2
  by_cases hb : inB u t 100000 = true
  · simp [hb]
  · simp [hb]
theorem own_short {w : World} {base : Nat} {e t : TypeId} {n g : Nat} {v : Value} {xs cs : List Value} (h : w.ownsRow base e 1 v n xs) (hB : Blk w g t cs) (hl : cs.length < n) : some g ≠ v.ownBlock := by
  rcases h.2 with ⟨rfl, _⟩ | ⟨g', cap, cur, rfl, _, hg, hnc, _, hcs, _⟩
  · simp [Value.ownBlock]
  · intro he
    have e1 : g = g' := by simpa [Value.ownBlock] using he
    subst e1
    unfold Blk at hB
    rw [hg] at hB
    injection hB with hB
    injection hB with h1 _
    have : cur.size = cs.length := by rw [h1]; simp
    omega
theorem any_to {α : Type} {xs : List α} {p : α → Bool} {k : Nat} {a : α} (hx : xs[k]? = some a) (hp : p a = true) : xs.any p = true := List.any_eq_true.2 ⟨a, List.mem_of_getElem? hx, hp⟩
theorem any_no {α : Type} {xs : List α} {p : α → Bool} {n : Nat} (hn : xs.length ≤ n) (h : ∀ j a, j < n → xs[j]? = some a → p a = false) : xs.any p = false := by
  rw [List.any_eq_false]
  intro a ha
  obtain ⟨j, hj⟩ := List.getElem?_of_mem ha
  have hl := (List.getElem?_eq_some_iff.1 hj).1
  simp [h j a (by omega) hj]

def BelRel (w : World) (gU : Nat) (x : Ses) (t : Int) (CA CB : List Value) (v i : Value) (wr : World) : Prop :=
  ∃ k : Nat, k ≤ 2 ∧ i = .int .i64 k ∧ OwnL w 3 v (timesTo x t k) wr ∧ some gU ≠ v.ownBlock ∧ Blk wr gU 3 ((us2 x t).map (Value.int .i64)) ∧ Blk wr w.heap.size 39 CA ∧ Blk wr (w.heap.size + 1) 39 CB
def Bel2 (w : World) (v : Value) (x : Ses) (t : Int) (CA CB : List Value) (i : Value) (wr : World) : Prop :=
  ∃ k : Nat, k ≤ (timesTo x t 2).length ∧ i = .int .i64 k ∧ (∀ j u, j < k → (timesTo x t 2)[j]? = some u → gtU x t u = false) ∧ OwnL w 3 v (timesTo x t 2) wr ∧ Blk wr w.heap.size 39 CA ∧ Blk wr (w.heap.size + 1) 39 CB

set_option maxRecDepth 100000 in
set_option maxHeartbeats 4000000 in
theorem hfBelow_at (x : Ses) (t : Int) (A1 : Option Addr) (m1 c1 : Nat) (A : Option Addr) (m c : Nat) (w : World) (h : SesOk x) (hse : x.se ≤ 1000000) (ht0 : x.st ≤ t) (ht : t ≤ 100000) :
    Calls Try.prog 67 #[.agg #[.int .i64 x.f, .int .i64 x.l, .int .i64 x.s, .int .i64 t, .int .i64 x.se, .int .i64 x.se, .slice A1 m1 c1], .agg #[.int .i64 x.f, .int .i64 x.l, .int .i64 x.s, .int .i64 x.st, .int .i64 x.ba, .int .i64 x.se, .slice A m c]] w fun e w' => e = .returned (.bool (!restBad x t)) ∧ Below w.heap.size w w' := by
  obtain ⟨i0, hi, hz0, hz1, hz2⟩ := info_parts infoInt
  have hst := h.st
  have hl := h.l
  have hok2 := out_ok h (t := t) (by omega) hse
  have a0 : Blk ((w.alloc (.cells (List.toArray [.int .i64 x.f, .int .i64 x.l, .int .i64 x.s, .int .i64 t, .int .i64 x.se, .int .i64 x.se, .slice A1 m1 c1]) 39)).alloc (.cells (List.toArray [.int .i64 x.f, .int .i64 x.l, .int .i64 x.s, .int .i64 x.st, .int .i64 x.ba, .int .i64 x.se, .slice A m c]) 39)) w.heap.size 39 [.int .i64 x.f, .int .i64 x.l, .int .i64 x.s, .int .i64 t, .int .i64 x.se, .int .i64 x.se, .slice A1 m1 c1] := (Blk.new w 39 [.int .i64 x.f, .int .i64 x.l, .int .i64 x.s, .int .i64 t, .int .i64 x.se, .int .i64 x.se, .slice A1 m1 c1]).alloc _
  have b0 : Blk ((w.alloc (.cells (List.toArray [.int .i64 x.f, .int .i64 x.l, .int .i64 x.s, .int .i64 t, .int .i64 x.se, .int .i64 x.se, .slice A1 m1 c1]) 39)).alloc (.cells (List.toArray [.int .i64 x.f, .int .i64 x.l, .int .i64 x.s, .int .i64 x.st, .int .i64 x.ba, .int .i64 x.se, .slice A m c]) 39)) (w.heap.size + 1) 39 [.int .i64 x.f, .int .i64 x.l, .int .i64 x.s, .int .i64 x.st, .int .i64 x.ba, .int .i64 x.se, .slice A m c] := by have h := Blk.new (w.alloc (.cells (List.toArray [.int .i64 x.f, .int .i64 x.l, .int .i64 x.s, .int .i64 t, .int .i64 x.se, .int .i64 x.se, .slice A1 m1 c1]) 39)) 39 [.int .i64 x.f, .int .i64 x.l, .int .i64 x.s, .int .i64 x.st, .int .i64 x.ba, .int .i64 x.se, .slice A m c]; rwa [World.size_alloc] at h
  have z0 : Below w.heap.size w ((w.alloc (.cells (List.toArray [.int .i64 x.f, .int .i64 x.l, .int .i64 x.s, .int .i64 t, .int .i64 x.se, .int .i64 x.se, .slice A1 m1 c1]) 39)).alloc (.cells (List.toArray [.int .i64 x.f, .int .i64 x.l, .int .i64 x.s, .int .i64 x.st, .int .i64 x.ba, .int .i64 x.se, .slice A m c]) 39)) := ext_alloc (ext_alloc (ext_refl w) _) _
  have a1 := (a0.alloc (.cells (List.toArray [.int .i64 t, .int .i64 100000]) 3)).alloc (.cells (List.toArray [.int .i64 (t + x.l), .int .i64 (x.st + x.l)]) 3)
  have b1 := (b0.alloc (.cells (List.toArray [.int .i64 t, .int .i64 100000]) 3)).alloc (.cells (List.toArray [.int .i64 (t + x.l), .int .i64 (x.st + x.l)]) 3)
  have z1 := ext_alloc (ext_alloc z0 (.cells (List.toArray [.int .i64 t, .int .i64 100000]) 3)) (.cells (List.toArray [.int .i64 (t + x.l), .int .i64 (x.st + x.l)]) 3)
  have t1 : Blk ((((w.alloc (.cells (List.toArray [.int .i64 x.f, .int .i64 x.l, .int .i64 x.s, .int .i64 t, .int .i64 x.se, .int .i64 x.se, .slice A1 m1 c1]) 39)).alloc (.cells (List.toArray [.int .i64 x.f, .int .i64 x.l, .int .i64 x.s, .int .i64 x.st, .int .i64 x.ba, .int .i64 x.se, .slice A m c]) 39)).alloc (.cells (List.toArray [.int .i64 t, .int .i64 100000]) 3)).alloc (.cells (List.toArray [.int .i64 (t + x.l), .int .i64 (x.st + x.l)]) 3)) (w.heap.size + 2) 3 [.int .i64 t, .int .i64 100000] := by have h := (Blk.new ((w.alloc (.cells (List.toArray [.int .i64 x.f, .int .i64 x.l, .int .i64 x.s, .int .i64 t, .int .i64 x.se, .int .i64 x.se, .slice A1 m1 c1]) 39)).alloc (.cells (List.toArray [.int .i64 x.f, .int .i64 x.l, .int .i64 x.s, .int .i64 x.st, .int .i64 x.ba, .int .i64 x.se, .slice A m c]) 39)) 3 [.int .i64 t, .int .i64 100000]).alloc (.cells (List.toArray [.int .i64 (t + x.l), .int .i64 (x.st + x.l)]) 3); simpa using h
  have u1 : Blk ((((w.alloc (.cells (List.toArray [.int .i64 x.f, .int .i64 x.l, .int .i64 x.s, .int .i64 t, .int .i64 x.se, .int .i64 x.se, .slice A1 m1 c1]) 39)).alloc (.cells (List.toArray [.int .i64 x.f, .int .i64 x.l, .int .i64 x.s, .int .i64 x.st, .int .i64 x.ba, .int .i64 x.se, .slice A m c]) 39)).alloc (.cells (List.toArray [.int .i64 t, .int .i64 100000]) 3)).alloc (.cells (List.toArray [.int .i64 (t + x.l), .int .i64 (x.st + x.l)]) 3)) (w.heap.size + 3) 3 ((us2 x t).map (Value.int .i64)) := by have h := Blk.new (((w.alloc (.cells (List.toArray [.int .i64 x.f, .int .i64 x.l, .int .i64 x.s, .int .i64 t, .int .i64 x.se, .int .i64 x.se, .slice A1 m1 c1]) 39)).alloc (.cells (List.toArray [.int .i64 x.f, .int .i64 x.l, .int .i64 x.s, .int .i64 x.st, .int .i64 x.ba, .int .i64 x.se, .slice A m c]) 39)).alloc (.cells (List.toArray [.int .i64 t, .int .i64 100000]) 3)) 3 [.int .i64 (t + x.l), .int .i64 (x.st + x.l)]; rw [World.size_alloc, World.size_alloc, World.size_alloc] at h; exact h
  have O1 : OwnL w 3 (.slice (some ⟨w.heap.size + 2, 0, none⟩) 2 2) (timesTo x t 0) _ := ⟨own_of_blk t1 rfl (by omega) (by omega), z1⟩
  have hne1 : some (w.heap.size + 3) ≠ Value.ownBlock (.slice (some ⟨w.heap.size + 2, 0, none⟩) 2 2) := by simp [Value.ownBlock]
  have hcA : ∀ u w, t ≤ u → u ≤ 100000 → Calls Try.prog 59 #[.agg #[.int .i64 x.f, .int .i64 x.l, .int .i64 x.s, .int .i64 t, .int .i64 x.se, .int .i64 x.se, .slice A1 m1 c1], .int .i64 u] w fun e w' => e = .returned (.int .i64 (srvI (outS x t) u)) ∧ Below w.heap.size w w' := fun u w h1 h2 => hfAt_any ⟨outS x t, A1, m1, c1⟩ u w hok2 (by omega) (by omega) (by simp only [outS]; omega)
  have hcB : ∀ u w, t ≤ u → u ≤ 100000 → Calls Try.prog 59 #[.agg #[.int .i64 x.f, .int .i64 x.l, .int .i64 x.s, .int .i64 x.st, .int .i64 x.ba, .int .i64 x.se, .slice A m c], .int .i64 u] w fun e w' => e = .returned (.int .i64 (srvI x u)) ∧ Below w.heap.size w w' := fun u w h1 h2 => hfAt_any ⟨x, A, m, c⟩ u w h (by omega) (by omega) (by simp only; omega)
  have HTB := Lib.hid (times_bad (x := x) ht)
  clear a0 b0 z0 t1 hok2
  go_enter Try.func67, Try.ntmps67
  go_wp2_with fail
  go_loopw [5, 27] (BelRel w (w.heap.size + 3) x t [.int .i64 x.f, .int .i64 x.l, .int .i64 x.s, .int .i64 t, .int .i64 x.se, .int .i64 x.se, .slice A1 m1 c1] [.int .i64 x.f, .int .i64 x.l, .int .i64 x.s, .int .i64 x.st, .int .i64 x.ba, .int .i64 x.se, .slice A m c]) (fun _ i _ => 2 - (intOf i).toNat)
  case atStart => exact ⟨0, Nat.zero_le _, rfl, O1, hne1, u1, a1, b1⟩
  case round =>
    obtain ⟨k, hk, rfl, Ok, hne, uk, ak, bk⟩ := hrel
    clear O1 hne1 u1 a1 b1 z1
    have HL := Lib.hid (times_len (x := x) (t := t) k)
    by_cases hlt : k < 2
    · obtain ⟨u, hu⟩ : ∃ u, (us2 x t)[k]? = some u := ⟨(us2 x t)[k]'(by simp [us2]; omega), List.getElem?_eq_getElem _⟩
      have cu := uk.cell k
      rw [List.getElem?_map, hu] at cu
      have hul := uk.lt
      simp only [Option.map_some] at cu
      obtain ⟨ya, xa, ca, fa⟩ := ak.seven
      have HSU := Lib.hid (times_succ hu)
      clear hu
      cases hin : inB u t 100000 with
      | true =>
        have HIN := Lib.hid hin
        go_wp2_with (first | (go_at_call 46; refine (l1In_any _ _ _ _).mono ?_; rintro e w' ⟨rfl, rfl⟩) | (at_builtin; refine wpList_append_own _ rfl (.tmp 35) (.tmp 37) 32 rfl w.heap.size 3 i0 (.int .i64 0) 1 8 Try.underlying32 hi hz0 hz1 hz2 rfl (by decide) _ _ _ rfl (Ok.1.alloc _) ⟨wr.heap.size, 0, none⟩ 1 1 [.int .i64 u] rfl rfl ?p1 ?p2 ?p3 ?p4 ?p5 ?_))
        case p1 => exact cell_one_new _ _ _
        case p2 => simp [Value.oneCell']
        case p3 => have := HL.out; unfold maxLen; omega
        case p4 => have := HL.out; omega
        case p5 => have := Ok.2.size; simp; omega
        intro v' w3 hown1 hg1 _
        have O3 := ownL_push Ok hown1 hg1
        have u3 := (uk.alloc (.cells #[.int .i64 u] 3)).grown hg1 hne
        have a3 := (ak.alloc (.cells #[.int .i64 u] 3)).grown hg1 (box_ne (Ok.1.alloc (.cells #[.int .i64 u] 3)) (ak.alloc (.cells #[.int .i64 u] 3)) (by decide))
        have b3 := (bk.alloc (.cells #[.int .i64 u] 3)).grown hg1 (box_ne (Ok.1.alloc (.cells #[.int .i64 u] 3)) (bk.alloc (.cells #[.int .i64 u] 3)) (by decide))
        have hne3 := own_short hown1 u3 (by simp [us2, timesTo])
        go_wp2_with fail
        go_roundw
        case rel => exact ⟨k + 1, by omega, by go_num, by rw [HSU.out, if_pos HIN.out]; exact O3, hne3, u3, a3, b3⟩
        case measure => simp [intOf]; omega
      | false =>
        have HIN := Lib.hid hin
        go_wp2_with (go_at_call 46; refine (l1In_any _ _ _ _).mono ?_; rintro e w' ⟨rfl, rfl⟩)
        go_roundw
        case rel => exact ⟨k + 1, by omega, by go_num, by rw [HSU.out, if_neg (by rw [HIN.out]; decide), List.append_nil]; exact Ok, hne, uk, ak, bk⟩
        case measure => simp [intOf]; omega
    · obtain rfl : k = 2 := by omega
      obtain ⟨A3, c3, rfl⟩ := own_shape Ok.1
      clear hne uk
      go_wp2_with fail
      go_loopw [42] (Bel2 w (.slice A3 (timesTo x t 2).length c3) x t [.int .i64 x.f, .int .i64 x.l, .int .i64 x.s, .int .i64 t, .int .i64 x.se, .int .i64 x.se, .slice A1 m1 c1] [.int .i64 x.f, .int .i64 x.l, .int .i64 x.s, .int .i64 x.st, .int .i64 x.ba, .int .i64 x.se, .slice A m c]) (fun i _ => (timesTo x t 2).length - (intOf i).toNat)
      case atStart => exact ⟨0, Nat.zero_le _, rfl, fun j u hj => by omega, Ok, ak, bk⟩
      case round =>
        obtain ⟨k, hk, rfl, hall, O4, a4, b4⟩ := hrel
        clear Ok ak bk
        have HA := Lib.hid hall
        clear hall
        by_cases hlt2 : k < (timesTo x t 2).length
        · obtain ⟨b, o, u, rfl, hbl, hu, hcu⟩ := (Rd.of_own O4.1).int k hlt2
          have hub := times_in (by omega) hu
          have hk4 : k < 4 := by have := HL.out; omega
          have HU := Lib.hid hu
          clear hu
          have hca := fun w => hcA u w hub.1 hub.2
          have hcb := fun w => hcB u w hub.1 hub.2
          cases hgt : gtU x t u with
          | true =>
            have HG := Lib.hid hgt
            have hd : srvI x u < srvI (outS x t) u := by simpa [gtU] using hgt
            clear hgt
            generalize srvI x u = s1 at *
            generalize srvI (outS x t) u = s2 at *
            go_wp2_with fail
            refine wp_region_grow (by kernel_rfl) (by kernel_rfl) ?_
            intro S hne hkS ho
            have kk0 : ∀ s : InC S, s.W.cell? ⟨w.heap.size, 0, none⟩ = some (.int .i64 x.f) := fun s => (a4.below (ho s)).cell 0
            have kk1 : ∀ s : InC S, s.W.cell? ⟨w.heap.size, 1, none⟩ = some (.int .i64 x.l) := fun s => (a4.below (ho s)).cell 1
            have kk2 : ∀ s : InC S, s.W.cell? ⟨w.heap.size, 2, none⟩ = some (.int .i64 x.s) := fun s => (a4.below (ho s)).cell 2
            have kk3 : ∀ s : InC S, s.W.cell? ⟨w.heap.size, 3, none⟩ = some (.int .i64 t) := fun s => (a4.below (ho s)).cell 3
            have kk4 : ∀ s : InC S, s.W.cell? ⟨w.heap.size, 4, none⟩ = some (.int .i64 x.se) := fun s => (a4.below (ho s)).cell 4
            have kk5 : ∀ s : InC S, s.W.cell? ⟨w.heap.size, 5, none⟩ = some (.int .i64 x.se) := fun s => (a4.below (ho s)).cell 5
            have kk6 : ∀ s : InC S, s.W.cell? ⟨w.heap.size, 6, none⟩ = some (.slice A1 m1 c1) := fun s => (a4.below (ho s)).cell 6
            have e0 : ∀ s : InC S, s.W.cell? ⟨w.heap.size + 1, 0, none⟩ = some (.int .i64 x.f) := fun s => (b4.below (ho s)).cell 0
            have e1 : ∀ s : InC S, s.W.cell? ⟨w.heap.size + 1, 1, none⟩ = some (.int .i64 x.l) := fun s => (b4.below (ho s)).cell 1
            have e2 : ∀ s : InC S, s.W.cell? ⟨w.heap.size + 1, 2, none⟩ = some (.int .i64 x.s) := fun s => (b4.below (ho s)).cell 2
            have e3 : ∀ s : InC S, s.W.cell? ⟨w.heap.size + 1, 3, none⟩ = some (.int .i64 x.st) := fun s => (b4.below (ho s)).cell 3
            have e4 : ∀ s : InC S, s.W.cell? ⟨w.heap.size + 1, 4, none⟩ = some (.int .i64 x.ba) := fun s => (b4.below (ho s)).cell 4
            have e5 : ∀ s : InC S, s.W.cell? ⟨w.heap.size + 1, 5, none⟩ = some (.int .i64 x.se) := fun s => (b4.below (ho s)).cell 5
            have e6 : ∀ s : InC S, s.W.cell? ⟨w.heap.size + 1, 6, none⟩ = some (.slice A m c) := fun s => (b4.below (ho s)).cell 6
            repeat (go_big_quiet_step ((go_at_call 59; first | with_reducible exact grow_call hkS (hca _) rfl | with_reducible exact grow_call hkS (hcb _) rfl)))
            refine wpQuiet_nil ?_
            rintro _ ⟨s, rfl⟩
            have hg5 := ho s
            clear kk0 kk1 kk2 kk3 kk4 kk5 kk6 e0 e1 e2 e3 e4 e5 e6 ho hkS hne
            generalize s.W = w5 at *
            clear s S
            go_wp2_with fail
            go_ret
            exact ⟨ret_bool (by rw [← HTB.out, any_to HU.out HG.out]; rfl), ext_trans O4.2 hg5⟩
          | false =>
            have HG := Lib.hid hgt
            have hd : ¬ srvI x u < srvI (outS x t) u := by simpa [gtU] using hgt
            clear hgt
            generalize srvI x u = s1 at *
            generalize srvI (outS x t) u = s2 at *
            go_wp2_with fail
            refine wp_region_grow (by kernel_rfl) (by kernel_rfl) ?_
            intro S hne hkS ho
            have kk0 : ∀ s : InC S, s.W.cell? ⟨w.heap.size, 0, none⟩ = some (.int .i64 x.f) := fun s => (a4.below (ho s)).cell 0
            have kk1 : ∀ s : InC S, s.W.cell? ⟨w.heap.size, 1, none⟩ = some (.int .i64 x.l) := fun s => (a4.below (ho s)).cell 1
            have kk2 : ∀ s : InC S, s.W.cell? ⟨w.heap.size, 2, none⟩ = some (.int .i64 x.s) := fun s => (a4.below (ho s)).cell 2
            have kk3 : ∀ s : InC S, s.W.cell? ⟨w.heap.size, 3, none⟩ = some (.int .i64 t) := fun s => (a4.below (ho s)).cell 3
            have kk4 : ∀ s : InC S, s.W.cell? ⟨w.heap.size, 4, none⟩ = some (.int .i64 x.se) := fun s => (a4.below (ho s)).cell 4
            have kk5 : ∀ s : InC S, s.W.cell? ⟨w.heap.size, 5, none⟩ = some (.int .i64 x.se) := fun s => (a4.below (ho s)).cell 5
            have kk6 : ∀ s : InC S, s.W.cell? ⟨w.heap.size, 6, none⟩ = some (.slice A1 m1 c1) := fun s => (a4.below (ho s)).cell 6
            have e0 : ∀ s : InC S, s.W.cell? ⟨w.heap.size + 1, 0, none⟩ = some (.int .i64 x.f) := fun s => (b4.below (ho s)).cell 0
            have e1 : ∀ s : InC S, s.W.cell? ⟨w.heap.size + 1, 1, none⟩ = some (.int .i64 x.l) := fun s => (b4.below (ho s)).cell 1
            have e2 : ∀ s : InC S, s.W.cell? ⟨w.heap.size + 1, 2, none⟩ = some (.int .i64 x.s) := fun s => (b4.below (ho s)).cell 2
            have e3 : ∀ s : InC S, s.W.cell? ⟨w.heap.size + 1, 3, none⟩ = some (.int .i64 x.st) := fun s => (b4.below (ho s)).cell 3
            have e4 : ∀ s : InC S, s.W.cell? ⟨w.heap.size + 1, 4, none⟩ = some (.int .i64 x.ba) := fun s => (b4.below (ho s)).cell 4
            have e5 : ∀ s : InC S, s.W.cell? ⟨w.heap.size + 1, 5, none⟩ = some (.int .i64 x.se) := fun s => (b4.below (ho s)).cell 5
            have e6 : ∀ s : InC S, s.W.cell? ⟨w.heap.size + 1, 6, none⟩ = some (.slice A m c) := fun s => (b4.below (ho s)).cell 6
            repeat (go_big_quiet_step ((go_at_call 59; first | with_reducible exact grow_call hkS (hca _) rfl | with_reducible exact grow_call hkS (hcb _) rfl)))
            refine wpQuiet_nil ?_
            rintro _ ⟨s, rfl⟩
            have hg5 := ho s
            clear kk0 kk1 kk2 kk3 kk4 kk5 kk6 e0 e1 e2 e3 e4 e5 e6 ho hkS hne
            generalize s.W = w5 at *
            clear s S
            go_wp2_with fail
            go_roundw
            case rel =>
              have hr2 : Bel2 w (.slice (some ⟨b, o, none⟩) (timesTo x t 2).length c3) x t [.int .i64 x.f, .int .i64 x.l, .int .i64 x.s, .int .i64 t, .int .i64 x.se, .int .i64 x.se, .slice A1 m1 c1] [.int .i64 x.f, .int .i64 x.l, .int .i64 x.s, .int .i64 x.st, .int .i64 x.ba, .int .i64 x.se, .slice A m c] (.int .i64 ((k : Int) + 1)) w5 := by
                refine ⟨k + 1, by omega, by simp, fun j v hj hv => ?_, ownL_ext O4 hg5, a4.below hg5, b4.below hg5⟩
                by_cases hjk : j = k
                · subst hjk
                  have e := HU.out.symm.trans hv
                  injection e with e
                  subst e
                  exact HG.out
                · exact HA.out j v (by omega) hv
              first | exact hr2 | ((repeat apply Exists.intro); exact ⟨hr2, rfl⟩)
            case measure => simp [intOf]; omega
        · go_wp2_with fail
          go_ret
          exact ⟨ret_bool (by rw [← HTB.out, any_no (Nat.le_refl _) (fun j a hj ha => HA.out j a (by omega) ha)]; rfl), O4.2⟩

end Go.Proofs.Ytgljelhglgeojaa