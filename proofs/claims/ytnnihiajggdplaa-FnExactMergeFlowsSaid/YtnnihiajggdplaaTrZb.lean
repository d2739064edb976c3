/- Sorting timed packets in place: insertionSort. No condition. -/
import Derived.Test.YtnnihiajggdplaaTrZa
import Derived.Test.YtnnihiajggdplaaReg
namespace Go.Proofs.Ytnnihiajggdplaa
open Go.RowKit Go.Sort

def ltT (x y : Timed) : Bool := decide (x.tick < y.tick)
def tkey (x : Timed) : Int := x.tick
theorem RowW.at_ {w0 W : World} {base g n c : Nat} {d : Array Timed} (h : RowW w0 base g n c d W) {i : Nat} (hi : i < n) {x : Timed} (hx : d[i]! = x) (r : Nat) (hr : r < 7) : W.cell? ⟨g, i * 7 + r, none⟩ = (encTimed x)[r]? := by subst hx; exact h.cell hi r hr
def InsO (w0 : World) (base g N c a b : Nat) (d : Array Timed) (i : Value) (wr : World) : Prop := ∃ k : Nat, ∃ dk : Array Timed, a < k ∧ k ≤ b + 1 ∧ i = .int .i64 k ∧ RowW w0 base g N c dk wr ∧ insOuter ltT a b k dk = insOuter ltT a b (a + 1) d
def InsI (w0 : World) (base g N c a i : Nat) (d : Array Timed) (j : Value) (wr : World) : Prop := ∃ k : Nat, ∃ dk : Array Timed, a ≤ k ∧ k ≤ i ∧ j = .int .i64 k ∧ RowW w0 base g N c dk wr ∧ insInner ltT a k dk = insInner ltT a i d

set_option maxRecDepth 100000 in
set_option maxHeartbeats 4000000 in
theorem insSort_any (w0 : World) (base g N c a b : Nat) (d : Array Timed) (W : World) (hR : RowW w0 base g N c d W) (hab : a ≤ b) (hb : b ≤ N) (hN : N ≤ 1048576) :
    Calls Try.prog 83 #[.slice (some ⟨g, 0, none⟩) N c, .int .i64 a, .int .i64 b, .func (.func 63) #[] #[]] W fun e w' => e = .returned (.tuple #[]) ∧ RowW w0 base g N c (insertionSort ltT d a b) w' := by
  have HR := Lib.hid hR
  clear hR
  have e1 : IntKind.i64.wrap ((a : Int) + 1) = ((a + 1 : Nat) : Int) := by rw [IntKind.wrap_i64]; omega
  go_enter Try.func83, Try.ntmps83
  go_wp2_with fail
  go_loopw [8] (InsO w0 base g N c a b d) (fun i _ => b + 1 - (intOf i).toNat)
  case atStart => exact ⟨a + 1, d, by omega, by omega, by simp, HR.out, rfl⟩
  case round =>
    clear HR e1
    obtain ⟨i, di, hai, hib, rfl, hR, hO⟩ := hrel
    have HR := Lib.hid hR
    have HO := Lib.hid hO
    clear hR hO
    by_cases hlt : i < b
    · have hltz : (i : Int) < (b : Int) := by omega
      go_wp2_with fail
      go_loopw [9] (InsI w0 base g N c a i di) (fun j _ => (intOf j).toNat)
      case atStart => exact ⟨i, di, by omega, Nat.le_refl _, rfl, HR.out, rfl⟩
      case round =>
        clear HR
        obtain ⟨j, dj, haj, hji, rfl, hR, hI⟩ := hrel
        have HR := Lib.hid hR
        have HI := Lib.hid hI
        clear hR hI
        have out : (j ≤ a ∨ ltT dj[j]! dj[j - 1]! = false) → insOuter ltT a b (i + 1) dj = insOuter ltT a b (a + 1) d := fun hs => by
          rw [← HO.out, insOuter_go _ _ _ _ _ hlt, ← HI.out, insInner_stop _ _ _ _ hs]
        have OUT := Lib.hid out
        clear out
        by_cases hja : j ≤ a
        · have g0 : decide (a < j) = false := by simp; omega
          have g1 : ¬ (a : Int) < (j : Int) := by omega
          go_wp2_with fail
          refine wp_region_grow (by kernel_rfl) (by kernel_rfl) ?_
          intro S hne hkS ho
          repeat (go_big_quiet_step (fail))
          refine wpQuiet_nil ?_
          rintro _ ⟨s, rfl⟩
          have HS := Lib.hid (HR.out.below (ho s))
          clear ho hkS hne
          generalize s.W = w2 at *
          clear s S
          go_wp2_with fail
          go_roundw
          case rel =>
            have hr2 : InsO w0 base g N c a b d (.int .i64 ((i : Int) + 1)) w2 := ⟨i + 1, dj, by omega, by omega, by simp, HS.out, OUT.out (.inl hja)⟩
            first | exact hr2 | ((repeat apply Exists.intro); exact ⟨hr2, rfl⟩)
          case measure => simp [intOf]; omega
        · obtain ⟨q, hq⟩ : ∃ q, q + 1 = j := ⟨j - 1, by omega⟩
          have hjN : j < N := by omega
          have hqN : q < N := by omega
          obtain ⟨x, hx⟩ : ∃ u, dj[j]! = u := ⟨_, rfl⟩
          obtain ⟨y, hy⟩ : ∃ u, dj[q]! = u := ⟨_, rfl⟩
          have hlx : ltT dj[j]! dj[j - 1]! = decide (x.tick < y.tick) := by rw [show j - 1 = q by omega, hx, hy]; rfl
          have g0 : decide (a < j) = true := by simp; omega
          have g1 : (a : Int) < (j : Int) := by omega
          have hw : IntKind.i64.wrap ((j : Int) - 1) = (q : Int) := by rw [IntKind.wrap_i64]; omega
          have j2 : (j : Int) < (N : Int) := by omega
          have q2 : (q : Int) < (N : Int) := by omega
          have HQ := Lib.hid (And.intro hq hja)
          have HLX := Lib.hid hlx
          clear hq hlx hja
          by_cases hxy : x.tick < y.tick
          · have hc : cmpZ x.tick y.tick < 0 := by have := cmpZ_lt (a := x.tick) (b := y.tick); simpa [hxy] using this
            have hcd : decide (cmpZ x.tick y.tick < 0) = true := by simpa using hc
            go_wp2_with fail
            refine wp_region_grow (by kernel_rfl) (by kernel_rfl) ?_
            intro S hne hkS ho
            have u0 : ∀ s : InC S, s.W.cell? ⟨g, j * 7, none⟩ = some (.int .i64 x.tick) := fun s => (HR.out.below (ho s)).at_ hjN hx 0 (by decide)
            have u1 : ∀ s : InC S, s.W.cell? ⟨g, j * 7 + 1, none⟩ = some (.int .i64 x.packet.id) := fun s => (HR.out.below (ho s)).at_ hjN hx 1 (by decide)
            have u2 : ∀ s : InC S, s.W.cell? ⟨g, j * 7 + 2, none⟩ = some (.int .i64 x.packet.source) := fun s => (HR.out.below (ho s)).at_ hjN hx 2 (by decide)
            have u3 : ∀ s : InC S, s.W.cell? ⟨g, j * 7 + 3, none⟩ = some (.int .i64 x.packet.dest) := fun s => (HR.out.below (ho s)).at_ hjN hx 3 (by decide)
            have u4 : ∀ s : InC S, s.W.cell? ⟨g, j * 7 + 4, none⟩ = some (.int .i64 x.packet.port) := fun s => (HR.out.below (ho s)).at_ hjN hx 4 (by decide)
            have u5 : ∀ s : InC S, s.W.cell? ⟨g, j * 7 + 5, none⟩ = some (.int .i64 x.packet.mark) := fun s => (HR.out.below (ho s)).at_ hjN hx 5 (by decide)
            have u6 : ∀ s : InC S, s.W.cell? ⟨g, j * 7 + 6, none⟩ = some (.int .i64 x.packet.size) := fun s => (HR.out.below (ho s)).at_ hjN hx 6 (by decide)
            have v0 : ∀ s : InC S, s.W.cell? ⟨g, q * 7, none⟩ = some (.int .i64 y.tick) := fun s => (HR.out.below (ho s)).at_ hqN hy 0 (by decide)
            have v1 : ∀ s : InC S, s.W.cell? ⟨g, q * 7 + 1, none⟩ = some (.int .i64 y.packet.id) := fun s => (HR.out.below (ho s)).at_ hqN hy 1 (by decide)
            have v2 : ∀ s : InC S, s.W.cell? ⟨g, q * 7 + 2, none⟩ = some (.int .i64 y.packet.source) := fun s => (HR.out.below (ho s)).at_ hqN hy 2 (by decide)
            have v3 : ∀ s : InC S, s.W.cell? ⟨g, q * 7 + 3, none⟩ = some (.int .i64 y.packet.dest) := fun s => (HR.out.below (ho s)).at_ hqN hy 3 (by decide)
            have v4 : ∀ s : InC S, s.W.cell? ⟨g, q * 7 + 4, none⟩ = some (.int .i64 y.packet.port) := fun s => (HR.out.below (ho s)).at_ hqN hy 4 (by decide)
            have v5 : ∀ s : InC S, s.W.cell? ⟨g, q * 7 + 5, none⟩ = some (.int .i64 y.packet.mark) := fun s => (HR.out.below (ho s)).at_ hqN hy 5 (by decide)
            have v6 : ∀ s : InC S, s.W.cell? ⟨g, q * 7 + 6, none⟩ = some (.int .i64 y.packet.size) := fun s => (HR.out.below (ho s)).at_ hqN hy 6 (by decide)
            repeat (go_big_quiet_step ((go_at_call 63; exact grow_call hkS (cmpT_any x y _) rfl)))
            refine wpQuiet_nil ?_
            rintro _ ⟨s, rfl⟩
            have R3 := HR.out.below (ho s)
            clear u0 u1 u2 u3 u4 u5 u6 v0 v1 v2 v3 v4 v5 v6 ho hkS hne
            generalize s.W = w2 at *
            clear s S
            clear HR
            have hjq : j ≠ q := by have := HQ.out.1; omega
            have R2 := Lib.hid (R3.swap hjN hqN hx hy).drew
            have cp := R3.seven hjN hx
            have cq := R3.seven hqN hy
            have fp := R3.froz j
            have fq := R3.froz q
            obtain ⟨n0, n1, n2, n3, n4, n5, n6, n7, n8, n9, n10, n11, n12, n13, n14, n15, n16, n17, n18, n19, n20, n21, n22, n23, n24, n25⟩ := apart7 (p := j) (q := q) (by omega)
            clear hx hy R3
            go_wp2_with fail
            go_region
            go_wp2_with fail
            go_roundw
            case rel =>
              have hr2 : InsI w0 base g N c a i di (.int .i64 (q : Int)) (put7 (put7 w2 g (j * 7) y) g (q * 7) x).drew := by
                have hq1 := HQ.out.1
                refine ⟨q, _, by omega, by omega, rfl, R2.out, ?_⟩
                rw [← HI.out]
                have := insInner_go ltT a j dj (by omega) (by rw [HLX.out]; simpa using hxy)
                rw [this, show j - 1 = q by omega]
              first | exact hr2 | ((repeat apply Exists.intro); exact ⟨hr2, rfl⟩)
            case measure => have := HQ.out.1; simp [intOf]; omega
          · have hc : ¬ cmpZ x.tick y.tick < 0 := by have := cmpZ_lt (a := x.tick) (b := y.tick); simpa [hxy] using this
            have hcd : decide (cmpZ x.tick y.tick < 0) = false := by simpa using hc
            go_wp2_with fail
            refine wp_region_grow (by kernel_rfl) (by kernel_rfl) ?_
            intro S hne hkS ho
            have u0 : ∀ s : InC S, s.W.cell? ⟨g, j * 7, none⟩ = some (.int .i64 x.tick) := fun s => (HR.out.below (ho s)).at_ hjN hx 0 (by decide)
            have u1 : ∀ s : InC S, s.W.cell? ⟨g, j * 7 + 1, none⟩ = some (.int .i64 x.packet.id) := fun s => (HR.out.below (ho s)).at_ hjN hx 1 (by decide)
            have u2 : ∀ s : InC S, s.W.cell? ⟨g, j * 7 + 2, none⟩ = some (.int .i64 x.packet.source) := fun s => (HR.out.below (ho s)).at_ hjN hx 2 (by decide)
            have u3 : ∀ s : InC S, s.W.cell? ⟨g, j * 7 + 3, none⟩ = some (.int .i64 x.packet.dest) := fun s => (HR.out.below (ho s)).at_ hjN hx 3 (by decide)
            have u4 : ∀ s : InC S, s.W.cell? ⟨g, j * 7 + 4, none⟩ = some (.int .i64 x.packet.port) := fun s => (HR.out.below (ho s)).at_ hjN hx 4 (by decide)
            have u5 : ∀ s : InC S, s.W.cell? ⟨g, j * 7 + 5, none⟩ = some (.int .i64 x.packet.mark) := fun s => (HR.out.below (ho s)).at_ hjN hx 5 (by decide)
            have u6 : ∀ s : InC S, s.W.cell? ⟨g, j * 7 + 6, none⟩ = some (.int .i64 x.packet.size) := fun s => (HR.out.below (ho s)).at_ hjN hx 6 (by decide)
            have v0 : ∀ s : InC S, s.W.cell? ⟨g, q * 7, none⟩ = some (.int .i64 y.tick) := fun s => (HR.out.below (ho s)).at_ hqN hy 0 (by decide)
            have v1 : ∀ s : InC S, s.W.cell? ⟨g, q * 7 + 1, none⟩ = some (.int .i64 y.packet.id) := fun s => (HR.out.below (ho s)).at_ hqN hy 1 (by decide)
            have v2 : ∀ s : InC S, s.W.cell? ⟨g, q * 7 + 2, none⟩ = some (.int .i64 y.packet.source) := fun s => (HR.out.below (ho s)).at_ hqN hy 2 (by decide)
            have v3 : ∀ s : InC S, s.W.cell? ⟨g, q * 7 + 3, none⟩ = some (.int .i64 y.packet.dest) := fun s => (HR.out.below (ho s)).at_ hqN hy 3 (by decide)
            have v4 : ∀ s : InC S, s.W.cell? ⟨g, q * 7 + 4, none⟩ = some (.int .i64 y.packet.port) := fun s => (HR.out.below (ho s)).at_ hqN hy 4 (by decide)
            have v5 : ∀ s : InC S, s.W.cell? ⟨g, q * 7 + 5, none⟩ = some (.int .i64 y.packet.mark) := fun s => (HR.out.below (ho s)).at_ hqN hy 5 (by decide)
            have v6 : ∀ s : InC S, s.W.cell? ⟨g, q * 7 + 6, none⟩ = some (.int .i64 y.packet.size) := fun s => (HR.out.below (ho s)).at_ hqN hy 6 (by decide)
            repeat (go_big_quiet_step ((go_at_call 63; exact grow_call hkS (cmpT_any x y _) rfl)))
            refine wpQuiet_nil ?_
            rintro _ ⟨s, rfl⟩
            have R3 := HR.out.below (ho s)
            clear u0 u1 u2 u3 u4 u5 u6 v0 v1 v2 v3 v4 v5 v6 ho hkS hne
            generalize s.W = w2 at *
            clear s S
            have R4 := Lib.hid R3
            clear HR hx hy R3
            go_wp2_with fail
            go_roundw
            case rel =>
              have hr2 : InsO w0 base g N c a b d (.int .i64 ((i : Int) + 1)) w2 := ⟨i + 1, dj, by omega, by omega, by simp, R4.out, OUT.out (.inr (by rw [HLX.out]; simpa using hxy))⟩
              first | exact hr2 | ((repeat apply Exists.intro); exact ⟨hr2, rfl⟩)
            case measure => simp [intOf]; omega
    · go_wp2_with fail
      go_end0
      refine ⟨rfl, ?_⟩
      have h := HO.out
      rw [insOuter_stop _ _ _ _ _ hlt] at h
      unfold insertionSort
      rw [← h]
      exact HR.out
end Go.Proofs.Ytnnihiajggdplaa
