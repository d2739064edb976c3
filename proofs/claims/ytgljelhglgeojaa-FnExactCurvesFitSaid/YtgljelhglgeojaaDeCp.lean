/- slices.Compact of few ints: what it leaves has the same members. -/
import Derived.Test.YtgljelhglgeojaaDeY
import Derived.Lib.SliceRun
import Derived.Laws.IdiomCopy
namespace Go.Proofs.Ytgljelhglgeojaa
open Go.RowKit

def Cp1 (w : World) (g n : Nat) (l : List Int) (rest : List Value) (i : Value) (wr : World) : Prop := ∃ k : Nat, 1 ≤ k ∧ k ≤ n ∧ i = .int .i64 k ∧ Blk wr g 3 (l.map (Value.int .i64) ++ rest) ∧ w.grownBy wr (some g)
def Cp2 (w : World) (g n k : Nat) (l : List Int) (rest : List Value) (i j : Value) (wr : World) : Prop :=
  ∃ (a b : Nat) (cur : List Int), k ≤ a ∧ 1 ≤ b ∧ a + 1 ≤ k + b ∧ b ≤ n - k ∧ i = .int .i64 a ∧ j = .int .i64 b ∧ Blk wr g 3 (cur.map (Value.int .i64) ++ rest) ∧ cur.length = n ∧ (∀ p, a ≤ p → cur[p]? = l[p]?) ∧ (∀ u, u ∈ cur.take a ↔ u ∈ l.take (k + b)) ∧ w.grownBy wr (some g)
theorem mem_take_succ {l : List Int} {k : Nat} {x : Int} (h : l[k]? = some x) : ∀ u, u ∈ l.take (k + 1) ↔ u ∈ l.take k ∨ u = x := by
  intro u
  rw [take_snoc h, List.mem_append, List.mem_singleton]
theorem mem_dup {l : List Int} {k : Nat} {x : Int} (hk : 0 < k) (hx : l[k]? = some x) (hy : l[k - 1]? = some x) : ∀ u, u ∈ l.take k ↔ u ∈ l.take (k + 1) := by
  intro u
  rw [mem_take_succ hx]
  refine ⟨fun h => .inl h, fun h => h.elim id fun e => ?_⟩
  subst e
  have : k = k - 1 + 1 := by omega
  rw [this, mem_take_succ hy]
  exact .inr rfl
theorem rd_pre {w : World} {g : Nat} {l : List Int} {rest : List Value} (hB : Blk w g 3 (l.map (Value.int .i64) ++ rest)) : Rd w 1 (some ⟨g, 0, none⟩) l.length (l.map (Value.int .i64)) :=
  ⟨by simp, fun _ => ⟨g, 0, rfl, hB.lt, fun j u hu => by
    have hj := (List.getElem?_eq_some_iff.1 hu).1
    rw [hB.cell, Nat.zero_add, List.getElem?_append_left hj]
    exact hu⟩⟩
theorem grown_setCells (g : Nat) : ∀ (vs : List Value) (o : Nat) {w w1 : World}, w.grownBy w1 (some g) → w.grownBy (w1.setCells g o vs) (some g)
  | [], _, _, _, h => h
  | v :: r, o, _, _, h => by rw [World.setCells]; exact grown_setCells g r (o + 1) (grownBy_setCell h o v)
theorem cells_out {w : World} {g a n : Nat} {l : List Int} {rest vs : List Value} (hB : Blk w g 3 (l.map (Value.int .i64) ++ rest)) (hl : l.length = n) (ha : a ≤ n) (_ha0 : 0 < a) : Rd (w.setCells g a vs) 1 (some ⟨g, 0, none⟩) a ((l.take a).map (Value.int .i64)) := by
  refine ⟨by simp; omega, fun _ => ⟨g, 0, rfl, ?_, fun j u hu => ?_⟩⟩
  · exact Nat.lt_of_lt_of_le hB.lt (grown_setCells g vs a (World.grownBy.refl w (some g))).size
  · rw [List.getElem?_map, List.getElem?_take] at hu
    split at hu
    · rename_i hj
      rw [World.cell?_setCells_out g vs a w ⟨g, 0 + j, none⟩ (fun _ _ => .inl (by simp only; omega)), hB.cell, Nat.zero_add, List.getElem?_append_left (by simp; omega), List.getElem?_map]
      exact hu
    · cases hu

set_option maxRecDepth 100000 in
set_option maxHeartbeats 8000000 in
theorem compact_any (g n c : Nat) (l : List Int) (rest : List Value) (w : World) (hn : 2 ≤ n) (hn2 : n ≤ 12) (hnc : n ≤ c) (hl : l.length = n) (hB : Blk w g 3 (l.map (Value.int .i64) ++ rest)) :
    Calls Try.prog 93 #[.slice (some ⟨g, 0, none⟩) n c] w fun e w' => ∃ (A' : Option Addr) (c' : Nat) (l' : List Int), e = .returned (.slice A' l'.length c') ∧ l'.length ≤ n ∧ Rd w' 1 A' l'.length (l'.map (Value.int .i64)) ∧ (∀ u, u ∈ l' ↔ u ∈ l) ∧ w.grownBy w' (some g) := by
  have HL := Lib.hid hl
  clear hl
  have zero3 : ∀ w, (zeroValue 3).run Try.prog w = .ok (.int .i64 0) w := fun w => by kernel_rfl
  go_enter Try.func93, Try.ntmps93
  go_wp2_with fail
  go_loopw [3] (Cp1 w g n l rest) (fun i _ => n - (intOf i).toNat)
  case atStart => exact ⟨1, Nat.le_refl _, by omega, rfl, hB, World.grownBy.refl _ _⟩
  case round =>
    obtain ⟨k, hk1, hk2, rfl, B1, G1⟩ := hrel
    clear hB
    by_cases hlt : k < n
    · have hx : l[k]? = some (l[k]'(by rw [HL.out]; exact hlt)) := List.getElem?_eq_getElem _
      have hy : l[k - 1]? = some (l[k - 1]'(by rw [HL.out]; omega)) := List.getElem?_eq_getElem _
      generalize l[k]'_ = x at hx
      generalize l[k - 1]'_ = y at hy
      have cx : wr.cell? ⟨g, k, none⟩ = some (.int .i64 x) := by rw [B1.cell]; exact map_get hx
      have cy : wr.cell? ⟨g, k - 1, none⟩ = some (.int .i64 y) := by rw [B1.cell]; exact map_get hy
      have HX := Lib.hid hx
      have HY := Lib.hid hy
      have i0 : (0 : Int) ≤ (k : Int) - 1 := by omega
      have i1 : (1 : Int) ≤ (k : Int) := by omega
      have i2 : ((k : Int) - 1).toNat = k - 1 := by omega
      have i3 : (k : Int) - 1 < (n : Int) := by omega
      have i4 : (k : Int) < (n : Int) := by omega
      have hwk := wrap_in ((k : Int) - 1) (by omega) (by omega)
      clear hx hy
      by_cases hxy : x = y
      · have hbe : (x == y) = true := by simpa using hxy
        have hck : ¬ c = k := by omega
        have i5 : (k : Int) ≤ (n : Int) := by omega
        have i6 : (n : Int) ≤ (c : Int) := by omega
        go_wp2_with fail
        go_quiet (fail)
        have B5 := B1.drewN nq
        have G5 := G1.trans (grown_drewN wr nq _)
        clear cx cy B1 G1 hwk i0 i2 i3
        generalize wr.drewN nq = w5 at *
        go_wp2_with fail
        have HXY := Lib.hid hxy
        go_loopw [3, 5] (Cp2 w g n k l rest) (fun _ j _ => n - k - (intOf j).toNat)
        case atStart => exact ⟨k, 1, l, Nat.le_refl _, Nat.le_refl _, Nat.le_refl _, by omega, rfl, rfl, B5, HL.out, fun _ _ => rfl, mem_dup (by omega) HX.out (by rw [HXY.out]; exact HY.out), G5⟩
        case round =>
          obtain ⟨a, b, cur, hka, hb1, hab, hbn, rfl, rfl, B6, hcl, hsame, hmem, G6⟩ := hrel
          have HCL := Lib.hid hcl
          have HSA := Lib.hid hsame
          have HME := Lib.hid hmem
          clear hcl hsame hmem B5 G5
          by_cases hbl : b < n - k
          · have hx2 : l[k + b]? = some (l[k + b]'(by rw [HL.out]; omega)) := List.getElem?_eq_getElem _
            have hy2 : l[k + (b - 1)]? = some (l[k + (b - 1)]'(by rw [HL.out]; omega)) := List.getElem?_eq_getElem _
            generalize l[k + b]'_ = x2 at hx2
            generalize l[k + (b - 1)]'_ = y2 at hy2
            have c1 : wr.cell? ⟨g, k + b, none⟩ = some (.int .i64 x2) := by rw [B6.cell]; exact map_get (by rw [HSA.out _ (by omega)]; exact hx2)
            have c2 : wr.cell? ⟨g, k + (b - 1), none⟩ = some (.int .i64 y2) := by rw [B6.cell]; exact map_get (by rw [HSA.out _ (by omega)]; exact hy2)
            obtain ⟨z, hz⟩ : ∃ z, wr.cell? ⟨g, a, none⟩ = some z := ⟨_, by rw [B6.cell]; exact List.getElem?_eq_getElem (by simp; have := HCL.out; omega)⟩
            have fz := B6.frozen a
            have HX2 := Lib.hid hx2
            have HY2 := Lib.hid hy2
            have j0 : (0 : Int) ≤ (b : Int) - 1 := by omega
            have j1 : (1 : Int) ≤ (b : Int) := by omega
            have j2 : ((b : Int) - 1).toNat = b - 1 := by omega
            have j3 : (b : Int) - 1 < ((n - k : Nat) : Int) := by omega
            have j4 : (b : Int) < ((n - k : Nat) : Int) := by omega
            have j5 : (a : Int) < (n : Int) := by omega
            have hwb := wrap_in ((b : Int) - 1) (by omega) (by omega)
            have hn20 : n ≤ 20 := by omega
            clear hx2 hy2
            by_cases he2 : x2 = y2
            · have hbe2 : (x2 != y2) = false := by simpa using he2
              have HE2 := Lib.hid he2
              go_wp2_with fail
              go_quiet (fail)
              go_wp2_with fail
              go_roundw
              case rel =>
                have hm : ∀ u, u ∈ cur.take a ↔ u ∈ l.take (k + (b + 1)) := fun u => by rw [HME.out, mem_dup (l := l) (k := k + b) (x := x2) (by omega) HX2.out (by rw [HE2.out, show k + b - 1 = k + (b - 1) by omega]; exact HY2.out), Nat.add_assoc]
                have hr2 : Cp2 w g n k l rest (.int .i64 (a : Int)) (.int .i64 ((b : Int) + 1)) (wr.drewN nq) := ⟨a, b + 1, cur, hka, by omega, by omega, by omega, rfl, by simp, B6.drewN nq, HCL.out, HSA.out, hm, G6.trans (grown_drewN _ _ _)⟩
                first | exact hr2 | ((repeat apply Exists.intro); exact ⟨hr2, rfl⟩)
              case measure => simp [intOf]; omega
            · have hbe2 : (x2 != y2) = true := by simpa using he2
              go_wp2_with fail
              go_quiet (fail)
              have B7 := B6.drewN nq
              have G7 := G6.trans (grown_drewN wr nq _)
              have d1 : (wr.drewN nq).cell? ⟨g, k + b, none⟩ = some (.int .i64 x2) := c1
              have dz : (wr.drewN nq).cell? ⟨g, a, none⟩ = some z := hz
              have ez := B7.frozen a
              clear c1 c2 hz fz B6 G6
              generalize wr.drewN nq = w6 at *
              go_wp2_with fail
              go_roundw
              case rel =>
                have hset := B7.set_ a (.int .i64 x2)
                rw [List.set_append_left _ _ (by simp; have := HCL.out; omega), ← List.map_set] at hset
                have hm : ∀ u, u ∈ (cur.set a x2).take (a + 1) ↔ u ∈ l.take (k + (b + 1)) := fun u => by
                  have hget : (cur.set a x2)[a]? = some x2 := by rw [List.getElem?_set]; simp; have := HCL.out; omega
                  rw [mem_take_succ hget, List.take_set_of_le (Nat.le_refl _), HME.out, ← Nat.add_assoc, mem_take_succ HX2.out]
                have hr2 : Cp2 w g n k l rest (.int .i64 ((a : Int) + 1)) (.int .i64 ((b : Int) + 1)) (w6.setCell ⟨g, a, none⟩ (.int .i64 x2)) := ⟨a + 1, b + 1, cur.set a x2, by omega, by omega, by omega, by omega, by simp, by simp, hset, by rw [List.length_set]; exact HCL.out, fun p hp => by rw [List.getElem?_set, if_neg (by omega)]; exact HSA.out p (by omega), hm, grownBy_setCell G7 a _⟩
                first | exact hr2 | ((repeat apply Exists.intro); exact ⟨hr2, rfl⟩)
              case measure => simp [intOf]; omega
          · have hca : ¬ c = a := by omega
            have k1 : (a : Int) ≤ (n : Int) := by omega
            have k2 : (n : Int) ≤ (c : Int) := by omega
            have k3 : (a : Int) ≤ (c : Int) := by omega
            have hcl : ∀ ty, (Builtin.clear_ #[32] ty #[.slice (some ⟨g, a, none⟩) (n - a) (c - a)]).run Try.prog wr = .ok (.tuple #[]) (wr.setCells g a (List.replicate (n - a) (.int .i64 0))) :=
              fun ty => Lib.run_clear_slice wr 32 3 ty (.int .i64 0) Try.underlying32 zero3 rfl rfl g a (n - a) (c - a) (by omega) (fun j hj => by rw [B6.cell, List.getElem?_eq_getElem (by simp; have := HCL.out; omega)]; rfl) (fun j hj => B6.frozen _)
            have HB6 := Lib.hid B6
            have HG6 := Lib.hid G6
            clear B6 G6
            go_wp2_with (simp only [hcl])
            go_ret
            have hla : (cur.take a).length = a := by rw [List.length_take, HCL.out]; omega
            refine ⟨some ⟨g, 0, none⟩, c, cur.take a, (show _ = Ending.returned (.slice (some ⟨g, 0, none⟩) (cur.take a).length c) by rw [hla]; rfl), by omega, ?_, fun u => ?_, grown_setCells g _ a HG6.out⟩
            · rw [hla]; exact cells_out HB6.out HCL.out (by omega) (by omega)
            · rw [HME.out, List.take_of_length_le (by rw [HL.out]; omega)]
      · have hbe : (x == y) = false := by simpa using hxy
        go_wp2_with fail
        go_quiet (fail)
        go_wp2_with fail
        go_roundw
        case rel =>
          have hr2 : Cp1 w g n l rest (.int .i64 ((k : Int) + 1)) (wr.drewN nq) := ⟨k + 1, by omega, by omega, by simp, B1.drewN nq, G1.trans (grown_drewN _ _ _)⟩
          first | exact hr2 | ((repeat apply Exists.intro); exact ⟨hr2, rfl⟩)
        case measure => simp [intOf]; omega
    · go_wp2_with fail
      go_ret
      exact ⟨some ⟨g, 0, none⟩, c, l, (show _ = Ending.returned (.slice (some ⟨g, 0, none⟩) l.length c) by rw [HL.out]; rfl), by rw [HL.out]; exact Nat.le_refl _, rd_pre B1, fun u => Iff.rfl, G1⟩

end Go.Proofs.Ytgljelhglgeojaa