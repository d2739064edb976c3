/- Numbers joined by blanks. Condition: the library's table of powers of ten lies as its initialiser lays it. -/
import Derived.Test.YtgljelhglgeojaaDoorSsF
import Derived.Lib.Join
namespace Go.Proofs.YtgljelhglgeojaaDoor
open Go.RowKit

def dT (z : Int) : List UInt8 := Lib.decDigits z.toNat
theorem dT_len {z : Int} (h : z ≤ 1000000000) : (dT z).length ≤ 20 := dec_len _ (by omega)
theorem lens_le : ∀ (l : List (List UInt8)), (∀ x ∈ l, x.length ≤ 20) → Lib.lens l ≤ 20 * l.length
  | [], _ => by simp [Lib.lens]
  | x :: r, h => by
    have h1 := h x (by simp)
    have h2 := lens_le r (fun y hy => h y (by simp [hy]))
    simp [Lib.lens] at h2 ⊢
    omega
theorem join_le (zs : List Int) (h : ∀ z ∈ zs, z ≤ 1000000000) (hl : zs.length ≤ 40) : (Lib.join (zs.map dT) [32]).length ≤ 900 := by
  cases zs with
  | nil => simp [Lib.join_nil]
  | cons z r =>
    have h1 := lens_le ((z :: r).map dT) (fun x hx => by
      obtain ⟨y, hy, rfl⟩ := List.mem_map.1 hx
      exact dT_len (h y hy))
    rw [List.map_cons] at h1 ⊢
    rw [Lib.join_length]
    simp at h1 hl ⊢
    omega
def JnRel (w1 : World) (zs : List Int) (v i : Value) (wr : World) : Prop := ∃ k : Nat, k ≤ zs.length ∧ i = .int .i64 (k : Int) ∧ OwnT w1 v ((zs.take k).map dT) wr
theorem bs_back (l : List (List UInt8)) : (l.map bs).map (fun x : ByteArray => x.data.toList) = l := by
  rw [List.map_map]
  have e : ((fun x : ByteArray => x.data.toList) ∘ bs) = id := by funext x; simp [bs]
  rw [e, List.map_id]
theorem itoa_z (z : Int) (w : World) (h0 : 0 ≤ z) (h1 : z ≤ 1000000000) (ht : TabW w) : Calls Tryd.prog 29 #[.int .i64 z] w fun e w' => e = .returned (.string (bs (dT z))) ∧ Below w.heap.size w w' := by
  obtain ⟨n, rfl⟩ := Int.eq_ofNat_of_zero_le h0
  exact itoa_any n w (by omega) ht

set_option maxHeartbeats 4000000 in
theorem joinNumbers_any (A : Option Addr) (n c : Nat) (zs : List Int) (w : World) (hr : Rd w 1 A n (zs.map (Value.int .i64))) (h0 : 0 < n) (h40 : n ≤ 40) (hz : ∀ z ∈ zs, 0 ≤ z ∧ z ≤ 1000000000) (ht : TabW w) :
    Calls Tryd.prog 17 #[.slice A n c] w fun e w' => e = .returned (.string (bs (Lib.join (zs.map dT) [32]))) ∧ Below w.heap.size w w' := by
  obtain ⟨i0, hi, hz0, hz1, hz2⟩ := info_parts infoStr
  have hl := hr.len1
  have hmk := fun W => run_make (P := Tryd.prog) W 50 9 i0 _ Tryd.underlying50 hi hz0 .i64 .i64 (0 : Int) (n : Int) (by omega) (by omega) (by rw [hz2]; omega) (by omega)
  rw [hz1] at hmk
  have HL := Lib.hid hl
  have HZ := Lib.hid hz
  have hjl := join_le zs (fun z hzm => (hz z hzm).2) (by omega)
  have HJL := Lib.hid hjl
  clear hl hz hjl
  go_enter Tryd.func17, Tryd.ntmps17
  go_wp2_with fail
  go_loopw [3, 11] (JnRel w zs) (fun _ i _ => n - (intOf i).toNat)
  case atStart =>
    refine ⟨0, Nat.zero_le _, rfl, ?_, (ext_refl w).alloc (Nat.le_refl _) _⟩
    exact World.ownsRow_made w _ n (Nat.le_refl _) (by unfold maxLen; omega) (by simp [madeCells])
  case round =>
    obtain ⟨k, hk, rfl, hO⟩ := hrel
    rw [HL.out] at hk
    by_cases hlt : k < n
    · obtain ⟨b, o, z, rfl, hbl, hzk, hcz⟩ := hr.int k hlt
      obtain ⟨z0, z1⟩ := HZ.out z (List.mem_of_getElem? hzk)
      have hc' := (hO.2.cell (p := ⟨b, o + k, none⟩) hbl).trans hcz
      have hbr : b < wr.heap.size := Nat.lt_of_lt_of_le hbl hO.2.size
      have ti := itoa_z z wr z0 z1 (ht.below hO.2)
      have hsu : (zs.take (k + 1)).map dT = (zs.take k).map dT ++ [dT z] := by rw [List.take_add_one, hzk]; simp
      have hlo : ((zs.take k).map dT).length ≤ k := by rw [List.length_map]; exact List.length_take_le _ _
      generalize (zs.take k).map dT = l at hO hsu hlo
      have HSU := Lib.hid hsu
      have HLO := Lib.hid hlo
      clear hsu hlo hzk hcz hmk
      go_wp2_with (first | (go_at_call 29; refine ti.mono ?_; rintro e w5 ⟨rfl, hb5⟩; have hO := ownT_ext hO hb5) | (at_builtin; refine wpList_append_own _ rfl (.tmp 15) (.tmp 18) 50 rfl w.heap.size 9 i0 (.string (bs [])) 1 16 Tryd.underlying50 hi hz0 hz1 hz2 rfl (by decide) _ _ _ rfl (hO.1.alloc _) ⟨w5.heap.size, 0, none⟩ 1 1 [.string (bs (dT z))] rfl rfl ?jn1 ?jn2 ?jn3 ?jn4 ?jn5 ?_))
      case jn1 => exact cell_one_new _ _ _
      case jn2 => simp [Value.oneCell']
      case jn3 => have := HLO.out; unfold maxLen; omega
      case jn4 => have := HLO.out; omega
      case jn5 => have := hO.2.size; simp; omega
      intro v' w6 hown1 hg1 _
      have hO3 := ownT_push hO hown1 hg1
      have HO3 := Lib.hid hO3
      clear hO3 hown1 hg1 hO
      go_wp2_with fail
      go_roundw
      case rel => first | exact ⟨k + 1, by rw [HL.out]; omega, by simp, by rw [HSU.out]; exact HO3.out⟩ | ((repeat apply Exists.intro); exact ⟨⟨k + 1, by rw [HL.out]; omega, by simp, by rw [HSU.out]; exact HO3.out⟩, rfl⟩)
      case measure => simp [intOf]; omega
    · obtain rfl : k = n := by omega
      rw [List.take_of_length_le (by rw [HL.out]; omega)] at hO
      have hlen : (zs.map dT).length = k := by rw [List.length_map, HL.out]
      have hO1 := hO.1
      rw [hlen] at hO1
      rcases hO1.2 with ⟨_, hno⟩ | ⟨g, cap, cur, rfl, hgb, hgc, hnc, hml, hsz, hval⟩
      · exact absurd hno (by omega)
      · have hrd := Rd.of_own hO1
        obtain ⟨b, o, he, hbl, hcell⟩ := hrd.2 h0
        injection he with he
        injection he with he1 he2
        subst he1; subst he2
        have hcs : ∀ (j : Nat) x, ((zs.map dT).map bs)[j]? = some x → wr.cell? ⟨g, 0 + j, none⟩ = some (.string x) := by
          intro j x hj
          rw [List.getElem?_map] at hj
          obtain ⟨y, hy, rfl⟩ := Option.map_eq_some_iff.1 hj
          exact hcell j _ (by unfold strs; rw [List.getElem?_map, hy]; rfl)
        have hjn := Tryd.strings_Join g 0 cap ((zs.map dT).map bs) (bs [32]) wr hcs hbl (by rw [List.length_map, hlen]; omega) (by rw [List.length_map, hlen]; exact hnc)
        rw [bs_back, List.length_map, hlen] at hjn
        have hjn2 := hjn (by have := HJL.out; show (Lib.join (zs.map dT) [32]).length ≤ _; omega)
        have HO := Lib.hid hO.2
        clear hjn hcs hcell hrd hO hO1 hgc hval hsz hmk
        go_wp2_with (go_at_call 30; refine hjn2.mono ?_; rintro e w7 ⟨rfl, hb7⟩)
        go_ret
        exact ⟨rfl, ext_trans HO.out hb7⟩

end Go.Proofs.YtgljelhglgeojaaDoor