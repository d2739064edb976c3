/- The text of a session: contract of the program's. Condition: the library's table of powers of ten lies as its initialiser lays it. -/
import Derived.Test.YtgljelhglgeojaaDoorSsH
import Derived.Test.YtgljelhglgeojaaDoorApp
import Derived.Deep.RegionHeld3
namespace Go.Proofs.YtgljelhglgeojaaDoor
open Go.RowKit

theorem infoIntS : (Tryd.prog.info? 3).map (fun i => (i.zero, i.size, i.bytes)) = some (some (.int .i64 0), 1, 8) := by kernel_rfl
theorem own3 {w : World} {g base : Nat} {a b c : Int} (h : Blk w g 3 [.int .i64 a, .int .i64 b, .int .i64 c]) (hb : base ≤ g) : w.ownsRow base 3 1 (.slice (some ⟨g, 0, none⟩) 3 3) 3 [.int .i64 a, .int .i64 b, .int .i64 c] := own_of_blk h rfl (by omega) hb
theorem join_any (A : Option Addr) (n c : Nat) (a b d : Int) (zs : List Int) (w : World) (hr : Rd w 1 A n ([.int .i64 a, .int .i64 b, .int .i64 d] ++ zs.map (Value.int .i64))) (h0 : 0 < n) (h40 : n ≤ 40) (ha : 0 ≤ a ∧ a ≤ 1000000000) (hb : 0 ≤ b ∧ b ≤ 1000000000) (hd : 0 ≤ d ∧ d ≤ 1000000000) (hz : ∀ z ∈ zs, 0 ≤ z ∧ z ≤ 1000000000) (ht : TabW w) :
    Calls Tryd.prog 17 #[.slice A n c] w fun e w' => e = .returned (.string (bs (Lib.join ((a :: b :: d :: zs).map dT) [32]))) ∧ Below w.heap.size w w' := by
  refine joinNumbers_any A n c (a :: b :: d :: zs) w (by simpa using hr) h0 h40 ?_ ht
  intro z hzm
  rcases List.mem_cons.1 hzm with rfl | hzm
  · exact ha
  · rcases List.mem_cons.1 hzm with rfl | hzm
    · exact hb
    · rcases List.mem_cons.1 hzm with rfl | hzm
      · exact hd
      · exact hz z hzm

set_option maxRecDepth 100000 in
set_option maxHeartbeats 4000000 in
theorem implSessionText_any (x : SesV) (w : World) (hm : x.m ≤ 1048576) (hr : Rd w 1 x.A x.m (x.zs.map (Value.int .i64))) (ht : TabW w) :
    Calls Tryd.prog 7 #[.agg #[.int .i64 x.f, .int .i64 x.l, .int .i64 x.s, .int .i64 x.st, .int .i64 x.ba, .int .i64 x.se, .slice x.A x.m x.c]] w fun e w' => e = .returned (.tuple #[.string (bs (sesT x.toSes)), .bool (sesB x.toSes)]) ∧ Below w.heap.size w w' := by
  obtain ⟨i0, hi, hz0, hz1, hz2⟩ := info_parts infoIntS
  have B0 := Blk.new w 32 [.int .i64 x.f, .int .i64 x.l, .int .i64 x.s, .int .i64 x.st, .int .i64 x.ba, .int .i64 x.se, .slice x.A x.m x.c]
  have z0 := ext_alloc (ext_refl w) (.cells (List.toArray [.int .i64 x.f, .int .i64 x.l, .int .i64 x.s, .int .i64 x.st, .int .i64 x.ba, .int .i64 x.se, .slice x.A x.m x.c]) 32)
  cases h : sesB x.toSes with
  | false =>
    have hT : sesT x.toSes = [] := by simp [sesT, h]
    rw [hT]
    go_enter Tryd.func7, Tryd.ntmps7
    go_wp2_with (go_at_call 15; refine (implIsSession_any x _ hm (hr.below z0)).mono ?_; rintro e w1 ⟨rfl, hb1⟩)
    go_ret2
    exact ⟨rfl, ext_trans z0 hb1⟩
  | true =>
    have hT : sesT x.toSes = (curTz x.f x.l x.s ++ [32]) ++ Lib.join ((x.st :: x.ba :: x.se :: x.zs).map dT) [32] := by simp only [sesT]; rw [if_pos h]
    rw [hT]
    clear hT
    have hg := sesB_iff.1 h
    have hf : 0 ≤ x.f ∧ x.f ≤ 1000000000 := ⟨hg.f.1, by have := hg.f.2; omega⟩
    have hl : 0 ≤ x.l ∧ x.l ≤ 1000000000 := ⟨hg.l.1, by have := hg.l.2; omega⟩
    have hs : 0 ≤ x.s ∧ x.s ≤ 1000000000 := ⟨hg.s.1, by have := hg.s.2; omega⟩
    have hst : 0 ≤ x.st ∧ x.st ≤ 1000000000 := ⟨hg.st.1, by have := hg.st.2; omega⟩
    have hba : 0 ≤ x.ba ∧ x.ba ≤ 1000000000 := ⟨hg.ba.1, by have := hg.ba.2; omega⟩
    have hse : 0 ≤ x.se ∧ x.se ≤ 1000000000 := ⟨by have := hg.se.1; have := hg.ba.1; omega, hg.se.2⟩
    have hzs : ∀ z ∈ x.zs, 0 ≤ z ∧ z ≤ 1000000000 := fun z hz => by have := hg.zs z hz; omega
    have hzl := hr.len1
    have h20 := hg.len
    have hm20 : x.m ≤ 20 := by omega
    have hc65 := curTz_len x.f x.l x.s hf hl hs
    have u1 : (⟨#[32]⟩ : ByteArray) = bs [32] := rfl
    have hm20 : x.m ≤ 20 := by omega
    have hjl := join_le (x.st :: x.ba :: x.se :: x.zs) (fun z hz => by
      rcases List.mem_cons.1 hz with rfl | hz
      · exact hst.2
      · rcases List.mem_cons.1 hz with rfl | hz
        · exact hba.2
        · rcases List.mem_cons.1 hz with rfl | hz
          · exact hse.2
          · exact (hzs z hz).2) (by simp; omega)
    have hja := fun (A : Option Addr) (c : Nat) (W : World) (hR : Rd W 1 A (3 + x.m) ([.int .i64 x.st, .int .i64 x.ba, .int .i64 x.se] ++ x.zs.map (Value.int .i64))) (hW : TabW W) => join_any A (3 + x.m) c x.st x.ba x.se x.zs W hR (by omega) (by omega) hst hba hse hzs hW
    generalize Lib.join ((x.st :: x.ba :: x.se :: x.zs).map dT) [32] = J at *
    have hca := fun (W : World) (hW : TabW W) => implCurve_z x.f x.l x.s W hf hl hs hW
    generalize curTz x.f x.l x.s = C at *
    have s1 := bs_two C [32] (by simp; omega)
    have s2 : ¬ 9223372036854775807 < (bs C ++ bs [32]).size + (bs J).size := by rw [bs_app]; exact bs_two _ _ (by simp; omega)
    have s3 : ¬ 9223372036854775807 < (bs C).size + (bs [32]).size + (bs J).size := by have h := s2; rwa [ByteArray.size_append] at h
    clear hg hzs hzl hc65 hjl
    go_enter Tryd.func7, Tryd.ntmps7
    go_wp2_with (go_at_call 15; refine (implIsSession_any x _ hm (hr.below z0)).mono ?_; rintro e w1 ⟨rfl, hb1⟩)
    have B1 := B0.below hb1
    have z1 := ext_trans z0 hb1
    clear B0 z0 hb1
    have BD := B1.drew
    have ZD := z1.drew
    have BC := (B1.alloc (.cells #[.int .i64 x.st, .int .i64 x.ba, .int .i64 x.se] 3)).drew
    have ZC := (ext_alloc z1 (.cells #[.int .i64 x.st, .int .i64 x.ba, .int .i64 x.se] 3)).drew
    have NC := (Blk.new w1 3 [.int .i64 x.st, .int .i64 x.ba, .int .i64 x.se]).drew
    have TD := ht.below ZD
    have TC := ht.below ZC
    have C1 := B1.seven.2.2.1
    have CD := BD.seven.2.2.1
    have CC := BC.seven.2.2.1
    go_region_held3 (fun w' => w'.cell? ⟨w.heap.size, 0, none⟩ = some (.int .i64 x.f) ∧ w'.cell? ⟨w.heap.size, 1, none⟩ = some (.int .i64 x.l) ∧ w'.cell? ⟨w.heap.size, 2, none⟩ = some (.int .i64 x.s) ∧ w'.cell? ⟨w.heap.size, 3, none⟩ = some (.int .i64 x.st) ∧ w'.cell? ⟨w.heap.size, 4, none⟩ = some (.int .i64 x.ba) ∧ w'.cell? ⟨w.heap.size, 5, none⟩ = some (.int .i64 x.se) ∧ w'.cell? ⟨w.heap.size, 6, none⟩ = some (.slice x.A x.m x.c))
      (first | with_reducible exact C5 | with_reducible exact C4 | with_reducible exact CA | with_reducible exact C3 | with_reducible exact CC | with_reducible exact CD | with_reducible exact C1)
      (first
      | (go_at_call 16; first
          | (have q5 := T5; with_reducible refine (hca _ T5).mono ?_; rintro e w3 ⟨rfl, hb3⟩; have B3 := B5.below hb3; have z3 := ext_trans z5 hb3; have C3 := B3.seven.2.2.1)
          | (have q4 := o4; with_reducible refine (hca _ T4).mono ?_; rintro e w3 ⟨rfl, hb3⟩; have B3 := B4.below hb3; have z3 := ext_trans z4 hb3; have T3 := T4.below hb3; have o3 := own_ext o4 hb3; have C3 := B3.seven.2.2.1)
          | (with_reducible refine (hca _ TC).mono ?_; rintro e w3 ⟨rfl, hb3⟩; have B3 := BC.below hb3; have z3 := ext_trans ZC hb3; have T3 := TC.below hb3; have N3 := NC.below hb3; have C3 := B3.seven.2.2.1)
          | (with_reducible refine (hca _ TD).mono ?_; rintro e w3 ⟨rfl, hb3⟩; have B3 := BD.below hb3; have z3 := ext_trans ZD hb3; have T3 := TD.below hb3; have C3 := B3.seven.2.2.1; have BA := B3.alloc (.cells #[.int .i64 x.st, .int .i64 x.ba, .int .i64 x.se] 3); have CA := BA.seven.2.2.1))
      | (have q1 := N3; refine step_append_rd (v := .slice (some ⟨w1.heap.size, 0, none⟩) 3 3) (size := 1) (bytes := 8) (base := w.heap.size) rfl (.tmp 17) (.tmp 19) rfl Tryd.underlying24 hi hz0 hz1 hz2 rfl (by decide) rfl (own3 N3 z1.size) x.A x.m x.c (x.zs.map (Value.int .i64)) rfl (hr.below z3) (ints_one _) (by unfold maxLen; omega) (by omega) (by have := z3.size; omega) ?_; intro v1 w4 o4 hg4; have z4 := own_grown z3 (own3 N3 z1.size) z3.size hg4; have B4 := B3.grown hg4 (by intro e; have h1 := B1.lt; have h3 := z1.size; simp [Value.ownBlock] at e; omega); have T4 := ht.below z4; have C4 := B4.seven.2.2.1; obtain ⟨A4, c4, rfl⟩ := own_shape o4)
      | (have q2 := CA; refine step_append_rd (v := .slice (some ⟨w3.heap.size, 0, none⟩) 3 3) (size := 1) (bytes := 8) (base := w.heap.size) rfl (.tmp 17) (.tmp 19) rfl Tryd.underlying24 hi hz0 hz1 hz2 rfl (by decide) rfl (own3 (Blk.new w3 3 [.int .i64 x.st, .int .i64 x.ba, .int .i64 x.se]) z3.size) x.A x.m x.c (x.zs.map (Value.int .i64)) rfl (hr.below (ext_alloc z3 (.cells #[.int .i64 x.st, .int .i64 x.ba, .int .i64 x.se] 3))) (ints_one _) (by unfold maxLen; omega) (by omega) (by have := z3.size; simp; omega) ?_; intro v1 w4 o4 hg4; have z4 := own_grown (ext_alloc z3 (.cells #[.int .i64 x.st, .int .i64 x.ba, .int .i64 x.se] 3)) (own3 (Blk.new w3 3 [.int .i64 x.st, .int .i64 x.ba, .int .i64 x.se]) z3.size) (by have := z3.size; simp; omega) hg4; have B4 := (B3.alloc (.cells #[.int .i64 x.st, .int .i64 x.ba, .int .i64 x.se] 3)).grown hg4 (by intro e; have h3 := B3.lt; simp [Value.ownBlock] at e; omega); have T4 := ht.below z4; have C4 := B4.seven.2.2.1; obtain ⟨A4, c4, rfl⟩ := own_shape o4)
      | (refine step_append_rd (v := .slice (some ⟨w1.heap.size, 0, none⟩) 3 3) (size := 1) (bytes := 8) (base := w.heap.size) rfl (.tmp 17) (.tmp 19) rfl Tryd.underlying24 hi hz0 hz1 hz2 rfl (by decide) rfl (own3 NC z1.size) x.A x.m x.c (x.zs.map (Value.int .i64)) rfl (hr.below ZC) (ints_one _) (by unfold maxLen; omega) (by omega) (by have := z1.size; simp; omega) ?_; intro v1 w4 o4 hg4; have z4 := own_grown ZC (own3 NC z1.size) (by have := z1.size; simp; omega) hg4; have B4 := BC.grown hg4 (by intro e; have h1 := B1.lt; simp [Value.ownBlock] at e; omega); have T4 := ht.below z4; have C4 := B4.seven.2.2.1; obtain ⟨A4, c4, rfl⟩ := own_shape o4)
      | (go_at_call 17; first
          | (have q3 := o3; with_reducible refine (hja A4 c4 w3 (Rd.of_own o3) T3).mono ?_; rintro e w5 ⟨rfl, hb5⟩; have z5 := ext_trans z3 hb5; have B5 := B3.below hb5; have C5 := B5.seven.2.2.1)
          | (with_reducible refine (hja A4 c4 w4 (Rd.of_own o4) T4).mono ?_; rintro e w5 ⟨rfl, hb5⟩; have z5 := ext_trans z4 hb5; have T5 := T4.below hb5; have B5 := B4.below hb5; have C5 := B5.seven.2.2.1)))
    all_goals (go_wp2_with fail; go_ret2; exact ⟨by simp only [bs_app]; rfl, z5⟩)

end Go.Proofs.YtgljelhglgeojaaDoor