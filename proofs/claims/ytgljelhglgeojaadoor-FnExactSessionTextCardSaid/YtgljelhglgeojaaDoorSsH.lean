/- The text of a session: contracts of the program's and the reference's. Condition: the library's table of powers of ten lies as its initialiser lays it. -/
import Derived.Test.YtgljelhglgeojaaDoorSsG
import Derived.Deep.RegionLaw
import Derived.Deep.DeepCutAuto
namespace Go.Proofs.YtgljelhglgeojaaDoor
open Go.RowKit

def curTz (f l s : Int) : List UInt8 := curT f.toNat l.toNat s.toNat
def headT (x : Ses) : List UInt8 := (((((curTz x.f x.l x.s ++ [32]) ++ dT x.st) ++ [32]) ++ dT x.ba) ++ [32]) ++ dT x.se
def sesT (x : Ses) : List UInt8 := if sesB x then (curTz x.f x.l x.s ++ [32]) ++ Lib.join ((x.st :: x.ba :: x.se :: x.zs).map dT) [32] else []
theorem sesT_head {x : Ses} (h : sesB x = true) : sesT x = headT x ++ Lib.joinTail [32] (x.zs.map dT) := by
  unfold sesT
  rw [if_pos h]
  simp [headT, Lib.join_cons, Lib.joinTail]
theorem specCurve_z (f l s : Int) (w : World) (hf : 0 ≤ f ∧ f ≤ 1000000000) (hl : 0 ≤ l ∧ l ≤ 1000000000) (hs : 0 ≤ s ∧ s ≤ 1000000000) : Calls Tryd.prog 11 #[.agg #[.int .i64 f, .int .i64 l, .int .i64 s]] w fun e w' => e = .returned (.string (bs (curTz f l s))) ∧ Below w.heap.size w w' := by
  obtain ⟨p, rfl⟩ := Int.eq_ofNat_of_zero_le hf.1
  obtain ⟨q, rfl⟩ := Int.eq_ofNat_of_zero_le hl.1
  obtain ⟨r, rfl⟩ := Int.eq_ofNat_of_zero_le hs.1
  exact specCurve_any p q r w (by omega) (by omega) (by omega)
theorem implCurve_z (f l s : Int) (w : World) (hf : 0 ≤ f ∧ f ≤ 1000000000) (hl : 0 ≤ l ∧ l ≤ 1000000000) (hs : 0 ≤ s ∧ s ≤ 1000000000) (ht : TabW w) : Calls Tryd.prog 16 #[.agg #[.int .i64 f, .int .i64 l, .int .i64 s]] w fun e w' => e = .returned (.string (bs (curTz f l s))) ∧ Below w.heap.size w w' := by
  obtain ⟨p, rfl⟩ := Int.eq_ofNat_of_zero_le hf.1
  obtain ⟨q, rfl⟩ := Int.eq_ofNat_of_zero_le hl.1
  obtain ⟨r, rfl⟩ := Int.eq_ofNat_of_zero_le hs.1
  exact implCurve_any p q r w (by omega) (by omega) (by omega) ht
theorem l1Num_z (z : Int) (w : World) (h : 0 ≤ z ∧ z ≤ 1000000000) : Calls Tryd.prog 12 #[.int .i64 z] w fun e w' => e = .returned (.string (bs (dT z))) ∧ Below w.heap.size w w' := by
  obtain ⟨n, rfl⟩ := Int.eq_ofNat_of_zero_le h.1
  exact l1Num_any n n w (Nat.le_refl _) (by omega)
theorem curTz_len (f l s : Int) (hf : 0 ≤ f ∧ f ≤ 1000000000) (hl : 0 ≤ l ∧ l ≤ 1000000000) (hs : 0 ≤ s ∧ s ≤ 1000000000) : (curTz f l s).length ≤ 65 := curT_len _ _ _ (by omega) (by omega) (by omega)
theorem head_sizes {c a b d : List UInt8} (hc : c.length ≤ 65) (ha : a.length ≤ 20) (hb : b.length ≤ 20) (hd : d.length ≤ 20) :
    (¬ 9223372036854775807 < (bs c).size + (bs [32]).size ∧ ¬ 9223372036854775807 < (bs c ++ bs [32]).size + (bs a).size ∧ ¬ 9223372036854775807 < (bs c ++ bs [32] ++ bs a).size + (bs [32]).size) ∧
    (¬ 9223372036854775807 < (bs c ++ bs [32] ++ bs a ++ bs [32]).size + (bs b).size ∧ ¬ 9223372036854775807 < (bs c ++ bs [32] ++ bs a ++ bs [32] ++ bs b).size + (bs [32]).size ∧ ¬ 9223372036854775807 < (bs c ++ bs [32] ++ bs a ++ bs [32] ++ bs b ++ bs [32]).size + (bs d).size) := by
  simp only [bs_app]
  exact ⟨⟨bs_two _ _ (by simp; omega), bs_two _ _ (by simp; omega), bs_two _ _ (by simp; omega)⟩, bs_two _ _ (by simp; omega), bs_two _ _ (by simp; omega), bs_two _ _ (by simp; omega)⟩
theorem headT_len {x : Ses} (hg : SesOk x) : (headT x).length ≤ 150 := by
  have h1 := curTz_len x.f x.l x.s ⟨hg.f.1, by have := hg.f.2; omega⟩ ⟨hg.l.1, by have := hg.l.2; omega⟩ ⟨hg.s.1, by have := hg.s.2; omega⟩
  have h2 := dT_len (z := x.st) (by have := hg.st.2; omega)
  have h3 := dT_len (z := x.ba) (by have := hg.ba.2; omega)
  have h4 := dT_len (z := x.se) (by have := hg.se.2; omega)
  simp [headT]; omega
theorem tail_len {zs : List Int} (h : ∀ z ∈ zs, z ≤ 1000000000) (k : Nat) : (Lib.joinTail [32] ((zs.map dT).take k)).length ≤ 21 * k := by
  rw [Lib.joinTail_length]
  have h1 := lens_le ((zs.map dT).take k) (fun y hy => by
    obtain ⟨z, hz, rfl⟩ := List.mem_map.1 (List.mem_of_mem_take hy)
    exact dT_len (h z hz))
  have h2 : ((zs.map dT).take k).length ≤ k := List.length_take_le _ _
  simp only [List.length_singleton, Nat.one_mul]
  omega
def TxRel (w : World) (n : Nat) (T : List UInt8) (zs : List Int) (v i : Value) (wr : World) : Prop := ∃ k : Nat, k ≤ n ∧ v = .string (bs (T ++ Lib.joinTail [32] ((zs.map dT).take k))) ∧ i = .int .i64 (k : Int) ∧ Below w.heap.size w wr

set_option maxRecDepth 100000 in
set_option maxHeartbeats 4000000 in
theorem specSessionText_any (x : SesV) (w : World) (hm : x.m ≤ 1048576) (hr : Rd w 1 x.A x.m (x.zs.map (Value.int .i64))) :
    Calls Tryd.prog 5 #[.agg #[.int .i64 x.f, .int .i64 x.l, .int .i64 x.s, .int .i64 x.st, .int .i64 x.ba, .int .i64 x.se, .slice x.A x.m x.c]] w fun e w' => e = .returned (.tuple #[.string (bs (sesT x.toSes)), .bool (sesB x.toSes)]) ∧ Below w.heap.size w w' := by
  have B0 := Blk.new w 32 [.int .i64 x.f, .int .i64 x.l, .int .i64 x.s, .int .i64 x.st, .int .i64 x.ba, .int .i64 x.se, .slice x.A x.m x.c]
  have z0 := ext_alloc (ext_refl w) (.cells (List.toArray [.int .i64 x.f, .int .i64 x.l, .int .i64 x.s, .int .i64 x.st, .int .i64 x.ba, .int .i64 x.se, .slice x.A x.m x.c]) 32)
  cases h : sesB x.toSes with
  | false =>
    have hT : sesT x.toSes = [] := by simp [sesT, h]
    rw [hT]
    go_enter Tryd.func5, Tryd.ntmps5
    go_wp2_with (go_at_call 10; refine (hfGood_any x _ hm (hr.below z0)).mono ?_; rintro e w1 ⟨rfl, hb1⟩)
    go_ret2
    exact ⟨rfl, ext_trans z0 hb1⟩
  | true =>
    rw [sesT_head h]
    have hg := sesB_iff.1 h
    have hf : 0 ≤ x.f ∧ x.f ≤ 1000000000 := ⟨hg.f.1, by have := hg.f.2; omega⟩
    have hl : 0 ≤ x.l ∧ x.l ≤ 1000000000 := ⟨hg.l.1, by have := hg.l.2; omega⟩
    have hs : 0 ≤ x.s ∧ x.s ≤ 1000000000 := ⟨hg.s.1, by have := hg.s.2; omega⟩
    have hst : 0 ≤ x.st ∧ x.st ≤ 1000000000 := ⟨hg.st.1, by have := hg.st.2; omega⟩
    have hba : 0 ≤ x.ba ∧ x.ba ≤ 1000000000 := ⟨hg.ba.1, by have := hg.ba.2; omega⟩
    have hse : 0 ≤ x.se ∧ x.se ≤ 1000000000 := ⟨by have := hg.se.1; have := hg.ba.1; omega, hg.se.2⟩
    have hzs : ∀ z ∈ x.zs, 0 ≤ z ∧ z ≤ 1000000000 := fun z hz => by have := hg.zs z hz; omega
    have hzl := hr.len1
    have h20 := hg.len
    have hm20 : x.m ≤ 20 := by omega
    have hc65 := curTz_len x.f x.l x.s hf hl hs
    have u1 : (⟨#[32]⟩ : ByteArray) = bs [32] := rfl
    obtain ⟨⟨s1, s2, s3⟩, s4, s5, s6⟩ := head_sizes hc65 (dT_len hst.2) (dT_len hba.2) (dT_len hse.2)
    have hhl := headT_len hg
    have hH : headT x.toSes = (((((curTz x.f x.l x.s ++ [32]) ++ dT x.st) ++ [32]) ++ dT x.ba) ++ [32]) ++ dT x.se := rfl
    have HZS := Lib.hid hzs
    have HZL := Lib.hid hzl
    have HHL := Lib.hid hhl
    have HH := Lib.hid hH
    clear hg hzs hzl hhl hc65 hH
    go_enter Tryd.func5, Tryd.ntmps5
    go_wp2_with (go_at_call 10; refine (hfGood_any x _ hm (hr.below z0)).mono ?_; rintro e w1 ⟨rfl, hb1⟩)
    have B1 := B0.below hb1
    have z1 := ext_trans z0 hb1
    clear B0 z0 hb1
    go_upto_region 3 with fail
    go_cut [4] (fun s4 wx => s4 = .string (bs (headT x.toSes)) ∧ Below w1.heap.size w1 wx)
    case first =>
      refine wp_region_grow (by kernel_rfl) (by kernel_rfl) ?_
      intro S hne hkS ho
      have e0 : ∀ s : InC S, s.W.cell? ⟨w.heap.size, 0, none⟩ = some (.int .i64 x.f) := fun s => (B1.below (ho s)).cell 0
      have e1 : ∀ s : InC S, s.W.cell? ⟨w.heap.size, 1, none⟩ = some (.int .i64 x.l) := fun s => (B1.below (ho s)).cell 1
      have e2 : ∀ s : InC S, s.W.cell? ⟨w.heap.size, 2, none⟩ = some (.int .i64 x.s) := fun s => (B1.below (ho s)).cell 2
      have e3 : ∀ s : InC S, s.W.cell? ⟨w.heap.size, 3, none⟩ = some (.int .i64 x.st) := fun s => (B1.below (ho s)).cell 3
      have e4 : ∀ s : InC S, s.W.cell? ⟨w.heap.size, 4, none⟩ = some (.int .i64 x.ba) := fun s => (B1.below (ho s)).cell 4
      have e5 : ∀ s : InC S, s.W.cell? ⟨w.heap.size, 5, none⟩ = some (.int .i64 x.se) := fun s => (B1.below (ho s)).cell 5
      have e6 : ∀ s : InC S, s.W.cell? ⟨w.heap.size, 6, none⟩ = some (.slice x.A x.m x.c) := fun s => (B1.below (ho s)).cell 6
      repeat (go_big_quiet_step ((first | (go_at_call 11; exact grow_call hkS (specCurve_z _ _ _ _ hf hl hs) rfl) | (go_at_call 12; first | with_reducible exact grow_call hkS (l1Num_z _ _ hst) rfl | with_reducible exact grow_call hkS (l1Num_z _ _ hba) rfl | with_reducible exact grow_call hkS (l1Num_z _ _ hse) rfl))))
      refine wpQuiet_nil ?_
      rintro _ ⟨s, rfl⟩
      have hg2 := ho s
      clear e0 e1 e2 e3 e4 e5 e6 ho hkS hne
      generalize s.W = w2 at *
      clear s S
      go_wp2_with fail
      go_meet
      exact ⟨by rw [HH.out]; simp only [bs_app], hg2⟩
    case rest =>
    obtain ⟨rfl, hg2⟩ := hcut
    generalize wc = w2 at *
    have B2 := B1.below hg2
    have z2 := ext_trans z1 hg2
    clear B1 z1 hg2 s1 s2 s3 s4 s5 s6
    obtain ⟨y2, x2, c2, f2⟩ := B2.seven
    go_wp2_with fail
    go_loopw [4, 31] (TxRel w x.m (headT x.toSes) x.zs) (fun _ i _ => x.m - (intOf i).toNat)
    case atStart => exact ⟨0, Nat.zero_le _, by simp [Lib.joinTail], rfl, z2⟩
    case round =>
      obtain ⟨k, hk, rfl, rfl, hb⟩ := hrel
      by_cases hlt : k < x.m
      · obtain ⟨b, o, z, hA, hbl, hzk, hcz⟩ := hr.int k hlt
        have hz1 := HZS.out z (List.mem_of_getElem? hzk)
        have hc' := (hb.cell (p := ⟨b, o + k, none⟩) hbl).trans hcz
        have hbr : b < wr.heap.size := Nat.lt_of_lt_of_le hbl hb.size
        have hjt : Lib.joinTail [32] ((x.zs.map dT).take (k + 1)) = Lib.joinTail [32] ((x.zs.map dT).take k) ++ [32] ++ dT z := Lib.joinTail_take_succ [32] (x.zs.map dT) k (dT z) (by rw [List.getElem?_map, hzk]; rfl)
        have hln := tail_len (fun z hz => (HZS.out z hz).2) k
        have hdz := dT_len hz1.2
        have t1 := bs_two [32] (dT z) (by simp; omega)
        have t2 : ¬ 9223372036854775807 < (bs (headT x.toSes ++ Lib.joinTail [32] ((x.zs.map dT).take k))).size + (bs [32] ++ bs (dT z)).size := by
          have := HHL.out
          rw [bs_app]
          exact bs_two _ _ (by simp; omega)
        generalize Lib.joinTail [32] ((x.zs.map dT).take k) = J at *
        have HJ := Lib.hid hjt
        clear hjt hzk hcz
        rw [hA]
        go_wp2_with (go_at_call 12; refine (l1Num_z _ _ hz1).mono ?_; rintro e w5 ⟨rfl, hb5⟩)
        go_roundw
        case rel =>
          have hr2 : TxRel w x.m (headT x.toSes) x.zs (.string (bs (headT x.toSes ++ J) ++ (bs [32] ++ bs (dT z)))) (.int .i64 ((k : Int) + 1)) w5 := ⟨k + 1, by omega, by rw [HJ.out, bs_app, bs_app]; simp, by simp, ext_trans hb hb5⟩
          first | exact hr2 | ((repeat apply Exists.intro); exact ⟨hr2, rfl⟩)
        case measure => simp [intOf]; omega
      · obtain rfl : k = x.m := by omega
        rw [List.take_of_length_le (by rw [List.length_map, HZL.out]; omega)]
        go_wp2_with fail
        go_ret2
        exact ⟨rfl, hb⟩

end Go.Proofs.YtgljelhglgeojaaDoor