/- Sessions that are handed back: copies, the session without its first packet, ServeOne; contracts. -/
import Derived.Test.YtgljelhglgeojaaDeD
import Derived.Deep.RegionHeld3
namespace Go.Proofs.Ytgljelhglgeojaa
open Go.RowKit

def RetRow (t : TypeId) (w : World) (xs : List Int) (e : Ending) (w' : World) : Prop := ∃ A c, e = .returned (.slice A xs.length c) ∧ w'.ownsRow w.heap.size t 1 (.slice A xs.length c) xs.length (xs.map (Value.int .i64)) ∧ Below w.heap.size w w'
theorem retRow_own {t : TypeId} {w w' : World} {xs : List Int} {v : Value} {n : Nat} (hn : n = xs.length) (ho : w'.ownsRow w.heap.size t 1 v n (xs.map (Value.int .i64))) (hb : Below w.heap.size w w') : RetRow t w xs (.returned v) w' := by
  subst hn
  obtain ⟨A, c, rfl⟩ := own_shape ho
  exact ⟨A, c, rfl, ho, hb⟩
def sesCells (y : Ses) (A : Option Addr) (m c : Nat) : List Value := [.int .i64 y.f, .int .i64 y.l, .int .i64 y.s, .int .i64 y.st, .int .i64 y.ba, .int .i64 y.se, .slice A m c]

set_option maxHeartbeats 2000000 in
theorem cloneI_any (A : Option Addr) (n c : Nat) (xs : List Int) (w : World) (hn : n ≤ 1048576) (hr : Rd w 1 A n (xs.map (Value.int .i64))) :
    Calls Try.prog 70 #[.slice A n c] w (RetRow 3 w xs) := by
  obtain ⟨i0, hi, hz0, hz1, hz2⟩ := info_parts infoInt
  have HL := Lib.hid hr.len1
  cases A with
  | none =>
    obtain rfl : n = 0 := by
      rcases Nat.eq_zero_or_pos n with h | h
      · exact h
      · obtain ⟨b, o, he, _⟩ := hr.2 h; cases he
    have hx : xs = [] := List.eq_nil_of_length_eq_zero (by rw [HL.out])
    subst hx
    have g0 := fun W => Lib.run_eql_slice_nil (P := Try.prog) W 32 3 none 0 c 0 0 Try.underlying32
    simp only [Option.isNone] at g0
    go_enter Try.func70, Try.ntmps70
    go_wp2_with fail
    go_ret
    exact ⟨none, 0, rfl, World.ownsRow_nil _ _ _ _, ext_refl w⟩
  | some ad =>
    have g0 := fun W => Lib.run_eql_slice_nil (P := Try.prog) W 32 3 (some ad) n c 0 0 Try.underlying32
    simp only [Option.isNone] at g0
    go_enter Try.func70, Try.ntmps70
    go_wp2_with (at_builtin; refine wpList_append_rd (size := 1) (bytes := 8) (base := w.heap.size) rfl (.tmp 5) (.tmp 6) rfl Try.underlying32 hi hz0 hz1 hz2 rfl (by decide) rfl (World.ownsRow_made w #[] 0 (Nat.le_refl _) (by unfold maxLen; omega) (by simp)) (some ad) n c (xs.map (Value.int .i64)) rfl (hr.alloc _) (ints_one xs) ?a1 ?a2 ?a3 ?_)
    case a1 => unfold maxLen; omega
    case a2 => omega
    case a3 => simp
    intro v' w1 ho hg
    go_wp2_with fail
    go_ret
    exact retRow_own (n := n) (by rw [HL.out]) (by simpa using ho) ((ext_alloc (ext_refl w) _).grown hg (by simp) (fun k hk => by simp [Value.ownBlock] at hk <;> omega))

set_option maxHeartbeats 2000000 in
theorem l1Own_any (A : Option Addr) (n c : Nat) (xs : List Int) (w : World) (hn : n ≤ 1048576) (hr : Rd w 1 A n (xs.map (Value.int .i64))) :
    Calls Try.prog 89 #[.slice A n c] w (RetRow 3 w xs) := by
  obtain ⟨i0, hi, hz0, hz1, hz2⟩ := info_parts infoInt
  have HL := Lib.hid hr.len1
  go_enter Try.func89, Try.ntmps89
  go_wp2_with (at_builtin; refine wpList_append_rd (size := 1) (bytes := 8) (base := w.heap.size) rfl (.tmp 3) (.tmp 4) rfl Try.underlying32 hi hz0 hz1 hz2 rfl (by decide) rfl (World.ownsRow_made w #[] 0 (Nat.le_refl _) (by unfold maxLen; omega) (by simp)) A n c (xs.map (Value.int .i64)) rfl (hr.alloc _) (ints_one xs) ?a1 ?a2 ?a3 ?_)
  case a1 => unfold maxLen; omega
  case a2 => omega
  case a3 => simp
  intro v' w1 ho hg
  go_wp2_with fail
  go_ret
  exact retRow_own (n := n) (by rw [HL.out]) (by simpa using ho) ((ext_alloc (ext_refl w) _).grown hg (by simp) (fun k hk => by simp [Value.ownBlock] at hk <;> omega))

set_option maxRecDepth 100000 in
set_option maxHeartbeats 2000000 in
theorem copySession_at (x : Ses) (A : Option Addr) (m c : Nat) (w : World) (hm : m ≤ 1048576) (hr : Rd w 1 A m (x.zs.map (Value.int .i64))) :
    Calls Try.prog 68 #[.agg #[.int .i64 x.f, .int .i64 x.l, .int .i64 x.s, .int .i64 x.st, .int .i64 x.ba, .int .i64 x.se, .slice A m c]] w fun e w' => ∃ A' c', e = .returned (.agg #[.int .i64 x.f, .int .i64 x.l, .int .i64 x.s, .int .i64 x.st, .int .i64 x.ba, .int .i64 x.se, .slice A' x.zs.length c']) ∧ w'.ownsRow w.heap.size 3 1 (.slice A' x.zs.length c') x.zs.length (x.zs.map (Value.int .i64)) ∧ Below w.heap.size w w' := by
  have b0 : Blk ((w.alloc (.cells (List.toArray [.int .i64 x.f, .int .i64 x.l, .int .i64 x.s, .int .i64 x.st, .int .i64 x.ba, .int .i64 x.se, .slice A m c]) 39)).alloc (.cells (List.toArray [.int .i64 0, .int .i64 0, .int .i64 0, .int .i64 0, .int .i64 0, .int .i64 0, .slice none 0 0]) 39)) w.heap.size 39 [.int .i64 x.f, .int .i64 x.l, .int .i64 x.s, .int .i64 x.st, .int .i64 x.ba, .int .i64 x.se, .slice A m c] := (Blk.new w 39 [.int .i64 x.f, .int .i64 x.l, .int .i64 x.s, .int .i64 x.st, .int .i64 x.ba, .int .i64 x.se, .slice A m c]).alloc _
  have r0 : Blk ((w.alloc (.cells (List.toArray [.int .i64 x.f, .int .i64 x.l, .int .i64 x.s, .int .i64 x.st, .int .i64 x.ba, .int .i64 x.se, .slice A m c]) 39)).alloc (.cells (List.toArray [.int .i64 0, .int .i64 0, .int .i64 0, .int .i64 0, .int .i64 0, .int .i64 0, .slice none 0 0]) 39)) (w.heap.size + 1) 39 [.int .i64 0, .int .i64 0, .int .i64 0, .int .i64 0, .int .i64 0, .int .i64 0, .slice none 0 0] := by have h := Blk.new (w.alloc (.cells (List.toArray [.int .i64 x.f, .int .i64 x.l, .int .i64 x.s, .int .i64 x.st, .int .i64 x.ba, .int .i64 x.se, .slice A m c]) 39)) 39 [.int .i64 0, .int .i64 0, .int .i64 0, .int .i64 0, .int .i64 0, .int .i64 0, .slice none 0 0]; rwa [World.size_alloc] at h
  have z0 : Below w.heap.size w ((w.alloc (.cells (List.toArray [.int .i64 x.f, .int .i64 x.l, .int .i64 x.s, .int .i64 x.st, .int .i64 x.ba, .int .i64 x.se, .slice A m c]) 39)).alloc (.cells (List.toArray [.int .i64 0, .int .i64 0, .int .i64 0, .int .i64 0, .int .i64 0, .int .i64 0, .slice none 0 0]) 39)) := ext_alloc (ext_alloc (ext_refl w) _) _
  go_enter Try.func68, Try.ntmps68
  go_wp2_with fail
  refine (cloneI_any A m c x.zs _ hm (hr.below z0)).mono ?_; rintro e w1 ⟨A1, c1, rfl, ow1, hb1⟩
  have b1 := b0.below hb1
  have r1 := r0.below hb1
  have z1 := ext_trans z0 hb1
  have own1 := own_base ow1 z0.size
  clear b0 r0 z0 hb1 ow1
  obtain ⟨yb, xb, cb, fb⟩ := b1.seven
  obtain ⟨yr, xr, cr, fr⟩ := r1.seven
  go_wp2_with fail
  have gA : w1.grownBy (w1.setCell ⟨w.heap.size, 6, none⟩ (.slice A1 x.zs.length c1)) (some w.heap.size) := grownBy_setCell (World.grownBy.refl w1 (some w.heap.size)) 6 _
  have own2 := own1.kept gA (.inr fun e => box_ne own1 b1 (by decide) e.symm)
  have r2 : Blk (w1.setCell ⟨w.heap.size, 6, none⟩ (.slice A1 x.zs.length c1)) (w.heap.size + 1) 39 [.int .i64 0, .int .i64 0, .int .i64 0, .int .i64 0, .int .i64 0, .int .i64 0, .slice none 0 0] := r1.far (p := ⟨w.heap.size, 6, none⟩) (by simp) _
  have z2 : Below w.heap.size w (w1.setCell ⟨w.heap.size, 6, none⟩ (.slice A1 x.zs.length c1)) := z1.setCell (p := ⟨w.heap.size, 6, none⟩) (by simp) _
  have gB := (grownBy_setCell (grownBy_setCell (grownBy_setCell (grownBy_setCell (grownBy_setCell (grownBy_setCell (grownBy_setCell (World.grownBy.refl (w1.setCell ⟨w.heap.size, 6, none⟩ (.slice A1 x.zs.length c1)) (some (w.heap.size + 1))) 0 (.int .i64 x.f)) 1 (.int .i64 x.l)) 2 (.int .i64 x.s)) 3 (.int .i64 x.st)) 4 (.int .i64 x.ba)) 5 (.int .i64 x.se)) 6 (.slice A1 x.zs.length c1))
  exact bodyPost_ret (v := .agg #[.int .i64 x.f, .int .i64 x.l, .int .i64 x.s, .int .i64 x.st, .int .i64 x.ba, .int .i64 x.se, .slice A1 x.zs.length c1]) (res_cell1 Try.results68 _ rfl (((((((r2.set_ 0 (.int .i64 x.f)).set_ 1 (.int .i64 x.l)).set_ 2 (.int .i64 x.s)).set_ 3 (.int .i64 x.st)).set_ 4 (.int .i64 x.ba)).set_ 5 (.int .i64 x.se)).set_ 6 (.slice A1 x.zs.length c1)) Try.underlying39 rfl (by kernel_rfl)) rfl ⟨A1, c1, rfl, own2.kept gB (.inr fun e => box_ne own2 r2 (by decide) e.symm), (((((((z2.setCell (p := ⟨w.heap.size + 1, 0, none⟩) (by simp) (.int .i64 x.f)).setCell (p := ⟨w.heap.size + 1, 1, none⟩) (by simp) (.int .i64 x.l)).setCell (p := ⟨w.heap.size + 1, 2, none⟩) (by simp) (.int .i64 x.s)).setCell (p := ⟨w.heap.size + 1, 3, none⟩) (by simp) (.int .i64 x.st)).setCell (p := ⟨w.heap.size + 1, 4, none⟩) (by simp) (.int .i64 x.ba)).setCell (p := ⟨w.heap.size + 1, 5, none⟩) (by simp) (.int .i64 x.se)).setCell (p := ⟨w.heap.size + 1, 6, none⟩) (by simp) (.slice A1 x.zs.length c1))⟩

set_option maxRecDepth 100000 in
set_option maxHeartbeats 4000000 in
theorem hfOwn_at (x : Ses) (A : Option Addr) (m c : Nat) (w : World) (hm : m ≤ 1048576) (hr : Rd w 1 A m (x.zs.map (Value.int .i64))) :
    Calls Try.prog 66 #[.agg #[.int .i64 x.f, .int .i64 x.l, .int .i64 x.s, .int .i64 x.st, .int .i64 x.ba, .int .i64 x.se, .slice A m c]] w fun e w' => ∃ A' c', e = .returned (.agg #[.int .i64 x.f, .int .i64 x.l, .int .i64 x.s, .int .i64 x.st, .int .i64 x.ba, .int .i64 x.se, .slice A' x.zs.length c']) ∧ w'.ownsRow w.heap.size 3 1 (.slice A' x.zs.length c') x.zs.length (x.zs.map (Value.int .i64)) ∧ Below w.heap.size w w' := by
  have b0 : Blk ((w.alloc (.cells (List.toArray [.int .i64 x.f, .int .i64 x.l, .int .i64 x.s, .int .i64 x.st, .int .i64 x.ba, .int .i64 x.se, .slice A m c]) 39)).alloc (.cells (List.toArray [.int .i64 0, .int .i64 0, .int .i64 0, .int .i64 0, .int .i64 0, .int .i64 0, .slice none 0 0]) 39)) w.heap.size 39 [.int .i64 x.f, .int .i64 x.l, .int .i64 x.s, .int .i64 x.st, .int .i64 x.ba, .int .i64 x.se, .slice A m c] := (Blk.new w 39 [.int .i64 x.f, .int .i64 x.l, .int .i64 x.s, .int .i64 x.st, .int .i64 x.ba, .int .i64 x.se, .slice A m c]).alloc _
  have r0 : Blk ((w.alloc (.cells (List.toArray [.int .i64 x.f, .int .i64 x.l, .int .i64 x.s, .int .i64 x.st, .int .i64 x.ba, .int .i64 x.se, .slice A m c]) 39)).alloc (.cells (List.toArray [.int .i64 0, .int .i64 0, .int .i64 0, .int .i64 0, .int .i64 0, .int .i64 0, .slice none 0 0]) 39)) (w.heap.size + 1) 39 [.int .i64 0, .int .i64 0, .int .i64 0, .int .i64 0, .int .i64 0, .int .i64 0, .slice none 0 0] := by have h := Blk.new (w.alloc (.cells (List.toArray [.int .i64 x.f, .int .i64 x.l, .int .i64 x.s, .int .i64 x.st, .int .i64 x.ba, .int .i64 x.se, .slice A m c]) 39)) 39 [.int .i64 0, .int .i64 0, .int .i64 0, .int .i64 0, .int .i64 0, .int .i64 0, .slice none 0 0]; rwa [World.size_alloc] at h
  have z0 : Below w.heap.size w ((w.alloc (.cells (List.toArray [.int .i64 x.f, .int .i64 x.l, .int .i64 x.s, .int .i64 x.st, .int .i64 x.ba, .int .i64 x.se, .slice A m c]) 39)).alloc (.cells (List.toArray [.int .i64 0, .int .i64 0, .int .i64 0, .int .i64 0, .int .i64 0, .int .i64 0, .slice none 0 0]) 39)) := ext_alloc (ext_alloc (ext_refl w) _) _
  have C0 := b0.drew.seven.2.2.1
  go_enter Try.func66, Try.ntmps66
  go_wp2_with fail
  go_region_held3 (fun w' => w'.cell? ⟨w.heap.size, 0, none⟩ = some (.int .i64 x.f) ∧ w'.cell? ⟨w.heap.size, 1, none⟩ = some (.int .i64 x.l) ∧ w'.cell? ⟨w.heap.size, 2, none⟩ = some (.int .i64 x.s) ∧ w'.cell? ⟨w.heap.size, 3, none⟩ = some (.int .i64 x.st) ∧ w'.cell? ⟨w.heap.size, 4, none⟩ = some (.int .i64 x.ba) ∧ w'.cell? ⟨w.heap.size, 5, none⟩ = some (.int .i64 x.se) ∧ w'.cell? ⟨w.heap.size, 6, none⟩ = some (.slice A m c))
    (first | with_reducible exact C2 | with_reducible exact C1 | with_reducible exact C0)
    (first | (go_at_call 89; refine (l1Own_any A m c x.zs _ hm (hr.below z0.drew)).mono ?_; rintro e w1 ⟨A1, c1, rfl, ow1, hb1⟩; have b1 := b0.drew.below hb1; have r1 := r0.drew.below hb1; have z1 := ext_trans z0.drew hb1; have own1 := own_base ow1 z0.drew.size; obtain ⟨yr, xr, cr, fr⟩ := r1.seven; have b2 := (((((((b1.far (p := ⟨w.heap.size + 1, 0, none⟩) (by simp) (.int .i64 x.f)).far (p := ⟨w.heap.size + 1, 1, none⟩) (by simp) (.int .i64 x.l)).far (p := ⟨w.heap.size + 1, 2, none⟩) (by simp) (.int .i64 x.s)).far (p := ⟨w.heap.size + 1, 3, none⟩) (by simp) (.int .i64 x.st)).far (p := ⟨w.heap.size + 1, 4, none⟩) (by simp) (.int .i64 x.ba)).far (p := ⟨w.heap.size + 1, 5, none⟩) (by simp) (.int .i64 x.se)).far (p := ⟨w.heap.size + 1, 6, none⟩) (by simp) (.slice A1 x.zs.length c1)); have C1 := b1.seven.2.2.1; have C2 := b2.seven.2.2.1))
  go_wp2_with fail
  have gB := (grownBy_setCell (grownBy_setCell (grownBy_setCell (grownBy_setCell (grownBy_setCell (grownBy_setCell (grownBy_setCell (World.grownBy.refl w1 (some (w.heap.size + 1))) 0 (.int .i64 x.f)) 1 (.int .i64 x.l)) 2 (.int .i64 x.s)) 3 (.int .i64 x.st)) 4 (.int .i64 x.ba)) 5 (.int .i64 x.se)) 6 (.slice A1 x.zs.length c1))
  exact bodyPost_ret (v := .agg #[.int .i64 x.f, .int .i64 x.l, .int .i64 x.s, .int .i64 x.st, .int .i64 x.ba, .int .i64 x.se, .slice A1 x.zs.length c1]) (res_cell1 Try.results66 _ rfl (((((((r1.set_ 0 (.int .i64 x.f)).set_ 1 (.int .i64 x.l)).set_ 2 (.int .i64 x.s)).set_ 3 (.int .i64 x.st)).set_ 4 (.int .i64 x.ba)).set_ 5 (.int .i64 x.se)).set_ 6 (.slice A1 x.zs.length c1)) Try.underlying39 rfl (by kernel_rfl)) rfl ⟨A1, c1, rfl, own1.kept gB (.inr fun e => box_ne own1 r1 (by decide) e.symm), (((((((z1.setCell (p := ⟨w.heap.size + 1, 0, none⟩) (by simp) (.int .i64 x.f)).setCell (p := ⟨w.heap.size + 1, 1, none⟩) (by simp) (.int .i64 x.l)).setCell (p := ⟨w.heap.size + 1, 2, none⟩) (by simp) (.int .i64 x.s)).setCell (p := ⟨w.heap.size + 1, 3, none⟩) (by simp) (.int .i64 x.st)).setCell (p := ⟨w.heap.size + 1, 4, none⟩) (by simp) (.int .i64 x.ba)).setCell (p := ⟨w.heap.size + 1, 5, none⟩) (by simp) (.int .i64 x.se)).setCell (p := ⟨w.heap.size + 1, 6, none⟩) (by simp) (.slice A1 x.zs.length c1))⟩

theorem rd_tail {w : World} {b o m : Nat} {A : Option Addr} {zs : List Int} (hr : Rd w 1 (some ⟨b, o, none⟩) m (zs.map (Value.int .i64))) (hA : A = some ⟨b, o + 1, none⟩ ∨ m = 1) (hpos : 0 < m) : Rd w 1 A (m - 1) (zs.tail.map (Value.int .i64)) := by
  have hl := hr.len1
  refine ⟨by simp; omega, fun hn => ?_⟩
  rcases hA with rfl | hA
  · obtain ⟨b', o', he, hb, hc⟩ := hr.2 hpos
    injection he with he
    injection he with h1 h2
    subst h1; subst h2
    refine ⟨b, o + 1, rfl, hb, fun j u hu => ?_⟩
    rw [show o + 1 + j = o + (j + 1) by omega]
    refine hc (j + 1) u ?_
    rw [List.getElem?_map] at hu ⊢
    rw [List.getElem?_tail] at hu
    exact hu
  · omega
theorem serve_eq {x : Ses} {z : Int} (h : needI x = x.se + z) : serveI x = ⟨x.f, x.l, x.s, x.st, x.ba, x.se + z, x.zs.tail⟩ := by unfold serveI; rw [h]

set_option maxRecDepth 100000 in
set_option maxHeartbeats 4000000 in
theorem hfServe_at (x : Ses) (A : Option Addr) (m c : Nat) (w : World) (h : SesOk x) (hm : m ≤ 1048576) (hmc : m ≤ c) (hpos : 0 < m) (hr : Rd w 1 A m (x.zs.map (Value.int .i64))) :
    Calls Try.prog 69 #[.agg #[.int .i64 x.f, .int .i64 x.l, .int .i64 x.s, .int .i64 x.st, .int .i64 x.ba, .int .i64 x.se, .slice A m c]] w fun e w' => ∃ A' c', e = .returned (.agg #[.int .i64 (serveI x).f, .int .i64 (serveI x).l, .int .i64 (serveI x).s, .int .i64 (serveI x).st, .int .i64 (serveI x).ba, .int .i64 (serveI x).se, .slice A' (serveI x).zs.length c']) ∧ w'.ownsRow w.heap.size 3 1 (.slice A' (serveI x).zs.length c') (serveI x).zs.length ((serveI x).zs.map (Value.int .i64)) ∧ Below w.heap.size w w' := by
  obtain ⟨b, o, z, rfl, hbl, hz, hcz⟩ := hr.int 0 hpos
  have b0 : Blk ((w.alloc (.cells (List.toArray [.int .i64 x.f, .int .i64 x.l, .int .i64 x.s, .int .i64 x.st, .int .i64 x.ba, .int .i64 x.se, .slice (some ⟨b, o, none⟩) m c]) 39)).alloc (.cells (List.toArray [.int .i64 0, .int .i64 0, .int .i64 0, .int .i64 0, .int .i64 0, .int .i64 0, .slice none 0 0]) 39)) w.heap.size 39 [.int .i64 x.f, .int .i64 x.l, .int .i64 x.s, .int .i64 x.st, .int .i64 x.ba, .int .i64 x.se, .slice (some ⟨b, o, none⟩) m c] := (Blk.new w 39 [.int .i64 x.f, .int .i64 x.l, .int .i64 x.s, .int .i64 x.st, .int .i64 x.ba, .int .i64 x.se, .slice (some ⟨b, o, none⟩) m c]).alloc _
  have r0 : Blk ((w.alloc (.cells (List.toArray [.int .i64 x.f, .int .i64 x.l, .int .i64 x.s, .int .i64 x.st, .int .i64 x.ba, .int .i64 x.se, .slice (some ⟨b, o, none⟩) m c]) 39)).alloc (.cells (List.toArray [.int .i64 0, .int .i64 0, .int .i64 0, .int .i64 0, .int .i64 0, .int .i64 0, .slice none 0 0]) 39)) (w.heap.size + 1) 39 [.int .i64 0, .int .i64 0, .int .i64 0, .int .i64 0, .int .i64 0, .int .i64 0, .slice none 0 0] := by have h := Blk.new (w.alloc (.cells (List.toArray [.int .i64 x.f, .int .i64 x.l, .int .i64 x.s, .int .i64 x.st, .int .i64 x.ba, .int .i64 x.se, .slice (some ⟨b, o, none⟩) m c]) 39)) 39 [.int .i64 0, .int .i64 0, .int .i64 0, .int .i64 0, .int .i64 0, .int .i64 0, .slice none 0 0]; rwa [World.size_alloc] at h
  have z0 : Below w.heap.size w ((w.alloc (.cells (List.toArray [.int .i64 x.f, .int .i64 x.l, .int .i64 x.s, .int .i64 x.st, .int .i64 x.ba, .int .i64 x.se, .slice (some ⟨b, o, none⟩) m c]) 39)).alloc (.cells (List.toArray [.int .i64 0, .int .i64 0, .int .i64 0, .int .i64 0, .int .i64 0, .int .i64 0, .slice none 0 0]) 39)) := ext_alloc (ext_alloc (ext_refl w) _) _
  have hse := h.se
  have hba := h.ba
  have hzb := h.zs z (List.mem_of_getElem? hz)
  simp only [Nat.add_zero] at hcz
  rw [serve_eq (need_at hz)]
  have hrt : ∀ (A : Option Addr) (w : World), Rd w 1 (some ⟨b, o, none⟩) m (x.zs.map (Value.int .i64)) → A = some ⟨b, o + 1, none⟩ ∨ m = 1 → Rd w 1 A (m - 1) (x.zs.tail.map (Value.int .i64)) := fun A w h1 h2 => rd_tail h1 h2 hpos
  generalize x.zs.tail = zt at *
  go_enter Try.func69, Try.ntmps69
  go_wp2_with fail
  refine (hfOwn_at x (some ⟨b, o, none⟩) m c _ hm (hr.below z0)).mono ?_; rintro e w1 ⟨A1, c1, rfl, ow1, hb1⟩
  have o2 := Blk.new w1 39 [.int .i64 x.f, .int .i64 x.l, .int .i64 x.s, .int .i64 x.st, .int .i64 x.ba, .int .i64 x.se, .slice A1 x.zs.length c1]
  have b1 := b0.below hb1
  have r1 := r0.below hb1
  have z1 := ext_trans z0 hb1
  have b2 := b1.alloc (.cells (List.toArray [.int .i64 x.f, .int .i64 x.l, .int .i64 x.s, .int .i64 x.st, .int .i64 x.ba, .int .i64 x.se, .slice A1 x.zs.length c1]) 39)
  have z2 := ext_alloc z1 (.cells (List.toArray [.int .i64 x.f, .int .i64 x.l, .int .i64 x.s, .int .i64 x.st, .int .i64 x.ba, .int .i64 x.se, .slice A1 x.zs.length c1]) 39)
  have hs1 : w.heap.size + 2 ≤ w1.heap.size := by have := hb1.size; simpa using this
  have cz := (z2.cell (p := ⟨b, o, none⟩) hbl).trans hcz
  obtain ⟨yb, xb, cb, fb⟩ := b2.seven
  obtain ⟨yo, xo, co, fo⟩ := o2.seven
  have i0 : (0 : Int) < (m : Int) := by omega
  have hw0 := wrap_in (x.se + z) (by omega) (by omega)
  clear b0 r0 z0 hb1 ow1 hz
  go_wp2_with fail
  go_region
  clear yb xb cb fb yo xo co fo cz
  have b3 := (b1.alloc (.cells (List.toArray [.int .i64 x.f, .int .i64 x.l, .int .i64 x.s, .int .i64 x.st, .int .i64 x.ba, .int .i64 (x.se + z), .slice A1 x.zs.length c1]) 39)).drew
  have r3 := (r1.alloc (.cells (List.toArray [.int .i64 x.f, .int .i64 x.l, .int .i64 x.s, .int .i64 x.st, .int .i64 x.ba, .int .i64 (x.se + z), .slice A1 x.zs.length c1]) 39)).drew
  have o3 := (Blk.new w1 39 [.int .i64 x.f, .int .i64 x.l, .int .i64 x.s, .int .i64 x.st, .int .i64 x.ba, .int .i64 (x.se + z), .slice A1 x.zs.length c1]).drew
  have z3 := (ext_alloc z1 (.cells (List.toArray [.int .i64 x.f, .int .i64 x.l, .int .i64 x.s, .int .i64 x.st, .int .i64 x.ba, .int .i64 (x.se + z), .slice A1 x.zs.length c1]) 39)).drew
  obtain ⟨yb, xb, cb, fb⟩ := b3.seven
  obtain ⟨yo, xo, co, fo⟩ := o3.seven
  have i1 : (1 : Int) ≤ (m : Int) := by omega
  have i2 : (m : Int) ≤ (c : Int) := by omega
  go_wp2_with fail
  all_goals
    refine (l1Own_any _ (m - 1) _ zt _ (by omega) (hrt _ _ (hr.below z3) (by first | exact .inl rfl | exact .inr (by omega)))).mono ?_; rintro e w4 ⟨A2, c2, rfl, ow4, hb4⟩
    have r4 := r3.below hb4
    have o4 := o3.below hb4
    have z4 := ext_trans z3 hb4
    have own4 := own_base ow4 z3.size
    clear yb xb cb fb yo xo co fo b3 r3 o3 z3 hb4 ow4
    obtain ⟨yr, xr, cr, fr⟩ := r4.seven
    obtain ⟨yo, xo, co, fo⟩ := o4.seven
    go_wp2_with fail
    have hne : w1.heap.size ≠ w.heap.size + 1 := by omega
    have hne2 : w.heap.size + 1 ≠ w1.heap.size := by omega
    have hle : w.heap.size ≤ w1.heap.size := by omega
    have gA : w4.grownBy (w4.setCell ⟨w1.heap.size, 6, none⟩ (.slice A2 zt.length c2)) (some w1.heap.size) := grownBy_setCell (World.grownBy.refl w4 (some w1.heap.size)) 6 _
    have own5 := own4.kept gA (.inr fun e => box_ne own4 o4 (by decide) e.symm)
    have r5 : Blk (w4.setCell ⟨w1.heap.size, 6, none⟩ (.slice A2 zt.length c2)) (w.heap.size + 1) 39 [.int .i64 0, .int .i64 0, .int .i64 0, .int .i64 0, .int .i64 0, .int .i64 0, .slice none 0 0] := r4.far (p := ⟨w1.heap.size, 6, none⟩) hne2 _
    have z5 : Below w.heap.size w (w4.setCell ⟨w1.heap.size, 6, none⟩ (.slice A2 zt.length c2)) := z4.setCell (p := ⟨w1.heap.size, 6, none⟩) hle _
    have gB := (grownBy_setCell (grownBy_setCell (grownBy_setCell (grownBy_setCell (grownBy_setCell (grownBy_setCell (grownBy_setCell (World.grownBy.refl (w4.setCell ⟨w1.heap.size, 6, none⟩ (.slice A2 zt.length c2)) (some (w.heap.size + 1))) 0 (.int .i64 x.f)) 1 (.int .i64 x.l)) 2 (.int .i64 x.s)) 3 (.int .i64 x.st)) 4 (.int .i64 x.ba)) 5 (.int .i64 (x.se + z))) 6 (.slice A2 zt.length c2))
    exact bodyPost_ret (v := .agg #[.int .i64 x.f, .int .i64 x.l, .int .i64 x.s, .int .i64 x.st, .int .i64 x.ba, .int .i64 (x.se + z), .slice A2 zt.length c2]) (res_cell1 Try.results69 _ rfl (((((((r5.set_ 0 (.int .i64 x.f)).set_ 1 (.int .i64 x.l)).set_ 2 (.int .i64 x.s)).set_ 3 (.int .i64 x.st)).set_ 4 (.int .i64 x.ba)).set_ 5 (.int .i64 (x.se + z))).set_ 6 (.slice A2 zt.length c2)) Try.underlying39 rfl (by kernel_rfl)) rfl ⟨A2, c2, rfl, own5.kept gB (.inr fun e => box_ne own5 r5 (by decide) e.symm), (((((((z5.setCell (p := ⟨w.heap.size + 1, 0, none⟩) (by simp) (.int .i64 x.f)).setCell (p := ⟨w.heap.size + 1, 1, none⟩) (by simp) (.int .i64 x.l)).setCell (p := ⟨w.heap.size + 1, 2, none⟩) (by simp) (.int .i64 x.s)).setCell (p := ⟨w.heap.size + 1, 3, none⟩) (by simp) (.int .i64 x.st)).setCell (p := ⟨w.heap.size + 1, 4, none⟩) (by simp) (.int .i64 x.ba)).setCell (p := ⟨w.heap.size + 1, 5, none⟩) (by simp) (.int .i64 (x.se + z))).setCell (p := ⟨w.heap.size + 1, 6, none⟩) (by simp) (.slice A2 zt.length c2))⟩

def zeroS : Ses := ⟨0, 0, 0, 0, 0, 0, []⟩
def serveB (x : Ses) : Bool := sesB x && !x.zs.isEmpty && decide (needI x ≤ 1000000000)
def serveR (x : Ses) : Ses := if serveB x then serveI x else zeroS
def serveZ (x : Ses) : Int := if serveB x then x.zs.headD 0 else 0
theorem serveR_no {x : Ses} (h : serveB x = false) : serveR x = zeroS := by simp [serveR, h]
theorem serveZ_no {x : Ses} (h : serveB x = false) : serveZ x = 0 := by simp [serveZ, h]
theorem serveR_yes {x : Ses} (h : serveB x = true) : serveR x = serveI x := by simp [serveR, h]
theorem serveZ_yes {x : Ses} {z : Int} (h : serveB x = true) (hz : x.zs[0]? = some z) : serveZ x = z := by
  simp only [serveZ, h, if_true]
  cases he : x.zs with
  | nil => simp [he] at hz
  | cons a b => simp [he] at hz; simp [hz]
theorem serveB_bad {x : Ses} (h : sesB x = false) : serveB x = false := by simp [serveB, h]
theorem serveB_nil {x : Ses} (h : x.zs.length = 0) : serveB x = false := by simp [serveB, List.eq_nil_of_length_eq_zero h]
theorem serveB_big {x : Ses} {z : Int} (hz : x.zs[0]? = some z) (h : 1000000000 < x.se + z) : serveB x = false := by
  have : ¬ x.se + z ≤ 1000000000 := by omega
  simp [serveB, need_at hz, this]
theorem serveB_ok {x : Ses} {z : Int} (h : sesB x = true) (hz : x.zs[0]? = some z) (hle : x.se + z ≤ 1000000000) : serveB x = true := by
  have h2 : x.zs.isEmpty = false := by cases he : x.zs with
    | nil => simp [he] at hz
    | cons a b => rfl
  simp [serveB, need_at hz, hle, h, h2]
theorem serve_good {x : Ses} {z : Int} (h : SesOk x) (hz : x.zs[0]? = some z) : sesB (serveI x) = decide (x.se + z ≤ 1000000000) := by
  rw [Bool.eq_iff_iff, decide_eq_true_eq, sesB_iff, ← need_at hz]
  constructor
  · intro h2; exact h2.se.2
  · intro h2; exact serve_ok h (ne_of_at hz) h2
theorem and8 {a b c d e f g h : Prop} (k : a ∧ b ∧ c ∧ d ∧ e ∧ f ∧ g) (l : h) : a ∧ b ∧ c ∧ d ∧ e ∧ f ∧ g ∧ h := ⟨k.1, k.2.1, k.2.2.1, k.2.2.2.1, k.2.2.2.2.1, k.2.2.2.2.2.1, k.2.2.2.2.2.2, l⟩

set_option maxRecDepth 100000 in
set_option maxHeartbeats 4000000 in
theorem implServeOne_at (x : Ses) (A : Option Addr) (m c : Nat) (w : World) (hm : m ≤ 1048576) (hmc : m ≤ c) (hr : Rd w 1 A m (x.zs.map (Value.int .i64))) :
    Calls Try.prog 34 #[.agg #[.int .i64 x.f, .int .i64 x.l, .int .i64 x.s, .int .i64 x.st, .int .i64 x.ba, .int .i64 x.se, .slice A m c]] w fun e w' => ∃ A' c', e = .returned (.tuple #[.agg #[.int .i64 (serveR x).f, .int .i64 (serveR x).l, .int .i64 (serveR x).s, .int .i64 (serveR x).st, .int .i64 (serveR x).ba, .int .i64 (serveR x).se, .slice A' (serveR x).zs.length c'], .int .i64 (serveZ x), .bool (serveB x)]) ∧ w'.ownsRow w.heap.size 3 1 (.slice A' (serveR x).zs.length c') (serveR x).zs.length ((serveR x).zs.map (Value.int .i64)) ∧ Below w.heap.size w w' := by
  have hl := hr.len1
  have HL := Lib.hid hl
  clear hl
  cases h1 : sesB x with
  | false =>
    have e0 : serveB x = false := serveB_bad h1
    rw [serveR_no e0, serveZ_no e0, e0]
    clear e0
    have b0 : Blk ((w.alloc (.cells (List.toArray [.int .i64 x.f, .int .i64 x.l, .int .i64 x.s, .int .i64 x.st, .int .i64 x.ba, .int .i64 x.se, .slice A m c]) 39)).alloc (.cells (List.toArray [.int .i64 0, .int .i64 0, .int .i64 0, .int .i64 0, .int .i64 0, .int .i64 0, .slice none 0 0]) 39)) w.heap.size 39 [.int .i64 x.f, .int .i64 x.l, .int .i64 x.s, .int .i64 x.st, .int .i64 x.ba, .int .i64 x.se, .slice A m c] := (Blk.new w 39 [.int .i64 x.f, .int .i64 x.l, .int .i64 x.s, .int .i64 x.st, .int .i64 x.ba, .int .i64 x.se, .slice A m c]).alloc _
    have r0 : Blk ((w.alloc (.cells (List.toArray [.int .i64 x.f, .int .i64 x.l, .int .i64 x.s, .int .i64 x.st, .int .i64 x.ba, .int .i64 x.se, .slice A m c]) 39)).alloc (.cells (List.toArray [.int .i64 0, .int .i64 0, .int .i64 0, .int .i64 0, .int .i64 0, .int .i64 0, .slice none 0 0]) 39)) (w.heap.size + 1) 39 [.int .i64 0, .int .i64 0, .int .i64 0, .int .i64 0, .int .i64 0, .int .i64 0, .slice none 0 0] := by have h := Blk.new (w.alloc (.cells (List.toArray [.int .i64 x.f, .int .i64 x.l, .int .i64 x.s, .int .i64 x.st, .int .i64 x.ba, .int .i64 x.se, .slice A m c]) 39)) 39 [.int .i64 0, .int .i64 0, .int .i64 0, .int .i64 0, .int .i64 0, .int .i64 0, .slice none 0 0]; rwa [World.size_alloc] at h
    have z0 : Below w.heap.size w ((w.alloc (.cells (List.toArray [.int .i64 x.f, .int .i64 x.l, .int .i64 x.s, .int .i64 x.st, .int .i64 x.ba, .int .i64 x.se, .slice A m c]) 39)).alloc (.cells (List.toArray [.int .i64 0, .int .i64 0, .int .i64 0, .int .i64 0, .int .i64 0, .int .i64 0, .slice none 0 0]) 39)) := ext_alloc (ext_alloc (ext_refl w) _) _
    go_enter Try.func34, Try.ntmps34
    go_wp2_with fail
    refine wp_region_grow (by kernel_rfl) (by kernel_rfl) ?_
    intro S hne hkS ho
    have c0 : ∀ s : InC S, s.W.cell? ⟨w.heap.size, 0, none⟩ = some (.int .i64 x.f) := fun s => (b0.below (ho s)).cell 0
    have c1 : ∀ s : InC S, s.W.cell? ⟨w.heap.size, 1, none⟩ = some (.int .i64 x.l) := fun s => (b0.below (ho s)).cell 1
    have c2 : ∀ s : InC S, s.W.cell? ⟨w.heap.size, 2, none⟩ = some (.int .i64 x.s) := fun s => (b0.below (ho s)).cell 2
    have c3 : ∀ s : InC S, s.W.cell? ⟨w.heap.size, 3, none⟩ = some (.int .i64 x.st) := fun s => (b0.below (ho s)).cell 3
    have c4 : ∀ s : InC S, s.W.cell? ⟨w.heap.size, 4, none⟩ = some (.int .i64 x.ba) := fun s => (b0.below (ho s)).cell 4
    have c5 : ∀ s : InC S, s.W.cell? ⟨w.heap.size, 5, none⟩ = some (.int .i64 x.se) := fun s => (b0.below (ho s)).cell 5
    have c6 : ∀ s : InC S, s.W.cell? ⟨w.heap.size, 6, none⟩ = some (.slice A m c) := fun s => (b0.below (ho s)).cell 6
    repeat (go_big_quiet_step ((go_at_call 21; exact grow_call hkS (implIsSession_at x A m c _ hm (hr.below (ext_trans z0 (ho _)))) (bool_is h1))))
    refine wpQuiet_nil ?_
    rintro _ ⟨s, rfl⟩
    have hg1 := ho s
    clear c0 c1 c2 c3 c4 c5 c6 ho hkS hne
    generalize s.W = w1 at *
    clear s S
    have r1 := r0.below hg1
    have z1 := ext_trans z0 hg1
    obtain ⟨yr, xr, cr, fr⟩ := r1.seven
    go_wp2_with fail
    exact bodyPost_ret (v := .tuple #[.agg #[.int .i64 0, .int .i64 0, .int .i64 0, .int .i64 0, .int .i64 0, .int .i64 0, .slice none 0 0], .int .i64 0, .bool false]) (res_cell3 Try.results34 _ rfl (((((((r1.set_ 0 (.int .i64 0)).set_ 1 (.int .i64 0)).set_ 2 (.int .i64 0)).set_ 3 (.int .i64 0)).set_ 4 (.int .i64 0)).set_ 5 (.int .i64 0)).set_ 6 (.slice none 0 0)) Try.underlying39 rfl (by kernel_rfl)) rfl ⟨none, 0, rfl, World.ownsRow_nil _ _ _ _, (((((((z1.setCell (p := ⟨w.heap.size + 1, 0, none⟩) (by simp) (.int .i64 0)).setCell (p := ⟨w.heap.size + 1, 1, none⟩) (by simp) (.int .i64 0)).setCell (p := ⟨w.heap.size + 1, 2, none⟩) (by simp) (.int .i64 0)).setCell (p := ⟨w.heap.size + 1, 3, none⟩) (by simp) (.int .i64 0)).setCell (p := ⟨w.heap.size + 1, 4, none⟩) (by simp) (.int .i64 0)).setCell (p := ⟨w.heap.size + 1, 5, none⟩) (by simp) (.int .i64 0)).setCell (p := ⟨w.heap.size + 1, 6, none⟩) (by simp) (.slice none 0 0))⟩
  | true =>
    have hok := sesB_iff.1 h1
    rcases Nat.eq_zero_or_pos m with hm0 | hpos
    · subst hm0
      have e0 : serveB x = false := serveB_nil HL.out
      rw [serveR_no e0, serveZ_no e0, e0]
      clear e0
      have b0 : Blk ((w.alloc (.cells (List.toArray [.int .i64 x.f, .int .i64 x.l, .int .i64 x.s, .int .i64 x.st, .int .i64 x.ba, .int .i64 x.se, .slice A 0 c]) 39)).alloc (.cells (List.toArray [.int .i64 0, .int .i64 0, .int .i64 0, .int .i64 0, .int .i64 0, .int .i64 0, .slice none 0 0]) 39)) w.heap.size 39 [.int .i64 x.f, .int .i64 x.l, .int .i64 x.s, .int .i64 x.st, .int .i64 x.ba, .int .i64 x.se, .slice A 0 c] := (Blk.new w 39 [.int .i64 x.f, .int .i64 x.l, .int .i64 x.s, .int .i64 x.st, .int .i64 x.ba, .int .i64 x.se, .slice A 0 c]).alloc _
      have r0 : Blk ((w.alloc (.cells (List.toArray [.int .i64 x.f, .int .i64 x.l, .int .i64 x.s, .int .i64 x.st, .int .i64 x.ba, .int .i64 x.se, .slice A 0 c]) 39)).alloc (.cells (List.toArray [.int .i64 0, .int .i64 0, .int .i64 0, .int .i64 0, .int .i64 0, .int .i64 0, .slice none 0 0]) 39)) (w.heap.size + 1) 39 [.int .i64 0, .int .i64 0, .int .i64 0, .int .i64 0, .int .i64 0, .int .i64 0, .slice none 0 0] := by have h := Blk.new (w.alloc (.cells (List.toArray [.int .i64 x.f, .int .i64 x.l, .int .i64 x.s, .int .i64 x.st, .int .i64 x.ba, .int .i64 x.se, .slice A 0 c]) 39)) 39 [.int .i64 0, .int .i64 0, .int .i64 0, .int .i64 0, .int .i64 0, .int .i64 0, .slice none 0 0]; rwa [World.size_alloc] at h
      have z0 : Below w.heap.size w ((w.alloc (.cells (List.toArray [.int .i64 x.f, .int .i64 x.l, .int .i64 x.s, .int .i64 x.st, .int .i64 x.ba, .int .i64 x.se, .slice A 0 c]) 39)).alloc (.cells (List.toArray [.int .i64 0, .int .i64 0, .int .i64 0, .int .i64 0, .int .i64 0, .int .i64 0, .slice none 0 0]) 39)) := ext_alloc (ext_alloc (ext_refl w) _) _
      go_enter Try.func34, Try.ntmps34
      go_wp2_with fail
      refine wp_region_grow (by kernel_rfl) (by kernel_rfl) ?_
      intro S hne hkS ho
      have c0 : ∀ s : InC S, s.W.cell? ⟨w.heap.size, 0, none⟩ = some (.int .i64 x.f) := fun s => (b0.below (ho s)).cell 0
      have c1 : ∀ s : InC S, s.W.cell? ⟨w.heap.size, 1, none⟩ = some (.int .i64 x.l) := fun s => (b0.below (ho s)).cell 1
      have c2 : ∀ s : InC S, s.W.cell? ⟨w.heap.size, 2, none⟩ = some (.int .i64 x.s) := fun s => (b0.below (ho s)).cell 2
      have c3 : ∀ s : InC S, s.W.cell? ⟨w.heap.size, 3, none⟩ = some (.int .i64 x.st) := fun s => (b0.below (ho s)).cell 3
      have c4 : ∀ s : InC S, s.W.cell? ⟨w.heap.size, 4, none⟩ = some (.int .i64 x.ba) := fun s => (b0.below (ho s)).cell 4
      have c5 : ∀ s : InC S, s.W.cell? ⟨w.heap.size, 5, none⟩ = some (.int .i64 x.se) := fun s => (b0.below (ho s)).cell 5
      have c6 : ∀ s : InC S, s.W.cell? ⟨w.heap.size, 6, none⟩ = some (.slice A 0 c) := fun s => (b0.below (ho s)).cell 6
      repeat (go_big_quiet_step ((go_at_call 21; exact grow_call hkS (implIsSession_at x A 0 c _ hm (hr.below (ext_trans z0 (ho _)))) (bool_is h1))))
      refine wpQuiet_nil ?_
      rintro _ ⟨s, rfl⟩
      have hg1 := ho s
      clear c0 c1 c2 c3 c4 c5 c6 ho hkS hne
      generalize s.W = w1 at *
      clear s S
      have r1 := r0.below hg1
      have z1 := ext_trans z0 hg1
      obtain ⟨yr, xr, cr, fr⟩ := r1.seven
      go_wp2_with fail
      exact bodyPost_ret (v := .tuple #[.agg #[.int .i64 0, .int .i64 0, .int .i64 0, .int .i64 0, .int .i64 0, .int .i64 0, .slice none 0 0], .int .i64 0, .bool false]) (res_cell3 Try.results34 _ rfl (((((((r1.set_ 0 (.int .i64 0)).set_ 1 (.int .i64 0)).set_ 2 (.int .i64 0)).set_ 3 (.int .i64 0)).set_ 4 (.int .i64 0)).set_ 5 (.int .i64 0)).set_ 6 (.slice none 0 0)) Try.underlying39 rfl (by kernel_rfl)) rfl ⟨none, 0, rfl, World.ownsRow_nil _ _ _ _, (((((((z1.setCell (p := ⟨w.heap.size + 1, 0, none⟩) (by simp) (.int .i64 0)).setCell (p := ⟨w.heap.size + 1, 1, none⟩) (by simp) (.int .i64 0)).setCell (p := ⟨w.heap.size + 1, 2, none⟩) (by simp) (.int .i64 0)).setCell (p := ⟨w.heap.size + 1, 3, none⟩) (by simp) (.int .i64 0)).setCell (p := ⟨w.heap.size + 1, 4, none⟩) (by simp) (.int .i64 0)).setCell (p := ⟨w.heap.size + 1, 5, none⟩) (by simp) (.int .i64 0)).setCell (p := ⟨w.heap.size + 1, 6, none⟩) (by simp) (.slice none 0 0))⟩
    · obtain ⟨b, o, z, rfl, hbl, hz, hcz⟩ := hr.int 0 hpos
      have b0 : Blk ((w.alloc (.cells (List.toArray [.int .i64 x.f, .int .i64 x.l, .int .i64 x.s, .int .i64 x.st, .int .i64 x.ba, .int .i64 x.se, .slice (some ⟨b, o, none⟩) m c]) 39)).alloc (.cells (List.toArray [.int .i64 0, .int .i64 0, .int .i64 0, .int .i64 0, .int .i64 0, .int .i64 0, .slice none 0 0]) 39)) w.heap.size 39 [.int .i64 x.f, .int .i64 x.l, .int .i64 x.s, .int .i64 x.st, .int .i64 x.ba, .int .i64 x.se, .slice (some ⟨b, o, none⟩) m c] := (Blk.new w 39 [.int .i64 x.f, .int .i64 x.l, .int .i64 x.s, .int .i64 x.st, .int .i64 x.ba, .int .i64 x.se, .slice (some ⟨b, o, none⟩) m c]).alloc _
      have r0 : Blk ((w.alloc (.cells (List.toArray [.int .i64 x.f, .int .i64 x.l, .int .i64 x.s, .int .i64 x.st, .int .i64 x.ba, .int .i64 x.se, .slice (some ⟨b, o, none⟩) m c]) 39)).alloc (.cells (List.toArray [.int .i64 0, .int .i64 0, .int .i64 0, .int .i64 0, .int .i64 0, .int .i64 0, .slice none 0 0]) 39)) (w.heap.size + 1) 39 [.int .i64 0, .int .i64 0, .int .i64 0, .int .i64 0, .int .i64 0, .int .i64 0, .slice none 0 0] := by have h := Blk.new (w.alloc (.cells (List.toArray [.int .i64 x.f, .int .i64 x.l, .int .i64 x.s, .int .i64 x.st, .int .i64 x.ba, .int .i64 x.se, .slice (some ⟨b, o, none⟩) m c]) 39)) 39 [.int .i64 0, .int .i64 0, .int .i64 0, .int .i64 0, .int .i64 0, .int .i64 0, .slice none 0 0]; rwa [World.size_alloc] at h
      have z0 : Below w.heap.size w ((w.alloc (.cells (List.toArray [.int .i64 x.f, .int .i64 x.l, .int .i64 x.s, .int .i64 x.st, .int .i64 x.ba, .int .i64 x.se, .slice (some ⟨b, o, none⟩) m c]) 39)).alloc (.cells (List.toArray [.int .i64 0, .int .i64 0, .int .i64 0, .int .i64 0, .int .i64 0, .int .i64 0, .slice none 0 0]) 39)) := ext_alloc (ext_alloc (ext_refl w) _) _
      have hse := hok.se
      have hba := hok.ba
      have hzb := hok.zs z (List.mem_of_getElem? hz)
      simp only [Nat.add_zero] at hcz
      have HC := Lib.hid hcz
      have HBL := Lib.hid hbl
      have HZ := Lib.hid hz
      have i0 : (0 : Int) < (m : Int) := by omega
      have i1 : ((m : Int) == 0) = false := by simp; omega
      have hw0 := wrap_in (x.se + z) (by omega) (by omega)
      clear hcz hz
      by_cases hbig : 1000000000 < x.se + z
      · have g1 : decide (1000000000 < x.se + z) = true := by simp; omega
        have e0 : serveB x = false := serveB_big HZ.out hbig
        rw [serveR_no e0, serveZ_no e0, e0]
        clear e0
        go_enter Try.func34, Try.ntmps34
        go_wp2_with fail
        refine wp_region_grow (by kernel_rfl) (by kernel_rfl) ?_
        intro S hne hkS ho
        have c0 : ∀ s : InC S, s.W.cell? ⟨w.heap.size, 0, none⟩ = some (.int .i64 x.f) := fun s => (b0.below (ho s)).cell 0
        have c1 : ∀ s : InC S, s.W.cell? ⟨w.heap.size, 1, none⟩ = some (.int .i64 x.l) := fun s => (b0.below (ho s)).cell 1
        have c2 : ∀ s : InC S, s.W.cell? ⟨w.heap.size, 2, none⟩ = some (.int .i64 x.s) := fun s => (b0.below (ho s)).cell 2
        have c3 : ∀ s : InC S, s.W.cell? ⟨w.heap.size, 3, none⟩ = some (.int .i64 x.st) := fun s => (b0.below (ho s)).cell 3
        have c4 : ∀ s : InC S, s.W.cell? ⟨w.heap.size, 4, none⟩ = some (.int .i64 x.ba) := fun s => (b0.below (ho s)).cell 4
        have c5 : ∀ s : InC S, s.W.cell? ⟨w.heap.size, 5, none⟩ = some (.int .i64 x.se) := fun s => (b0.below (ho s)).cell 5
        have c6 : ∀ s : InC S, s.W.cell? ⟨w.heap.size, 6, none⟩ = some (.slice (some ⟨b, o, none⟩) m c) := fun s => (b0.below (ho s)).cell 6
        have d0 : ∀ s : InC S, s.W.cell? ⟨b, o, none⟩ = some (.int .i64 z) := fun s => ((ext_trans z0 (ho s)).cell (p := ⟨b, o, none⟩) HBL.out).trans HC.out
        repeat (go_big_quiet_step ((go_at_call 21; exact grow_call hkS (implIsSession_at x (some ⟨b, o, none⟩) m c _ hm (hr.below (ext_trans z0 (ho _)))) (bool_is h1))))
        refine wpQuiet_nil ?_
        rintro _ ⟨s, rfl⟩
        have hg1 := ho s
        clear c0 c1 c2 c3 c4 c5 c6 d0 ho hkS hne
        generalize s.W = w1 at *
        clear s S
        have r1 := r0.below hg1
        have z1 := ext_trans z0 hg1
        obtain ⟨yr, xr, cr, fr⟩ := r1.seven
        go_wp2_with fail
        exact bodyPost_ret (v := .tuple #[.agg #[.int .i64 0, .int .i64 0, .int .i64 0, .int .i64 0, .int .i64 0, .int .i64 0, .slice none 0 0], .int .i64 0, .bool false]) (res_cell3 Try.results34 _ rfl (((((((r1.set_ 0 (.int .i64 0)).set_ 1 (.int .i64 0)).set_ 2 (.int .i64 0)).set_ 3 (.int .i64 0)).set_ 4 (.int .i64 0)).set_ 5 (.int .i64 0)).set_ 6 (.slice none 0 0)) Try.underlying39 rfl (by kernel_rfl)) rfl ⟨none, 0, rfl, World.ownsRow_nil _ _ _ _, (((((((z1.setCell (p := ⟨w.heap.size + 1, 0, none⟩) (by simp) (.int .i64 0)).setCell (p := ⟨w.heap.size + 1, 1, none⟩) (by simp) (.int .i64 0)).setCell (p := ⟨w.heap.size + 1, 2, none⟩) (by simp) (.int .i64 0)).setCell (p := ⟨w.heap.size + 1, 3, none⟩) (by simp) (.int .i64 0)).setCell (p := ⟨w.heap.size + 1, 4, none⟩) (by simp) (.int .i64 0)).setCell (p := ⟨w.heap.size + 1, 5, none⟩) (by simp) (.int .i64 0)).setCell (p := ⟨w.heap.size + 1, 6, none⟩) (by simp) (.slice none 0 0))⟩
      · have g1 : decide (1000000000 < x.se + z) = false := by simp; omega
        have e0 := serveB_ok h1 HZ.out (by omega)
        rw [serveR_yes e0, serveZ_yes e0 HZ.out, e0, serve_eq (need_at HZ.out)]
        have hrt : ∀ (A : Option Addr) (w : World), Rd w 1 (some ⟨b, o, none⟩) m (x.zs.map (Value.int .i64)) → A = some ⟨b, o + 1, none⟩ ∨ m = 1 → Rd w 1 A (m - 1) (x.zs.tail.map (Value.int .i64)) := fun A w h1 h2 => rd_tail h1 h2 hpos
        clear e0
        generalize x.zs.tail = zt at *
        go_enter Try.func34, Try.ntmps34
        go_wp2_with fail
        refine wp_region_grow (by kernel_rfl) (by kernel_rfl) ?_
        intro S hne hkS ho
        have c0 : ∀ s : InC S, s.W.cell? ⟨w.heap.size, 0, none⟩ = some (.int .i64 x.f) := fun s => (b0.below (ho s)).cell 0
        have c1 : ∀ s : InC S, s.W.cell? ⟨w.heap.size, 1, none⟩ = some (.int .i64 x.l) := fun s => (b0.below (ho s)).cell 1
        have c2 : ∀ s : InC S, s.W.cell? ⟨w.heap.size, 2, none⟩ = some (.int .i64 x.s) := fun s => (b0.below (ho s)).cell 2
        have c3 : ∀ s : InC S, s.W.cell? ⟨w.heap.size, 3, none⟩ = some (.int .i64 x.st) := fun s => (b0.below (ho s)).cell 3
        have c4 : ∀ s : InC S, s.W.cell? ⟨w.heap.size, 4, none⟩ = some (.int .i64 x.ba) := fun s => (b0.below (ho s)).cell 4
        have c5 : ∀ s : InC S, s.W.cell? ⟨w.heap.size, 5, none⟩ = some (.int .i64 x.se) := fun s => (b0.below (ho s)).cell 5
        have c6 : ∀ s : InC S, s.W.cell? ⟨w.heap.size, 6, none⟩ = some (.slice (some ⟨b, o, none⟩) m c) := fun s => (b0.below (ho s)).cell 6
        have d0 : ∀ s : InC S, s.W.cell? ⟨b, o, none⟩ = some (.int .i64 z) := fun s => ((ext_trans z0 (ho s)).cell (p := ⟨b, o, none⟩) HBL.out).trans HC.out
        repeat (go_big_quiet_step ((go_at_call 21; exact grow_call hkS (implIsSession_at x (some ⟨b, o, none⟩) m c _ hm (hr.below (ext_trans z0 (ho _)))) (bool_is h1))))
        refine wpQuiet_nil ?_
        rintro _ ⟨s, rfl⟩
        have hg1 := ho s
        clear c0 c1 c2 c3 c4 c5 c6 d0 ho hkS hne
        generalize s.W = w1 at *
        clear s S
        have r1 := r0.below hg1
        have z1 := ext_trans z0 hg1
        obtain ⟨yr, xr, cr, fr⟩ := r1.seven
        have b1 := b0.below hg1
        obtain ⟨yb, xb, cb, fb⟩ := b1.seven
        have cz1 := (z1.cell (p := ⟨b, o, none⟩) HBL.out).trans HC.out
        have i2 : (1 : Int) ≤ (m : Int) := by omega
        have i3 : (m : Int) ≤ (c : Int) := by omega
        go_wp2_with fail
        all_goals
          have b2 := b1.set_ 5 (.int .i64 (x.se + z))
          have r2 : Blk (w1.setCell ⟨w.heap.size, 5, none⟩ (.int .i64 (x.se + z))) (w.heap.size + 1) 39 [.int .i64 0, .int .i64 0, .int .i64 0, .int .i64 0, .int .i64 0, .int .i64 0, .slice none 0 0] := r1.far (p := ⟨w.heap.size, 5, none⟩) (by simp) _
          have z2 : Below w.heap.size w (w1.setCell ⟨w.heap.size, 5, none⟩ (.int .i64 (x.se + z))) := z1.setCell (p := ⟨w.heap.size, 5, none⟩) (by simp) _
          refine (cloneI_any _ (m - 1) _ zt _ (by omega) (hrt _ _ (hr.below z2) (by first | exact .inl rfl | exact .inr (by omega)))).mono ?_; rintro e w3 ⟨A2, c2, rfl, ow3, hb3⟩
          have b3 := b2.below hb3
          have r3 := r2.below hb3
          have z3 := ext_trans z2 hb3
          have own3 := own_base ow3 z2.size
          clear yb xb cb fb yr xr cr fr b1 b2 r1 r2 hg1 z1 z2 hb3 ow3 cz1
          obtain ⟨yr, xr, cr, fr⟩ := r3.seven
          obtain ⟨yb, xb, cb, fb⟩ := b3.seven
          go_wp2_with fail
          have gA : w3.grownBy (w3.setCell ⟨w.heap.size, 6, none⟩ (.slice A2 zt.length c2)) (some w.heap.size) := grownBy_setCell (World.grownBy.refl w3 (some w.heap.size)) 6 _
          have own5 := own3.kept gA (.inr fun e => box_ne own3 b3 (by decide) e.symm)
          have r5 : Blk (w3.setCell ⟨w.heap.size, 6, none⟩ (.slice A2 zt.length c2)) (w.heap.size + 1) 39 [.int .i64 0, .int .i64 0, .int .i64 0, .int .i64 0, .int .i64 0, .int .i64 0, .slice none 0 0] := r3.far (p := ⟨w.heap.size, 6, none⟩) (by simp) _
          have z5 : Below w.heap.size w (w3.setCell ⟨w.heap.size, 6, none⟩ (.slice A2 zt.length c2)) := z3.setCell (p := ⟨w.heap.size, 6, none⟩) (by simp) _
          have gB := (grownBy_setCell (grownBy_setCell (grownBy_setCell (grownBy_setCell (grownBy_setCell (grownBy_setCell (grownBy_setCell (World.grownBy.refl (w3.setCell ⟨w.heap.size, 6, none⟩ (.slice A2 zt.length c2)) (some (w.heap.size + 1))) 0 (.int .i64 x.f)) 1 (.int .i64 x.l)) 2 (.int .i64 x.s)) 3 (.int .i64 x.st)) 4 (.int .i64 x.ba)) 5 (.int .i64 (x.se + z))) 6 (.slice A2 zt.length c2))
          exact bodyPost_ret (v := .tuple #[.agg #[.int .i64 x.f, .int .i64 x.l, .int .i64 x.s, .int .i64 x.st, .int .i64 x.ba, .int .i64 (x.se + z), .slice A2 zt.length c2], .int .i64 z, .bool true]) (res_cell3 Try.results34 _ rfl (((((((r5.set_ 0 (.int .i64 x.f)).set_ 1 (.int .i64 x.l)).set_ 2 (.int .i64 x.s)).set_ 3 (.int .i64 x.st)).set_ 4 (.int .i64 x.ba)).set_ 5 (.int .i64 (x.se + z))).set_ 6 (.slice A2 zt.length c2)) Try.underlying39 rfl (by kernel_rfl)) rfl ⟨A2, c2, rfl, own5.kept gB (.inr fun e => box_ne own5 r5 (by decide) e.symm), (((((((z5.setCell (p := ⟨w.heap.size + 1, 0, none⟩) (by simp) (.int .i64 x.f)).setCell (p := ⟨w.heap.size + 1, 1, none⟩) (by simp) (.int .i64 x.l)).setCell (p := ⟨w.heap.size + 1, 2, none⟩) (by simp) (.int .i64 x.s)).setCell (p := ⟨w.heap.size + 1, 3, none⟩) (by simp) (.int .i64 x.st)).setCell (p := ⟨w.heap.size + 1, 4, none⟩) (by simp) (.int .i64 x.ba)).setCell (p := ⟨w.heap.size + 1, 5, none⟩) (by simp) (.int .i64 (x.se + z))).setCell (p := ⟨w.heap.size + 1, 6, none⟩) (by simp) (.slice A2 zt.length c2))⟩

set_option maxRecDepth 100000 in
set_option maxHeartbeats 4000000 in
theorem specServeOne_at (x : Ses) (A : Option Addr) (m c : Nat) (w : World) (hm : m ≤ 1048576) (hmc : m ≤ c) (hr : Rd w 1 A m (x.zs.map (Value.int .i64))) :
    Calls Try.prog 33 #[.agg #[.int .i64 x.f, .int .i64 x.l, .int .i64 x.s, .int .i64 x.st, .int .i64 x.ba, .int .i64 x.se, .slice A m c]] w fun e w' => ∃ A' c', e = .returned (.tuple #[.agg #[.int .i64 (serveR x).f, .int .i64 (serveR x).l, .int .i64 (serveR x).s, .int .i64 (serveR x).st, .int .i64 (serveR x).ba, .int .i64 (serveR x).se, .slice A' (serveR x).zs.length c'], .int .i64 (serveZ x), .bool (serveB x)]) ∧ w'.ownsRow w.heap.size 3 1 (.slice A' (serveR x).zs.length c') (serveR x).zs.length ((serveR x).zs.map (Value.int .i64)) ∧ Below w.heap.size w w' := by
  have hl := hr.len1
  have HL := Lib.hid hl
  clear hl
  cases h1 : sesB x with
  | false =>
    have e0 : serveB x = false := serveB_bad h1
    rw [serveR_no e0, serveZ_no e0, e0]
    clear e0
    have b0 : Blk ((w.alloc (.cells (List.toArray [.int .i64 x.f, .int .i64 x.l, .int .i64 x.s, .int .i64 x.st, .int .i64 x.ba, .int .i64 x.se, .slice A m c]) 39)).alloc (.cells (List.toArray [.int .i64 0, .int .i64 0, .int .i64 0, .int .i64 0, .int .i64 0, .int .i64 0, .slice none 0 0]) 39)) w.heap.size 39 [.int .i64 x.f, .int .i64 x.l, .int .i64 x.s, .int .i64 x.st, .int .i64 x.ba, .int .i64 x.se, .slice A m c] := (Blk.new w 39 [.int .i64 x.f, .int .i64 x.l, .int .i64 x.s, .int .i64 x.st, .int .i64 x.ba, .int .i64 x.se, .slice A m c]).alloc _
    have r0 : Blk ((w.alloc (.cells (List.toArray [.int .i64 x.f, .int .i64 x.l, .int .i64 x.s, .int .i64 x.st, .int .i64 x.ba, .int .i64 x.se, .slice A m c]) 39)).alloc (.cells (List.toArray [.int .i64 0, .int .i64 0, .int .i64 0, .int .i64 0, .int .i64 0, .int .i64 0, .slice none 0 0]) 39)) (w.heap.size + 1) 39 [.int .i64 0, .int .i64 0, .int .i64 0, .int .i64 0, .int .i64 0, .int .i64 0, .slice none 0 0] := by have h := Blk.new (w.alloc (.cells (List.toArray [.int .i64 x.f, .int .i64 x.l, .int .i64 x.s, .int .i64 x.st, .int .i64 x.ba, .int .i64 x.se, .slice A m c]) 39)) 39 [.int .i64 0, .int .i64 0, .int .i64 0, .int .i64 0, .int .i64 0, .int .i64 0, .slice none 0 0]; rwa [World.size_alloc] at h
    have z0 : Below w.heap.size w ((w.alloc (.cells (List.toArray [.int .i64 x.f, .int .i64 x.l, .int .i64 x.s, .int .i64 x.st, .int .i64 x.ba, .int .i64 x.se, .slice A m c]) 39)).alloc (.cells (List.toArray [.int .i64 0, .int .i64 0, .int .i64 0, .int .i64 0, .int .i64 0, .int .i64 0, .slice none 0 0]) 39)) := ext_alloc (ext_alloc (ext_refl w) _) _
    go_enter Try.func33, Try.ntmps33
    go_wp2_with fail
    refine (hfGood_any ⟨x, A, m, c⟩ _ hm (hr.below z0)).mono ?_; rintro e w1 ⟨rfl, hb1⟩
    have b1 := b0.below hb1
    have r1 := r0.below hb1
    have z1 := ext_trans z0 hb1
    obtain ⟨yb1, xb1, cb1, fb1⟩ := b1.seven
    obtain ⟨yr1, xr1, cr1, fr1⟩ := r1.seven
    have hg := h1
    go_wp2_with fail
    exact bodyPost_ret (v := .tuple #[.agg #[.int .i64 0, .int .i64 0, .int .i64 0, .int .i64 0, .int .i64 0, .int .i64 0, .slice none 0 0], .int .i64 0, .bool false]) (res_cell3 Try.results33 _ rfl (((((((r1.set_ 0 (.int .i64 0)).set_ 1 (.int .i64 0)).set_ 2 (.int .i64 0)).set_ 3 (.int .i64 0)).set_ 4 (.int .i64 0)).set_ 5 (.int .i64 0)).set_ 6 (.slice none 0 0)) Try.underlying39 rfl (by kernel_rfl)) rfl ⟨none, 0, rfl, World.ownsRow_nil _ _ _ _, (((((((z1.setCell (p := ⟨w.heap.size + 1, 0, none⟩) (by simp) (.int .i64 0)).setCell (p := ⟨w.heap.size + 1, 1, none⟩) (by simp) (.int .i64 0)).setCell (p := ⟨w.heap.size + 1, 2, none⟩) (by simp) (.int .i64 0)).setCell (p := ⟨w.heap.size + 1, 3, none⟩) (by simp) (.int .i64 0)).setCell (p := ⟨w.heap.size + 1, 4, none⟩) (by simp) (.int .i64 0)).setCell (p := ⟨w.heap.size + 1, 5, none⟩) (by simp) (.int .i64 0)).setCell (p := ⟨w.heap.size + 1, 6, none⟩) (by simp) (.slice none 0 0))⟩
  | true =>
    have hok := sesB_iff.1 h1
    rcases Nat.eq_zero_or_pos m with hm0 | hpos
    · subst hm0
      have e0 : serveB x = false := serveB_nil HL.out
      rw [serveR_no e0, serveZ_no e0, e0]
      clear e0
      have b0 : Blk ((w.alloc (.cells (List.toArray [.int .i64 x.f, .int .i64 x.l, .int .i64 x.s, .int .i64 x.st, .int .i64 x.ba, .int .i64 x.se, .slice A 0 c]) 39)).alloc (.cells (List.toArray [.int .i64 0, .int .i64 0, .int .i64 0, .int .i64 0, .int .i64 0, .int .i64 0, .slice none 0 0]) 39)) w.heap.size 39 [.int .i64 x.f, .int .i64 x.l, .int .i64 x.s, .int .i64 x.st, .int .i64 x.ba, .int .i64 x.se, .slice A 0 c] := (Blk.new w 39 [.int .i64 x.f, .int .i64 x.l, .int .i64 x.s, .int .i64 x.st, .int .i64 x.ba, .int .i64 x.se, .slice A 0 c]).alloc _
      have r0 : Blk ((w.alloc (.cells (List.toArray [.int .i64 x.f, .int .i64 x.l, .int .i64 x.s, .int .i64 x.st, .int .i64 x.ba, .int .i64 x.se, .slice A 0 c]) 39)).alloc (.cells (List.toArray [.int .i64 0, .int .i64 0, .int .i64 0, .int .i64 0, .int .i64 0, .int .i64 0, .slice none 0 0]) 39)) (w.heap.size + 1) 39 [.int .i64 0, .int .i64 0, .int .i64 0, .int .i64 0, .int .i64 0, .int .i64 0, .slice none 0 0] := by have h := Blk.new (w.alloc (.cells (List.toArray [.int .i64 x.f, .int .i64 x.l, .int .i64 x.s, .int .i64 x.st, .int .i64 x.ba, .int .i64 x.se, .slice A 0 c]) 39)) 39 [.int .i64 0, .int .i64 0, .int .i64 0, .int .i64 0, .int .i64 0, .int .i64 0, .slice none 0 0]; rwa [World.size_alloc] at h
      have z0 : Below w.heap.size w ((w.alloc (.cells (List.toArray [.int .i64 x.f, .int .i64 x.l, .int .i64 x.s, .int .i64 x.st, .int .i64 x.ba, .int .i64 x.se, .slice A 0 c]) 39)).alloc (.cells (List.toArray [.int .i64 0, .int .i64 0, .int .i64 0, .int .i64 0, .int .i64 0, .int .i64 0, .slice none 0 0]) 39)) := ext_alloc (ext_alloc (ext_refl w) _) _
      go_enter Try.func33, Try.ntmps33
      go_wp2_with fail
      refine (hfGood_any ⟨x, A, 0, c⟩ _ hm (hr.below z0)).mono ?_; rintro e w1 ⟨rfl, hb1⟩
      have b1 := b0.below hb1
      have r1 := r0.below hb1
      have z1 := ext_trans z0 hb1
      obtain ⟨yb1, xb1, cb1, fb1⟩ := b1.seven
      obtain ⟨yr1, xr1, cr1, fr1⟩ := r1.seven
      go_wp2_with fail
      exact bodyPost_ret (v := .tuple #[.agg #[.int .i64 0, .int .i64 0, .int .i64 0, .int .i64 0, .int .i64 0, .int .i64 0, .slice none 0 0], .int .i64 0, .bool false]) (res_cell3 Try.results33 _ rfl (((((((r1.set_ 0 (.int .i64 0)).set_ 1 (.int .i64 0)).set_ 2 (.int .i64 0)).set_ 3 (.int .i64 0)).set_ 4 (.int .i64 0)).set_ 5 (.int .i64 0)).set_ 6 (.slice none 0 0)) Try.underlying39 rfl (by kernel_rfl)) rfl ⟨none, 0, rfl, World.ownsRow_nil _ _ _ _, (((((((z1.setCell (p := ⟨w.heap.size + 1, 0, none⟩) (by simp) (.int .i64 0)).setCell (p := ⟨w.heap.size + 1, 1, none⟩) (by simp) (.int .i64 0)).setCell (p := ⟨w.heap.size + 1, 2, none⟩) (by simp) (.int .i64 0)).setCell (p := ⟨w.heap.size + 1, 3, none⟩) (by simp) (.int .i64 0)).setCell (p := ⟨w.heap.size + 1, 4, none⟩) (by simp) (.int .i64 0)).setCell (p := ⟨w.heap.size + 1, 5, none⟩) (by simp) (.int .i64 0)).setCell (p := ⟨w.heap.size + 1, 6, none⟩) (by simp) (.slice none 0 0))⟩
    · obtain ⟨b, o, z, rfl, hbl, hz, hcz⟩ := hr.int 0 hpos
      have b0 : Blk ((w.alloc (.cells (List.toArray [.int .i64 x.f, .int .i64 x.l, .int .i64 x.s, .int .i64 x.st, .int .i64 x.ba, .int .i64 x.se, .slice (some ⟨b, o, none⟩) m c]) 39)).alloc (.cells (List.toArray [.int .i64 0, .int .i64 0, .int .i64 0, .int .i64 0, .int .i64 0, .int .i64 0, .slice none 0 0]) 39)) w.heap.size 39 [.int .i64 x.f, .int .i64 x.l, .int .i64 x.s, .int .i64 x.st, .int .i64 x.ba, .int .i64 x.se, .slice (some ⟨b, o, none⟩) m c] := (Blk.new w 39 [.int .i64 x.f, .int .i64 x.l, .int .i64 x.s, .int .i64 x.st, .int .i64 x.ba, .int .i64 x.se, .slice (some ⟨b, o, none⟩) m c]).alloc _
      have r0 : Blk ((w.alloc (.cells (List.toArray [.int .i64 x.f, .int .i64 x.l, .int .i64 x.s, .int .i64 x.st, .int .i64 x.ba, .int .i64 x.se, .slice (some ⟨b, o, none⟩) m c]) 39)).alloc (.cells (List.toArray [.int .i64 0, .int .i64 0, .int .i64 0, .int .i64 0, .int .i64 0, .int .i64 0, .slice none 0 0]) 39)) (w.heap.size + 1) 39 [.int .i64 0, .int .i64 0, .int .i64 0, .int .i64 0, .int .i64 0, .int .i64 0, .slice none 0 0] := by have h := Blk.new (w.alloc (.cells (List.toArray [.int .i64 x.f, .int .i64 x.l, .int .i64 x.s, .int .i64 x.st, .int .i64 x.ba, .int .i64 x.se, .slice (some ⟨b, o, none⟩) m c]) 39)) 39 [.int .i64 0, .int .i64 0, .int .i64 0, .int .i64 0, .int .i64 0, .int .i64 0, .slice none 0 0]; rwa [World.size_alloc] at h
      have z0 : Below w.heap.size w ((w.alloc (.cells (List.toArray [.int .i64 x.f, .int .i64 x.l, .int .i64 x.s, .int .i64 x.st, .int .i64 x.ba, .int .i64 x.se, .slice (some ⟨b, o, none⟩) m c]) 39)).alloc (.cells (List.toArray [.int .i64 0, .int .i64 0, .int .i64 0, .int .i64 0, .int .i64 0, .int .i64 0, .slice none 0 0]) 39)) := ext_alloc (ext_alloc (ext_refl w) _) _
      simp only [Nat.add_zero] at hcz
      have HC := Lib.hid hcz
      have HBL := Lib.hid hbl
      have HZ := Lib.hid hz
      have i0 : (0 : Int) < (m : Int) := by omega
      have i1 : ((m : Int) == 0) = false := by simp; omega
      have hsv : ∀ w, Rd w 1 (some ⟨b, o, none⟩) m (x.zs.map (Value.int .i64)) → _ := fun w hr => hfServe_at x (some ⟨b, o, none⟩) m c w hok hm hmc hpos hr
      have hsg := serve_good hok hz
      have hlt : (x.zs.tail).length ≤ 1048576 := by have := HL.out; simp; omega
      rw [serve_eq (need_at hz)] at hsg
      simp only [serve_eq (need_at hz)] at hsv
      clear hcz hz
      by_cases hbig : 1000000000 < x.se + z
      · have hsg2 : sesB ⟨x.f, x.l, x.s, x.st, x.ba, x.se + z, x.zs.tail⟩ = false := by rw [hsg]; simp; omega
        have e0 : serveB x = false := serveB_big HZ.out hbig
        rw [serveR_no e0, serveZ_no e0, e0]
        clear e0
        clear hsg
        generalize x.zs.tail = zt at *
        go_enter Try.func33, Try.ntmps33
        go_wp2_with fail
        refine (hfGood_any ⟨x, (some ⟨b, o, none⟩), m, c⟩ _ hm (hr.below z0)).mono ?_; rintro e w1 ⟨rfl, hb1⟩
        have hh1 : sesB x = true := h1
        have b1 := b0.below hb1
        have r1 := r0.below hb1
        have z1 := ext_trans z0 hb1
        obtain ⟨yb1, xb1, cb1, fb1⟩ := b1.seven
        obtain ⟨yr1, xr1, cr1, fr1⟩ := r1.seven
        go_wp2_with fail
        refine (hsv _ (hr.below z1)).mono ?_; rintro e w2 ⟨A2, c2, rfl, ow2, hb2⟩
        clear yb1 xb1 cb1 fb1 yr1 xr1 cr1 fr1
        have b2 := b1.below hb2
        have r2 := r1.below hb2
        have z2 := ext_trans z1 hb2
        obtain ⟨yb2, xb2, cb2, fb2⟩ := b2.seven
        obtain ⟨yr2, xr2, cr2, fr2⟩ := r2.seven
        go_wp2_with fail
        refine (hfGood_any ⟨⟨x.f, x.l, x.s, x.st, x.ba, x.se + z, zt⟩, A2, zt.length, c2⟩ _ hlt (Rd.of_own ow2)).mono ?_; rintro e w3 ⟨rfl, hb3⟩
        clear yb2 xb2 cb2 fb2 yr2 xr2 cr2 fr2
        have b3 := b2.below hb3
        have r3 := r2.below hb3
        have z3 := ext_trans z2 hb3
        obtain ⟨yb3, xb3, cb3, fb3⟩ := b3.seven
        obtain ⟨yr3, xr3, cr3, fr3⟩ := r3.seven
        rw [show sesB (SesV.toSes ⟨⟨x.f, x.l, x.s, x.st, x.ba, x.se + z, zt⟩, A2, zt.length, c2⟩) = false from hsg2]
        go_wp2_with fail
        exact bodyPost_ret (v := .tuple #[.agg #[.int .i64 0, .int .i64 0, .int .i64 0, .int .i64 0, .int .i64 0, .int .i64 0, .slice none 0 0], .int .i64 0, .bool false]) (res_cell3 Try.results33 _ rfl (((((((r3.set_ 0 (.int .i64 0)).set_ 1 (.int .i64 0)).set_ 2 (.int .i64 0)).set_ 3 (.int .i64 0)).set_ 4 (.int .i64 0)).set_ 5 (.int .i64 0)).set_ 6 (.slice none 0 0)) Try.underlying39 rfl (by kernel_rfl)) rfl ⟨none, 0, rfl, World.ownsRow_nil _ _ _ _, (((((((z3.setCell (p := ⟨w.heap.size + 1, 0, none⟩) (by simp) (.int .i64 0)).setCell (p := ⟨w.heap.size + 1, 1, none⟩) (by simp) (.int .i64 0)).setCell (p := ⟨w.heap.size + 1, 2, none⟩) (by simp) (.int .i64 0)).setCell (p := ⟨w.heap.size + 1, 3, none⟩) (by simp) (.int .i64 0)).setCell (p := ⟨w.heap.size + 1, 4, none⟩) (by simp) (.int .i64 0)).setCell (p := ⟨w.heap.size + 1, 5, none⟩) (by simp) (.int .i64 0)).setCell (p := ⟨w.heap.size + 1, 6, none⟩) (by simp) (.slice none 0 0))⟩
      · have hsg2 : sesB ⟨x.f, x.l, x.s, x.st, x.ba, x.se + z, x.zs.tail⟩ = true := by rw [hsg]; simp; omega
        have e0 := serveB_ok h1 HZ.out (by omega)
        rw [serveR_yes e0, serveZ_yes e0 HZ.out, e0, serve_eq (need_at HZ.out)]
        clear hsg e0
        generalize x.zs.tail = zt at *
        go_enter Try.func33, Try.ntmps33
        go_wp2_with fail
        refine (hfGood_any ⟨x, (some ⟨b, o, none⟩), m, c⟩ _ hm (hr.below z0)).mono ?_; rintro e w1 ⟨rfl, hb1⟩
        have hh1 : sesB x = true := h1
        have b1 := b0.below hb1
        have r1 := r0.below hb1
        have z1 := ext_trans z0 hb1
        obtain ⟨yb1, xb1, cb1, fb1⟩ := b1.seven
        obtain ⟨yr1, xr1, cr1, fr1⟩ := r1.seven
        go_wp2_with fail
        refine (hsv _ (hr.below z1)).mono ?_; rintro e w2 ⟨A2, c2, rfl, ow2, hb2⟩
        clear yb1 xb1 cb1 fb1 yr1 xr1 cr1 fr1
        have b2 := b1.below hb2
        have r2 := r1.below hb2
        have z2 := ext_trans z1 hb2
        obtain ⟨yb2, xb2, cb2, fb2⟩ := b2.seven
        obtain ⟨yr2, xr2, cr2, fr2⟩ := r2.seven
        go_wp2_with fail
        refine (hfGood_any ⟨⟨x.f, x.l, x.s, x.st, x.ba, x.se + z, zt⟩, A2, zt.length, c2⟩ _ hlt (Rd.of_own ow2)).mono ?_; rintro e w3 ⟨rfl, hb3⟩
        clear yb2 xb2 cb2 fb2 yr2 xr2 cr2 fr2
        have b3 := b2.below hb3
        have r3 := r2.below hb3
        have z3 := ext_trans z2 hb3
        obtain ⟨yb3, xb3, cb3, fb3⟩ := b3.seven
        obtain ⟨yr3, xr3, cr3, fr3⟩ := r3.seven
        rw [show sesB (SesV.toSes ⟨⟨x.f, x.l, x.s, x.st, x.ba, x.se + z, zt⟩, A2, zt.length, c2⟩) = true from hsg2]
        have cz3 := (z3.cell (p := ⟨b, o, none⟩) HBL.out).trans HC.out
        have C0 := and8 b3.drew.seven.2.2.1 (show w3.drew.cell? _ = _ from cz3)
        go_wp2_with fail
        go_region_held3 (fun w' => w'.cell? ⟨w.heap.size, 0, none⟩ = some (.int .i64 x.f) ∧ w'.cell? ⟨w.heap.size, 1, none⟩ = some (.int .i64 x.l) ∧ w'.cell? ⟨w.heap.size, 2, none⟩ = some (.int .i64 x.s) ∧ w'.cell? ⟨w.heap.size, 3, none⟩ = some (.int .i64 x.st) ∧ w'.cell? ⟨w.heap.size, 4, none⟩ = some (.int .i64 x.ba) ∧ w'.cell? ⟨w.heap.size, 5, none⟩ = some (.int .i64 x.se) ∧ w'.cell? ⟨w.heap.size, 6, none⟩ = some (.slice (some ⟨b, o, none⟩) m c) ∧ w'.cell? ⟨b, o, none⟩ = some (.int .i64 z))
          (first | with_reducible exact C5 | with_reducible exact C4 | with_reducible exact C0)
          (first | (go_at_call 69; refine (hsv _ (hr.below z3.drew)).mono ?_; rintro e w4 ⟨A4, c4, rfl, ow4, hb4⟩; have b4 := b3.drew.below hb4; have r4 := r3.drew.below hb4; have z4 := ext_trans z3.drew hb4; have own4 := own_base ow4 z3.drew.size; obtain ⟨yr, xr, cr, fr⟩ := r4.seven; have b5 := (((((((b4.far (p := ⟨w.heap.size + 1, 0, none⟩) (by simp) (.int .i64 x.f)).far (p := ⟨w.heap.size + 1, 1, none⟩) (by simp) (.int .i64 x.l)).far (p := ⟨w.heap.size + 1, 2, none⟩) (by simp) (.int .i64 x.s)).far (p := ⟨w.heap.size + 1, 3, none⟩) (by simp) (.int .i64 x.st)).far (p := ⟨w.heap.size + 1, 4, none⟩) (by simp) (.int .i64 x.ba)).far (p := ⟨w.heap.size + 1, 5, none⟩) (by simp) (.int .i64 (x.se + z))).far (p := ⟨w.heap.size + 1, 6, none⟩) (by simp) (.slice A4 zt.length c4)); have z5 := (((((((z4.setCell (p := ⟨w.heap.size + 1, 0, none⟩) (by simp) (.int .i64 x.f)).setCell (p := ⟨w.heap.size + 1, 1, none⟩) (by simp) (.int .i64 x.l)).setCell (p := ⟨w.heap.size + 1, 2, none⟩) (by simp) (.int .i64 x.s)).setCell (p := ⟨w.heap.size + 1, 3, none⟩) (by simp) (.int .i64 x.st)).setCell (p := ⟨w.heap.size + 1, 4, none⟩) (by simp) (.int .i64 x.ba)).setCell (p := ⟨w.heap.size + 1, 5, none⟩) (by simp) (.int .i64 (x.se + z))).setCell (p := ⟨w.heap.size + 1, 6, none⟩) (by simp) (.slice A4 zt.length c4)); have C4 := and8 b4.seven.2.2.1 ((z4.cell (p := ⟨b, o, none⟩) HBL.out).trans HC.out); have C5 := and8 b5.seven.2.2.1 ((z5.cell (p := ⟨b, o, none⟩) HBL.out).trans HC.out)))
        go_wp2_with fail
        have gB := (grownBy_setCell (grownBy_setCell (grownBy_setCell (grownBy_setCell (grownBy_setCell (grownBy_setCell (grownBy_setCell (World.grownBy.refl w4 (some (w.heap.size + 1))) 0 (.int .i64 x.f)) 1 (.int .i64 x.l)) 2 (.int .i64 x.s)) 3 (.int .i64 x.st)) 4 (.int .i64 x.ba)) 5 (.int .i64 (x.se + z))) 6 (.slice A4 zt.length c4))
        exact bodyPost_ret (v := .tuple #[.agg #[.int .i64 x.f, .int .i64 x.l, .int .i64 x.s, .int .i64 x.st, .int .i64 x.ba, .int .i64 (x.se + z), .slice A4 zt.length c4], .int .i64 z, .bool true]) (res_cell3 Try.results33 _ rfl (((((((r4.set_ 0 (.int .i64 x.f)).set_ 1 (.int .i64 x.l)).set_ 2 (.int .i64 x.s)).set_ 3 (.int .i64 x.st)).set_ 4 (.int .i64 x.ba)).set_ 5 (.int .i64 (x.se + z))).set_ 6 (.slice A4 zt.length c4)) Try.underlying39 rfl (by kernel_rfl)) rfl ⟨A4, c4, rfl, own4.kept gB (.inr fun e => box_ne own4 r4 (by decide) e.symm), z5⟩

end Go.Proofs.Ytgljelhglgeojaa