/- The text of a curve; numbers joined by blanks: the reference's and the program's. Condition: the library's table of powers of ten lies as its initialiser lays it. -/
import Derived.Test.YtgljelhglgeojaaDoorSsE
namespace Go.Proofs.YtgljelhglgeojaaDoor
open Go.RowKit

/-- The text of a curve. -/
def curT (f l s : Nat) : List UInt8 := (((numT f ++ [47]) ++ numT l) ++ [47]) ++ numT s
theorem curT_len (f l s : Nat) (hf : f ≤ 1000000000) (hl : l ≤ 1000000000) (hs : s ≤ 1000000000) : (curT f l s).length ≤ 65 := by
  have h1 := numT_len f hf
  have h2 := numT_len l hl
  have h3 := numT_len s hs
  simp [curT]; omega

theorem bs_two (a b : List UInt8) (h : a.length + b.length ≤ 1000) : ¬ 9223372036854775807 < (bs a).size + (bs b).size := by rw [bs_size, bs_size]; omega
theorem cur_sizes {a b c : List UInt8} (h1 : a.length ≤ 21) (h2 : b.length ≤ 21) (h3 : c.length ≤ 21) : ¬ 9223372036854775807 < (bs a).size + (bs [47]).size ∧ ¬ 9223372036854775807 < (bs a ++ bs [47]).size + (bs b).size ∧
    ¬ 9223372036854775807 < (bs a ++ bs [47] ++ bs b).size + (bs [47]).size ∧ ¬ 9223372036854775807 < (bs a ++ bs [47] ++ bs b ++ bs [47]).size + (bs c).size := by
  rw [bs_app, bs_app, bs_app]
  exact ⟨bs_two _ _ (by simp; omega), bs_two _ _ (by simp; omega), bs_two _ _ (by simp; omega), bs_two _ _ (by simp; omega)⟩

set_option maxHeartbeats 2000000 in
theorem specCurve_any (p q r : Nat) (w : World) (hf : p ≤ 1000000000) (hl : q ≤ 1000000000) (hs : r ≤ 1000000000) : Calls Tryd.prog 11 #[.agg #[.int .i64 p, .int .i64 q, .int .i64 r]] w fun e w' => e = .returned (.string (bs (curT p q r))) ∧ Below w.heap.size w w' := by
  have hca : ∀ W (k : Nat), k ≤ 1000000000 → Calls Tryd.prog 24 #[.int .i64 k] W fun e w' => e = .returned (.string (bs (numT k))) ∧ Below W.heap.size W w' := fun W k hk => nuText_any k W hk
  have n1 := numT_len p hf
  have n2 := numT_len q hl
  have n3 := numT_len r hs
  have hct : curT p q r = (((numT p ++ [47]) ++ numT q) ++ [47]) ++ numT r := rfl
  rw [hct]
  clear hct
  have u1 : (⟨#[47]⟩ : ByteArray) = bs [47] := rfl
  obtain ⟨z1, z2, z3, z4⟩ := cur_sizes n1 n2 n3
  have B0 := Blk.new w 30 [.int .i64 p, .int .i64 q, .int .i64 r]
  have zz := ext_alloc (ext_refl w) (.cells #[.int .i64 p, .int .i64 q, .int .i64 r] 30)
  
  go_enter Tryd.func11, Tryd.ntmps11
  go_wp2_with fail
  generalize (w.alloc (.cells #[.int .i64 p, .int .i64 q, .int .i64 r] 30)) = wa at *
  refine wp_region_grow (by kernel_rfl) (by kernel_rfl) ?_
  intro S hne hkS ho
  have e0 : ∀ s : InC S, s.W.cell? ⟨w.heap.size, 0, none⟩ = some (.int .i64 p) := fun s => (B0.below (ho s)).cell 0
  have e1 : ∀ s : InC S, s.W.cell? ⟨w.heap.size, 1, none⟩ = some (.int .i64 q) := fun s => (B0.below (ho s)).cell 1
  have e2 : ∀ s : InC S, s.W.cell? ⟨w.heap.size, 2, none⟩ = some (.int .i64 r) := fun s => (B0.below (ho s)).cell 2
  repeat (go_big_quiet_step ((first | (go_at_call 24; first | with_reducible exact grow_call hkS (hca _ _ hf) rfl | with_reducible exact grow_call hkS (hca _ _ hl) rfl | with_reducible exact grow_call hkS (hca _ _ hs) rfl))))
  refine wpQuiet_nil ?_
  rintro _ ⟨s, rfl⟩
  have hg6 := ho s
  clear e0 e1 e2 ho hkS hne
  generalize s.W = w6 at *
  clear s S
  go_wp2_with fail
  go_ret
  simp only [bs_app]
  exact ⟨rfl, ext_trans zz hg6⟩

set_option maxHeartbeats 2000000 in
theorem implCurve_any (p q r : Nat) (w : World) (hf : p ≤ 1000000000) (hl : q ≤ 1000000000) (hs : r ≤ 1000000000) (ht : TabW w) : Calls Tryd.prog 16 #[.agg #[.int .i64 p, .int .i64 q, .int .i64 r]] w fun e w' => e = .returned (.string (bs (curT p q r))) ∧ Below w.heap.size w w' := by
  have hca : ∀ W (k : Nat), TabW W → k ≤ 1000000000 → Calls Tryd.prog 28 #[.int .i64 k] W fun e w' => e = .returned (.string (bs (numT k))) ∧ Below W.heap.size W w' := fun W k h hk => numberText_any k W hk h
  have n1 := numT_len p hf
  have n2 := numT_len q hl
  have n3 := numT_len r hs
  have hct : curT p q r = (((numT p ++ [47]) ++ numT q) ++ [47]) ++ numT r := rfl
  rw [hct]
  clear hct
  have u1 : (⟨#[47]⟩ : ByteArray) = bs [47] := rfl
  obtain ⟨z1, z2, z3, z4⟩ := cur_sizes n1 n2 n3
  have B0 := Blk.new w 30 [.int .i64 p, .int .i64 q, .int .i64 r]
  have zz := ext_alloc (ext_refl w) (.cells #[.int .i64 p, .int .i64 q, .int .i64 r] 30)
  have htz := TabW.below ht zz
  go_enter Tryd.func16, Tryd.ntmps16
  go_wp2_with fail
  generalize (w.alloc (.cells #[.int .i64 p, .int .i64 q, .int .i64 r] 30)) = wa at *
  refine wp_region_grow (by kernel_rfl) (by kernel_rfl) ?_
  intro S hne hkS ho
  have e0 : ∀ s : InC S, s.W.cell? ⟨w.heap.size, 0, none⟩ = some (.int .i64 p) := fun s => (B0.below (ho s)).cell 0
  have e1 : ∀ s : InC S, s.W.cell? ⟨w.heap.size, 1, none⟩ = some (.int .i64 q) := fun s => (B0.below (ho s)).cell 1
  have e2 : ∀ s : InC S, s.W.cell? ⟨w.heap.size, 2, none⟩ = some (.int .i64 r) := fun s => (B0.below (ho s)).cell 2
  have htw : ∀ s : InC S, TabW s.W := fun s => (TabW.below htz (ho s))
  repeat (go_big_quiet_step ((first | (go_at_call 28; first | with_reducible exact grow_call hkS (hca _ _ (htw _) hf) rfl | with_reducible exact grow_call hkS (hca _ _ (htw _) hl) rfl | with_reducible exact grow_call hkS (hca _ _ (htw _) hs) rfl))))
  refine wpQuiet_nil ?_
  rintro _ ⟨s, rfl⟩
  have hg6 := ho s
  clear e0 e1 e2 htw ho hkS hne
  generalize s.W = w6 at *
  clear s S
  go_wp2_with fail
  go_ret
  simp only [bs_app]
  exact ⟨rfl, ext_trans zz hg6⟩

end Go.Proofs.YtgljelhglgeojaaDoor