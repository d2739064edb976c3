/- The walks of the laws OutputInflow and LeftoverService. -/
import Derived.Test.YtmmelpgnfjjokaaBoF
import Derived.Deep.RegionHeld3
import Derived.Deep.DeepCutAuto
namespace Go.Proofs.Ytmmelpgnfjjokaa
open Go.RowKit

theorem blk_set2 {w : World} {g : Nat} {t : TypeId} {a b : Value} (h : Blk w g t [a, b]) (u v : Value) : Blk ((w.setCell ⟨g, 0, none⟩ u).setCell ⟨g, 1, none⟩ v) g t [u, v] := (h.set_ 0 u).set_ 1 v
theorem blk_far2 {w : World} {g q : Nat} {t : TypeId} {cs : List Value} (h : Blk w g t cs) (hg : g ≠ q) (u v : Value) : Blk ((w.setCell ⟨q, 0, none⟩ u).setCell ⟨q, 1, none⟩ v) g t cs := (h.far hg u).far hg v
theorem st22_ext {w w0 w1 : World} {g0 g1 : Nat} {t0 t1 : TypeId} {a b c d : Value} (h : St22 w g0 g1 t0 t1 a b c d w0) (hb : Below w0.heap.size w0 w1) : St22 w g0 g1 t0 t1 a b c d w1 := st22_step (st22_all h) hb
theorem st22_set2 {w w' : World} {g g0 g1 : Nat} {t0 t1 : TypeId} {a b c d : Value} (h : St22 w g0 g1 t0 t1 a b c d w') (hg : w.heap.size ≤ g) (h0 : g0 ≠ g) (h1 : g1 ≠ g) (u v : Value) :
    St22 w g0 g1 t0 t1 a b c d ((w'.setCell ⟨g, 0, none⟩ u).setCell ⟨g, 1, none⟩ v) :=
  ⟨(h.1.far h0 _).far h0 _, (h.2.1.far h1 _).far h1 _, (h.2.2.setCell hg _).setCell hg _⟩

set_option maxHeartbeats 8000000 in
theorem walkLeftoverService (a0 a1 b0 b1 : Int) (w : World) :
    Calls Try.prog 8 #[.agg #[.int .i64 a0, .int .i64 a1], .agg #[.int .i64 b0, .int .i64 b1]] w fun e w' => e = .returned (.bool true) ∧ Below w.heap.size w w' := by
  have S0 := st22_new w 29 23 (.int .i64 a0) (.int .i64 a1) (.int .i64 b0) (.int .i64 b1)
  go_enter Try.func8, Try.ntmps8
  go_upto_region 1 with fail
  go_cut [5, 6] (fun s5 s6 wx => ∃ g, s5 = .pointer (some ⟨g, 0, none⟩) ∧ s6 = .bool (leftB a0 a1 b0 b1) ∧ Blk wx g 31 [.int .i64 (leftR a0 a1 b0 b1), .int .i64 (leftD a0 a1 b0 b1)] ∧ St22 w w.heap.size (w.heap.size + 1) 29 23 (.int .i64 a0) (.int .i64 a1) (.int .i64 b0) (.int .i64 b1) wx)
  case first =>
    generalize ((w.alloc (.cells #[.int .i64 a0, .int .i64 a1] 29)).alloc (.cells #[.int .i64 b0, .int .i64 b1] 23)) = wv at S0 ⊢
    obtain ⟨y0, x0, d0, f0⟩ := S0.1.two
    obtain ⟨y1, x1, d1, f1⟩ := S0.2.1.two
    go_region_with (first | (go_at_call 20; refine (toService_any _ _ _).mono ?_; rintro e wn ⟨rfl, hbn⟩; clear x0 d0 f0 x1 d1 f1; (try clear xD dD fD); have S0 := st22_ext (by first | exact S0 | exact st22_drew S0 | exact st22_alloc S0 _ | exact st22_alloc (st22_drew S0) _) hbn; obtain ⟨y0, x0, d0, f0⟩ := S0.1.two; obtain ⟨y1, x1, d1, f1⟩ := S0.2.1.two; (first | have D := D.below hbn | have D := (Blk.new _ 31 [.int .i64 0, .int .i64 0]).below hbn | have D := (Blk.new wv 31 [.int .i64 0, .int .i64 0]).drew.below hbn | skip); (try (obtain ⟨yD, xD, dD, fD⟩ := D.two)); clear hbn) | (go_at_call 17; refine (toInflow_any _ _ _).mono ?_; rintro e wn ⟨rfl, hbn⟩; clear x0 d0 f0 x1 d1 f1; (try clear xD dD fD); have S0 := st22_ext (by first | exact S0 | exact st22_drew S0 | exact st22_alloc S0 _ | exact st22_alloc (st22_drew S0) _) hbn; obtain ⟨y0, x0, d0, f0⟩ := S0.1.two; obtain ⟨y1, x1, d1, f1⟩ := S0.2.1.two; (first | have D := D.below hbn | have D := (Blk.new _ 31 [.int .i64 0, .int .i64 0]).below hbn | have D := (Blk.new wv 31 [.int .i64 0, .int .i64 0]).drew.below hbn | skip); (try (obtain ⟨yD, xD, dD, fD⟩ := D.two)); clear hbn) | (go_at_call 28; refine (specLeftoverService_any _ _ _ _ _).mono ?_; rintro e wn ⟨rfl, hbn⟩; clear x0 d0 f0 x1 d1 f1; (try clear xD dD fD); have S0 := st22_ext (by first | exact S0 | exact st22_drew S0 | exact st22_alloc S0 _ | exact st22_alloc (st22_drew S0) _) hbn; obtain ⟨y0, x0, d0, f0⟩ := S0.1.two; obtain ⟨y1, x1, d1, f1⟩ := S0.2.1.two; (first | have D := D.below hbn | have D := (Blk.new _ 31 [.int .i64 0, .int .i64 0]).below hbn | have D := (Blk.new wv 31 [.int .i64 0, .int .i64 0]).drew.below hbn | skip); (try (obtain ⟨yD, xD, dD, fD⟩ := D.two)); clear hbn))
    all_goals go_wp2_with fail
    all_goals go_meet
    all_goals refine ⟨_, rfl, rfl, ?_, ?_⟩
    all_goals (first | with_reducible exact Blk.new _ 31 [.int .i64 (leftR a0 a1 b0 b1), .int .i64 (leftD a0 a1 b0 b1)] | with_reducible exact blk_set2 D _ _ | with_reducible exact st22_alloc S0 _ | ((with_reducible refine st22_set2 S0 ?_ ?_ ?_ _ _) <;> omega))
  case rest =>
    obtain ⟨g, rfl, rfl, E, S1⟩ := hcut
    clear S0
    go_upto_region 2 with fail
    go_cut [7, 8] (fun s7 s8 wx => ∃ g2, s7 = .pointer (some ⟨g2, 0, none⟩) ∧ s8 = .bool (leftB a0 a1 b0 b1) ∧ Blk wx g2 31 [.int .i64 (leftR a0 a1 b0 b1), .int .i64 (leftD a0 a1 b0 b1)] ∧ Blk wx g 31 [.int .i64 (leftR a0 a1 b0 b1), .int .i64 (leftD a0 a1 b0 b1)] ∧ St22 w w.heap.size (w.heap.size + 1) 29 23 (.int .i64 a0) (.int .i64 a1) (.int .i64 b0) (.int .i64 b1) wx)
    case first =>
      generalize wc = wv at S1 E ⊢
      have S0 := S1
      have yE := E.lt
      obtain ⟨y0, x0, d0, f0⟩ := S0.1.two
      obtain ⟨y1, x1, d1, f1⟩ := S0.2.1.two
      go_region_with (first | (go_at_call 20; refine (toService_any _ _ _).mono ?_; rintro e wn ⟨rfl, hbn⟩; clear x0 d0 f0 x1 d1 f1; (try clear xD dD fD); have S0 := st22_ext (by first | exact S0 | exact st22_drew S0 | exact st22_alloc S0 _ | exact st22_alloc (st22_drew S0) _) hbn; have E := Blk.below (by first | exact E | exact E.drew | exact E.alloc _ | exact E.drew.alloc _) hbn; have yE := E.lt; obtain ⟨y0, x0, d0, f0⟩ := S0.1.two; obtain ⟨y1, x1, d1, f1⟩ := S0.2.1.two; (first | have D := D.below hbn | have D := (Blk.new _ 31 [.int .i64 0, .int .i64 0]).below hbn | have D := (Blk.new wv 31 [.int .i64 0, .int .i64 0]).drew.below hbn | skip); (try (obtain ⟨yD, xD, dD, fD⟩ := D.two)); clear hbn) | (go_at_call 17; refine (toInflow_any _ _ _).mono ?_; rintro e wn ⟨rfl, hbn⟩; clear x0 d0 f0 x1 d1 f1; (try clear xD dD fD); have S0 := st22_ext (by first | exact S0 | exact st22_drew S0 | exact st22_alloc S0 _ | exact st22_alloc (st22_drew S0) _) hbn; have E := Blk.below (by first | exact E | exact E.drew | exact E.alloc _ | exact E.drew.alloc _) hbn; have yE := E.lt; obtain ⟨y0, x0, d0, f0⟩ := S0.1.two; obtain ⟨y1, x1, d1, f1⟩ := S0.2.1.two; (first | have D := D.below hbn | have D := (Blk.new _ 31 [.int .i64 0, .int .i64 0]).below hbn | have D := (Blk.new wv 31 [.int .i64 0, .int .i64 0]).drew.below hbn | skip); (try (obtain ⟨yD, xD, dD, fD⟩ := D.two)); clear hbn) | (go_at_call 29; refine (implLeftoverService_any _ _ _ _ _).mono ?_; rintro e wn ⟨rfl, hbn⟩; clear x0 d0 f0 x1 d1 f1; (try clear xD dD fD); have S0 := st22_ext (by first | exact S0 | exact st22_drew S0 | exact st22_alloc S0 _ | exact st22_alloc (st22_drew S0) _) hbn; have E := Blk.below (by first | exact E | exact E.drew | exact E.alloc _ | exact E.drew.alloc _) hbn; have yE := E.lt; obtain ⟨y0, x0, d0, f0⟩ := S0.1.two; obtain ⟨y1, x1, d1, f1⟩ := S0.2.1.two; (first | have D := D.below hbn | have D := (Blk.new _ 31 [.int .i64 0, .int .i64 0]).below hbn | have D := (Blk.new wv 31 [.int .i64 0, .int .i64 0]).drew.below hbn | skip); (try (obtain ⟨yD, xD, dD, fD⟩ := D.two)); clear hbn))
      all_goals go_wp2_with fail
      all_goals go_meet
      all_goals refine ⟨_, rfl, rfl, ?_, ?_, ?_⟩
      all_goals (first | with_reducible exact Blk.new _ 31 [.int .i64 (leftR a0 a1 b0 b1), .int .i64 (leftD a0 a1 b0 b1)] | with_reducible exact blk_set2 D _ _ | with_reducible exact E.alloc _ | ((with_reducible refine blk_far2 E ?_ _ _) <;> omega) | with_reducible exact st22_alloc S0 _ | ((with_reducible refine st22_set2 S0 ?_ ?_ ?_ _ _) <;> omega))
    case rest =>
      obtain ⟨g2, rfl, rfl, D2, E2, S2⟩ := hcut
      clear E S1
      obtain ⟨y0, x0, d0, f0⟩ := D2.two
      obtain ⟨y1, x1, d1, f1⟩ := E2.two
      go_wp2_with fail
      refine (eqService_same _ _ _).mono ?_; rintro e w9 ⟨rfl, hb9⟩
      go_wp2_with fail
      go_ret
      exact ⟨rfl, ext_trans S2.2.2 hb9⟩

end Go.Proofs.Ytmmelpgnfjjokaa