/- FnExactSessionText: for every input the call returns true, and each argument reads afterwards as it read before; the three listed tables of the library start as their initialisers lay them, and the card ties that to the program's text. No other condition. -/
import Derived.Test.YtgljelhglgeojaaDoorSsJ
import Derived.Test.YtgljelhglgeojaaDoorTie
import Derived.Test.YtgljelhglgeojaaDoorCards
import Derived.Lay
import Derived.MakeChecks
import Derived.Handed
import Derived.SevenTiedAt
import Derived.Stop.LaidErr
namespace Go.Proofs.YtgljelhglgeojaaDoor
open Go.RowKit Go.ChangeShapes Go.WideShapes Go.ChangeAt
namespace lawSessionText
theorem readable : Tryd.f3.params.toList.all (fun t => Tryd.prog.readableRec t && decide (t < Tryd.prog.types.size)) = true := by kernel_rfl
theorem resT : Tryd.f3.resultTypes = #[4] := by kernel_rfl
theorem npar : Tryd.f3.params.size = 1 := by kernel_rfl
theorem specFn (H : Type) (ds : List (DataW H)) (h : ds.length = 1) : Rows.fnExactSessionTextSpec.fn H (ds ++ []) = { results := [.lit (.bool true)], args := ds } := by
  match ds, h with
  | [_], _ => rfl

theorem tab_of {W : World} (h : laidMetH Tryd.prog Rows.fnExactSessionTextRow.laid W) : TabW W := by
  rw [MakeChecks.laidMetH_plain _ _ _ (by kernel_rfl)] at h
  have h2 : laidMet Tryd.prog [("internal/strconv.uint64pow10", Lib.tabData .u64 Lib.pow10Tab)] W := h.tail.tail
  exact Lib.tabIs_of_head (g := 0) (t := 76) (e := 67) (n := 20) (by kernel_rfl) (by kernel_rfl) Tryd.underlying76 Tryd.underlying67 (by kernel_rfl) (by kernel_rfl) h2

set_option maxRecDepth 100000 in
theorem lifted (os : Os) (started : os.Started) (H : Type) (enc : TypeId × Value → H) :
    ReturnsInHanded {} Tryd.checked os 3 .any (fun w args => (Rows.fnExactSessionTextSpec.pre enc Tryd.prog Tryd.f3 [] false w args ∧ laidMetH Tryd.prog Rows.fnExactSessionTextRow.laid w) ∧ sizedMet enc Tryd.prog Tryd.f3 (OpenSpec.ofChange Rows.fnExactSessionTextSpec) false w args)
      (Rows.fnExactSessionTextSpec.post enc Tryd.prog Tryd.f3 false true false false) := by
  refine returnsInHanded_of_change_and (C := Tryd.checked) (X := fun w _ => laidMetH Tryd.prog Rows.fnExactSessionTextRow.laid w) (fun _ _ _ hh h => h.of_heap hh) ownP started (by kernel_rfl) Tryd.func3
    (ChangeSpec.witness_shaped (enc := enc) (C := Tryd.checked) (os := os) (X := fun w _ => laidMetH Tryd.prog Rows.fnExactSessionTextRow.laid w) false (World.laidAll Tryd.prog os Rows.fnExactSessionTextRow.laid) #[.agg #[.int .i64 0, .int .i64 0, .int .i64 0, .int .i64 0, .int .i64 0, .int .i64 0, .slice none 0 0]] 8 (World.laidAll_os _ _ _)
      (World.shaped_of_ZipB (by kernel_rfl) (by kernel_rfl)) (by kernel_rfl) (by kernel_rfl) (by kernel_rfl)
      (by rw [MakeChecks.laidMetH_plain _ _ _ (by kernel_rfl)]; exact laidMet_laidAll _ (by kernel_rfl) (by kernel_rfl))) ?_
  intro W base args ds gs before hval0 hW _ _ hL _
  have hval : ∀ (j : Nat) t v, Tryd.f3.params[j]? = some t → args[j]? = some v → Value.okWide Tryd.prog W .any base t v := hval0
  have hW' := hW
  obtain ⟨p, q, hA0, hV, rfl, hfz, hnd⟩ := hW
  have hA : DataW.TrodAll enc Tryd.prog W 0 (fun _ => true) true Tryd.f3.params.toList args.toList ds p := hA0
  rw [Tryd.params3] at hA hval
  obtain ⟨v0, d0, rfl, rfl, h0⟩ := trodAll_one hA
  obtain ⟨y0, rfl, hy0⟩ := openSes (hval 0 26 v0 rfl rfl) h0
  refine (walkSessionText y0 W hy0 (tab_of hL)).mono fun e W' ⟨he, hb⟩ => ?_
  subst he
  exact ⟨_, rfl, law_post Tryd.prog Tryd.f3 Rows.fnExactSessionTextSpec 4 1 rfl resT Tryd.underlying4 laidOutP readable npar (specFn H) hW' hb⟩

theorem row : Rows.FnExactSessionTextSaid :=
  OpenClaim.holds_of_wide 3 Tryd.f3 rfl rfl rfl rfl rfl rfl rfl ⟨rfl, rfl, rfl, rfl, rfl⟩ rfl rfl rfl rfl rfl (by kernel_rfl) Tryd.func3 (by kernel_rfl)
    (of_decide_eq_true (by kernel_rfl)) (by unfold Func.isWrapper; first | (rw [if_pos (by decide +kernel)]; kernel_rfl) | (rw [if_neg (by decide +kernel)]; exact ⟨rfl, rfl⟩))
    (fun os started H enc _ => lifted os started H enc)
theorem proved : Rows.FnExactSessionTextCardSaid :=
  Claim7.holds_tied_plain_at .later [] [.data, .data, .data] true (true, "b3a97fe56f0f2fbc31e6dbc205b8297a45104ca647356a655ab5e493429cbb74") false row (fun _ h => by cases h) (by kernel_rfl) (fun _ h => by cases h) fnExactSessionText_row_tie rfl ⟨rfl, rfl⟩ (by kernel_rfl) rfl
    (fun f fn hf hfn => by
      obtain rfl : f = 3 := Option.some.inj ((show Tryd.prog.funcNamed "loop.example/g00838/laws.FnExactSessionText" = some 3 by kernel_rfl).symm.trans hf) |>.symm
      obtain rfl : fn = Tryd.f3 := (Option.some.inj (Tryd.func3.symm.trans hfn)).symm
      exact ⟨by kernel_rfl, fun j t ht => by
        rw [Tryd.params3] at ht
        have hm : t ∈ [26] := by simpa using Array.mem_of_getElem? ht
        have hall : ([26].all fun u => !Tryd.prog.wantsStandIn u) = true := by kernel_rfl
        exact (show Tryd.prog.wantsStandIn t = false by simpa using List.all_eq_true.1 hall t hm)⟩)
    (by kernel_rfl)
end lawSessionText
end Go.Proofs.YtgljelhglgeojaaDoor
