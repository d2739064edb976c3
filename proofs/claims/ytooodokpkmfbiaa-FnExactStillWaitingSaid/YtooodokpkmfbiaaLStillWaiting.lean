/- FnExactStillWaiting: for every input the call returns true, and each argument reads afterwards as it read before. No condition. -/
import Derived.Test.YtooodokpkmfbiaaEvF
namespace Go.Proofs.Ytooodokpkmfbiaa
open Go.RowKit Go.ChangeShapes Go.WideShapes Go.ChangeAt
namespace lawStillWaiting
theorem readable : Try.f6.params.toList.all (fun t => Try.prog.readableRec t && decide (t < Try.prog.types.size)) = true := by kernel_rfl
theorem resT : Try.f6.resultTypes = #[4] := by kernel_rfl
theorem npar : Try.f6.params.size = 1 := by kernel_rfl
theorem specFn (H : Type) (ds : List (DataW H)) (h : ds.length = 1) : Rows.fnExactStillWaitingSpec.fn H (ds ++ []) = { results := [.lit (.bool true)], args := ds } := by
  match ds, h with
  | [_], _ => rfl

set_option maxRecDepth 100000 in
theorem lifted (os : Os) (started : os.Started) (H : Type) (enc : TypeId × Value → H) :
    ReturnsInHanded {} Try.checked os 6 .any (Rows.fnExactStillWaitingSpec.pre6 enc Try.prog Try.f6 Rows.fnExactStillWaitingRow.domain false) (Rows.fnExactStillWaitingSpec.post enc Try.prog Try.f6 false true false false) := by
  refine returnsInHanded_of_change (C := Try.checked) ownP started (by kernel_rfl) Try.func6
    (ChangeSpec.witness6 (enc := enc) (C := Try.checked) false ⟨#[], #[.slice none 0 0], []⟩ 8 (by kernel_rfl) (by kernel_rfl) (by kernel_rfl) (by kernel_rfl)) ?_
  intro W base args ds gs before hval0 hW hcnd _
  have hval : ∀ (j : Nat) t v, Try.f6.params[j]? = some t → args[j]? = some v → Value.okWide Try.prog W .any base t v := hval0
  have hW' := hW
  obtain ⟨p, q, hA0, hV, rfl, hfz, hnd⟩ := hW
  have hA : DataW.TrodAll enc Try.prog W 0 (fun _ => true) true Try.f6.params.toList args.toList ds p := hA0
  rw [Try.params6] at hA hval
  obtain ⟨v0, d0, rfl, rfl, h0⟩ := trodAll_one hA
  obtain ⟨A0, n0, c0, xs0, rfl, hn0, hr0⟩ := openEventS (hval 0 22 v0 rfl rfl) h0
  refine (walkStillWaiting A0 n0 c0 xs0 hn0 W hr0).mono fun e W' ⟨he, hb⟩ => ?_
  subst he
  exact ⟨_, rfl, law_post Try.prog Try.f6 Rows.fnExactStillWaitingSpec 4 1 rfl resT Try.underlying4 laidOutP readable npar (specFn H) hW' hb⟩

theorem proved : Rows.FnExactStillWaitingSaid :=
  OpenClaim.holds_of_wide 6 Try.f6 rfl rfl rfl rfl rfl rfl rfl ⟨rfl, rfl, rfl, rfl, rfl⟩ rfl rfl rfl rfl rfl (by kernel_rfl) Try.func6 (by kernel_rfl)
    (of_decide_eq_true (by kernel_rfl)) (by unfold Func.isWrapper; first | (rw [if_pos (by decide +kernel)]; kernel_rfl) | (rw [if_neg (by decide +kernel)]; exact ⟨rfl, rfl⟩))
    (fun os started H enc _ => lifted os started H enc)
end lawStillWaiting
end Go.Proofs.Ytooodokpkmfbiaa
