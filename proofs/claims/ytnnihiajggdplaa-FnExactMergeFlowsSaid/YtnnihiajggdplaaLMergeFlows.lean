/- FnExactMergeFlows: for every input the call returns true, and each argument reads afterwards as it read before. No condition. -/
import Derived.Test.YtnnihiajggdplaaTrMe
namespace Go.Proofs.Ytnnihiajggdplaa
open Go.RowKit Go.ChangeShapes Go.WideShapes Go.ChangeAt
namespace lawMergeFlows
theorem readable : Try.f7.params.toList.all (fun t => Try.prog.readableRec t && decide (t < Try.prog.types.size)) = true := by kernel_rfl
theorem resT : Try.f7.resultTypes = #[4] := by kernel_rfl
theorem npar : Try.f7.params.size = 2 := by kernel_rfl
theorem specFn (H : Type) (ds : List (DataW H)) (h : ds.length = 2) : Rows.fnExactMergeFlowsSpec.fn H (ds ++ []) = { results := [.lit (.bool true)], args := ds } := by
  match ds, h with
  | [_, _], _ => rfl

set_option maxRecDepth 100000 in
theorem lifted (os : Os) (started : os.Started) (H : Type) (enc : TypeId × Value → H) :
    ReturnsInHanded {} Try.checked os 7 .any (Rows.fnExactMergeFlowsSpec.pre6 enc Try.prog Try.f7 Rows.fnExactMergeFlowsRow.domain false) (Rows.fnExactMergeFlowsSpec.post enc Try.prog Try.f7 false true false false) := by
  refine returnsInHanded_of_change (C := Try.checked) ownP started (by kernel_rfl) Try.func7
    (ChangeSpec.witness6 (enc := enc) (C := Try.checked) false ⟨#[], #[.slice none 0 0, .int .i64 0], []⟩ 8 (by kernel_rfl) (by kernel_rfl) (by kernel_rfl) (by kernel_rfl)) ?_
  intro W base args ds gs before hval0 hW hcnd _
  have hval : ∀ (j : Nat) t v, Try.f7.params[j]? = some t → args[j]? = some v → Value.okWide Try.prog W .any base t v := hval0
  have hW' := hW
  obtain ⟨p, q, hA0, hV, rfl, hfz, hnd⟩ := hW
  have hA : DataW.TrodAll enc Try.prog W 0 (fun _ => true) true Try.f7.params.toList args.toList ds p := hA0
  rw [Try.params7] at hA hval
  obtain ⟨v0, v1, d0, d1, p0, p1, rfl, rfl, rfl, h0, h1⟩ := trodAll_two hA
  obtain ⟨A0, n0, c0, xs0, rfl, hn0, hr0⟩ := openFlowS (hval 0 40 v0 rfl rfl) h0
  obtain ⟨a1, rfl, _, _, wf1⟩ := open_int Try.underlying3 (hval 1 3 v1 rfl rfl) h1
  refine (walkMergeFlows A0 n0 c0 xs0 hn0 a1 W hr0).mono fun e W' ⟨he, hb⟩ => ?_
  subst he
  exact ⟨_, rfl, law_post Try.prog Try.f7 Rows.fnExactMergeFlowsSpec 4 2 rfl resT Try.underlying4 laidOutP readable npar (specFn H) hW' hb⟩

theorem proved : Rows.FnExactMergeFlowsSaid :=
  OpenClaim.holds_of_wide 7 Try.f7 rfl rfl rfl rfl rfl rfl rfl ⟨rfl, rfl, rfl, rfl, rfl⟩ rfl rfl rfl rfl rfl (by kernel_rfl) Try.func7 (by kernel_rfl)
    (of_decide_eq_true (by kernel_rfl)) (by unfold Func.isWrapper; first | (rw [if_pos (by decide +kernel)]; kernel_rfl) | (rw [if_neg (by decide +kernel)]; exact ⟨rfl, rfl⟩))
    (fun os started H enc _ => lifted os started H enc)
end lawMergeFlows
end Go.Proofs.Ytnnihiajggdplaa
