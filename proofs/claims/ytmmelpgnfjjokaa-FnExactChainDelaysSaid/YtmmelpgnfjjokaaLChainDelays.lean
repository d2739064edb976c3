/- FnExactChainDelays: for every input the call returns true, and each argument reads afterwards as it read before. No condition. -/
import Derived.Test.YtmmelpgnfjjokaaBoX
namespace Go.Proofs.Ytmmelpgnfjjokaa
open Go.RowKit Go.ChangeShapes Go.WideShapes Go.ChangeAt
namespace lawChainDelays
theorem readable : Try.f14.params.toList.all (fun t => Try.prog.readableRec t && decide (t < Try.prog.types.size)) = true := by kernel_rfl
theorem resT : Try.f14.resultTypes = #[4] := by kernel_rfl
theorem npar : Try.f14.params.size = 2 := by kernel_rfl
theorem specFn (H : Type) (ds : List (DataW H)) (h : ds.length = 2) : Rows.fnExactChainDelaysSpec.fn H (ds ++ []) = { results := [.lit (.bool true)], args := ds } := by
  match ds, h with
  | [_, _], _ => rfl

set_option maxRecDepth 100000 in
theorem lifted (os : Os) (started : os.Started) (H : Type) (enc : TypeId × Value → H) :
    ReturnsInHanded {} Try.checked os 14 .any (Rows.fnExactChainDelaysSpec.pre6 enc Try.prog Try.f14 Rows.fnExactChainDelaysRow.domain false) (Rows.fnExactChainDelaysSpec.post enc Try.prog Try.f14 false true false false) := by
  refine returnsInHanded_of_change (C := Try.checked) ownP started (by kernel_rfl) Try.func14
    (ChangeSpec.witness6 (enc := enc) (C := Try.checked) false ⟨#[], #[.agg #[.int .i64 0, .int .i64 0], .slice none 0 0], []⟩ 8 (by kernel_rfl) (by kernel_rfl) (by kernel_rfl) (by kernel_rfl)) ?_
  intro W base args ds gs before hval0 hW hcnd _
  have hval : ∀ (j : Nat) t v, Try.f14.params[j]? = some t → args[j]? = some v → Value.okWide Try.prog W .any base t v := hval0
  have hW' := hW
  obtain ⟨p, q, hA0, hV, rfl, hfz, hnd⟩ := hW
  have hA : DataW.TrodAll enc Try.prog W 0 (fun _ => true) true Try.f14.params.toList args.toList ds p := hA0
  rw [Try.params14] at hA hval
  obtain ⟨v0, v1, d0, d1, p0, p1, rfl, rfl, rfl, h0, h1⟩ := trodAll_two hA
  obtain ⟨a0x0, a0x1, rfl⟩ := openInflow (hval 0 23 v0 rfl rfl)
  obtain ⟨A1, n1, c1, xs1, rfl, hn1, hr1⟩ := openServiceS (hval 1 53 v1 rfl rfl) h1
  refine (walkChainDelays a0x0 a0x1 A1 n1 c1 xs1 hn1 W hr1).mono fun e W' ⟨he, hb⟩ => ?_
  subst he
  exact ⟨_, rfl, law_post Try.prog Try.f14 Rows.fnExactChainDelaysSpec 4 2 rfl resT Try.underlying4 laidOutP readable npar (specFn H) hW' hb⟩

theorem proved : Rows.FnExactChainDelaysSaid :=
  OpenClaim.holds_of_wide 14 Try.f14 rfl rfl rfl rfl rfl rfl rfl ⟨rfl, rfl, rfl, rfl, rfl⟩ rfl rfl rfl rfl rfl (by kernel_rfl) Try.func14 (by kernel_rfl)
    (of_decide_eq_true (by kernel_rfl)) (by unfold Func.isWrapper; first | (rw [if_pos (by decide +kernel)]; kernel_rfl) | (rw [if_neg (by decide +kernel)]; exact ⟨rfl, rfl⟩))
    (fun os started H enc _ => lifted os started H enc)
end lawChainDelays
end Go.Proofs.Ytmmelpgnfjjokaa
