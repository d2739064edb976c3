/- FnExactWaitsIn: for every input the call returns true, and each argument reads afterwards as it read before. No condition. -/
import Derived.Test.YtgdccclpibbbeaaBaE
namespace Go.Proofs.Ytgdccclpibbbeaa
open Go.RowKit Go.ChangeShapes Go.WideShapes Go.ChangeAt
namespace lawWaitsIn
theorem readable : Try.f7.params.toList.all (fun t => Try.prog.readableRec t && decide (t < Try.prog.types.size)) = true := by kernel_rfl
theorem resT : Try.f7.resultTypes = #[4] := by kernel_rfl
theorem npar : Try.f7.params.size = 2 := by kernel_rfl
theorem specFn (H : Type) (ds : List (DataW H)) (h : ds.length = 2) : Rows.fnExactWaitsInSpec.fn H (ds ++ []) = { results := [.lit (.bool true)], args := ds } := by
  match ds, h with
  | [_, _], _ => rfl

set_option maxRecDepth 100000 in
theorem lifted (os : Os) (started : os.Started) (H : Type) (enc : TypeId × Value → H) :
    ReturnsInHanded {} Try.checked os 7 .any (Rows.fnExactWaitsInSpec.pre6 enc Try.prog Try.f7 Rows.fnExactWaitsInRow.domain false) (Rows.fnExactWaitsInSpec.post enc Try.prog Try.f7 false true false false) := by
  refine returnsInHanded_of_change (C := Try.checked) ownP started (by kernel_rfl) Try.func7
    (ChangeSpec.witness6 (enc := enc) (C := Try.checked) false ⟨#[], #[.slice none 0 0, .slice none 0 0], []⟩ 8 (by kernel_rfl) (by kernel_rfl) (by kernel_rfl) (by kernel_rfl)) ?_
  intro W base args ds gs before hval0 hW hcnd _
  have hval : ∀ (j : Nat) t v, Try.f7.params[j]? = some t → args[j]? = some v → Value.okWide Try.prog W .any base t v := hval0
  have hW' := hW
  obtain ⟨p, q, hA0, hV, rfl, hfz, hnd⟩ := hW
  have hA : DataW.TrodAll enc Try.prog W 0 (fun _ => true) true Try.f7.params.toList args.toList ds p := hA0
  rw [Try.params7] at hA hval
  obtain ⟨v0, v1, d0, d1, p0, p1, rfl, rfl, rfl, h0, h1⟩ := trodAll_two hA
  obtain ⟨A0, n0, c0, xs0, rfl, hn0, hr0⟩ := openMarkedS (hval 0 32 v0 rfl rfl) h0
  obtain ⟨A1, n1, c1, xs1, rfl, hn1, hr1⟩ := openIntS (hval 1 22 v1 rfl rfl) h1
  refine (walkWaitsIn A0 n0 c0 xs0 hn0 A1 n1 c1 xs1 hn1 W hr0 hr1).mono fun e W' ⟨he, hb⟩ => ?_
  subst he
  exact ⟨_, rfl, law_post Try.prog Try.f7 Rows.fnExactWaitsInSpec 4 2 rfl resT Try.underlying4 laidOutP readable npar (specFn H) hW' hb⟩

theorem proved : Rows.FnExactWaitsInSaid :=
  OpenClaim.holds_of_wide 7 Try.f7 rfl rfl rfl rfl rfl rfl rfl ⟨rfl, rfl, rfl, rfl, rfl⟩ rfl rfl rfl rfl rfl (by kernel_rfl) Try.func7 (by kernel_rfl)
    (of_decide_eq_true (by kernel_rfl)) (by unfold Func.isWrapper; first | (rw [if_pos (by decide +kernel)]; kernel_rfl) | (rw [if_neg (by decide +kernel)]; exact ⟨rfl, rfl⟩))
    (fun os started H enc _ => lifted os started H enc)
end lawWaitsIn
end Go.Proofs.Ytgdccclpibbbeaa
