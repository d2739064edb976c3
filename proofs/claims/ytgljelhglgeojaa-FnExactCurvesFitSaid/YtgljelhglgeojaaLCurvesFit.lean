/- FnExactCurvesFit: for every input the call returns true, and each argument reads afterwards as it read before. No condition. -/
import Derived.Test.YtgljelhglgeojaaDeBd
namespace Go.Proofs.Ytgljelhglgeojaa
open Go.RowKit Go.ChangeShapes Go.WideShapes Go.ChangeAt
namespace lawCurvesFit
theorem readable : Try.f3.params.toList.all (fun t => Try.prog.readableRec t && decide (t < Try.prog.types.size)) = true := by kernel_rfl
theorem resT : Try.f3.resultTypes = #[4] := by kernel_rfl
theorem npar : Try.f3.params.size = 2 := by kernel_rfl
theorem specFn (H : Type) (ds : List (DataW H)) (h : ds.length = 2) : Rows.fnExactCurvesFitSpec.fn H (ds ++ []) = { results := [.lit (.bool true)], args := ds } := by
  match ds, h with
  | [_, _], _ => rfl

set_option maxRecDepth 100000 in
theorem lifted (os : Os) (started : os.Started) (H : Type) (enc : TypeId × Value → H) :
    ReturnsInHanded {} Try.checked os 3 .any (Rows.fnExactCurvesFitSpec.pre6 enc Try.prog Try.f3 Rows.fnExactCurvesFitRow.domain false) (Rows.fnExactCurvesFitSpec.post enc Try.prog Try.f3 false true false false) := by
  refine returnsInHanded_of_change (C := Try.checked) ownP started (by kernel_rfl) Try.func3
    (ChangeSpec.witness6 (enc := enc) (C := Try.checked) false ⟨#[], #[.slice none 0 0, .int .i64 0], []⟩ 8 (by kernel_rfl) (by kernel_rfl) (by kernel_rfl) (by kernel_rfl)) ?_
  intro W base args ds gs before hval0 hW hcnd _
  have hval : ∀ (j : Nat) t v, Try.f3.params[j]? = some t → args[j]? = some v → Value.okWide Try.prog W .any base t v := hval0
  have hW' := hW
  obtain ⟨p, q, hA0, hV, rfl, hfz, hnd⟩ := hW
  have hA : DataW.TrodAll enc Try.prog W 0 (fun _ => true) true Try.f3.params.toList args.toList ds p := hA0
  rw [Try.params3] at hA hval
  obtain ⟨v0, v1, d0, d1, p0, p1, rfl, rfl, rfl, h0, h1⟩ := trodAll_two hA
  obtain ⟨A0, n0, c0, xs0, rfl, hn0, hr0, hz0⟩ := openSesS (hval 0 22 v0 rfl rfl) h0
  obtain ⟨a1, rfl, _, _, wf1⟩ := open_int Try.underlying3 (hval 1 3 v1 rfl rfl) h1
  refine (walkCurvesFit A0 n0 c0 xs0 hn0 a1 W hr0 hz0).mono fun e W' ⟨he, hb⟩ => ?_
  subst he
  exact ⟨_, rfl, law_post Try.prog Try.f3 Rows.fnExactCurvesFitSpec 4 2 rfl resT Try.underlying4 laidOutP readable npar (specFn H) hW' hb⟩

theorem proved : Rows.FnExactCurvesFitSaid :=
  OpenClaim.holds_of_wide 3 Try.f3 rfl rfl rfl rfl rfl rfl rfl ⟨rfl, rfl, rfl, rfl, rfl⟩ rfl rfl rfl rfl rfl (by kernel_rfl) Try.func3 (by kernel_rfl)
    (of_decide_eq_true (by kernel_rfl)) (by unfold Func.isWrapper; first | (rw [if_pos (by decide +kernel)]; kernel_rfl) | (rw [if_neg (by decide +kernel)]; exact ⟨rfl, rfl⟩))
    (fun os started H enc _ => lifted os started H enc)
end lawCurvesFit
end Go.Proofs.Ytgljelhglgeojaa
