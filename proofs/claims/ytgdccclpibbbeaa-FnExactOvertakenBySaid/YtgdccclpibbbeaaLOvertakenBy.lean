/- FnExactOvertakenBy: for every input the call returns true, and each argument reads afterwards as it read before. No condition. -/
import Derived.Test.YtgdccclpibbbeaaBaX
namespace Go.Proofs.Ytgdccclpibbbeaa
open Go.RowKit Go.ChangeShapes Go.WideShapes Go.ChangeAt
namespace lawOvertakenBy
theorem readable : Try.f10.params.toList.all (fun t => Try.prog.readableRec t && decide (t < Try.prog.types.size)) = true := by kernel_rfl
theorem resT : Try.f10.resultTypes = #[4] := by kernel_rfl
theorem npar : Try.f10.params.size = 4 := by kernel_rfl
theorem specFn (H : Type) (ds : List (DataW H)) (h : ds.length = 4) : Rows.fnExactOvertakenBySpec.fn H (ds ++ []) = { results := [.lit (.bool true)], args := ds } := by
  match ds, h with
  | [_, _, _, _], _ => rfl

set_option maxRecDepth 100000 in
theorem lifted (os : Os) (started : os.Started) (H : Type) (enc : TypeId × Value → H) :
    ReturnsInHanded {} Try.checked os 10 .any (Rows.fnExactOvertakenBySpec.pre6 enc Try.prog Try.f10 Rows.fnExactOvertakenByRow.domain false) (Rows.fnExactOvertakenBySpec.post enc Try.prog Try.f10 false true false false) := by
  refine returnsInHanded_of_change (C := Try.checked) ownP started (by kernel_rfl) Try.func10
    (ChangeSpec.witness6 (enc := enc) (C := Try.checked) false ⟨#[], #[.slice none 0 0, .slice none 0 0, .int .i64 0, .int .i64 0], []⟩ 8 (by kernel_rfl) (by kernel_rfl) (by kernel_rfl) (by kernel_rfl)) ?_
  intro W base args ds gs before hval0 hW hcnd _
  have hval : ∀ (j : Nat) t v, Try.f10.params[j]? = some t → args[j]? = some v → Value.okWide Try.prog W .any base t v := hval0
  have hW' := hW
  obtain ⟨p, q, hA0, hV, rfl, hfz, hnd⟩ := hW
  have hA : DataW.TrodAll enc Try.prog W 0 (fun _ => true) true Try.f10.params.toList args.toList ds p := hA0
  rw [Try.params10] at hA hval
  obtain ⟨v0, v1, v2, v3, d0, d1, d2, d3, p0, p1, p2, p3, rfl, rfl, rfl, h0, h1, h2, h3⟩ := trodAll_four hA
  obtain ⟨A0, n0, c0, xs0, rfl, hn0, hr0⟩ := openIntS (hval 0 22 v0 rfl rfl) h0
  obtain ⟨A1, n1, c1, xs1, rfl, hn1, hr1⟩ := openMarkedS (hval 1 32 v1 rfl rfl) h1
  obtain ⟨a2, rfl, _, _, wf2⟩ := open_int Try.underlying3 (hval 2 3 v2 rfl rfl) h2
  obtain ⟨a3, rfl, _, _, wf3⟩ := open_int Try.underlying3 (hval 3 3 v3 rfl rfl) h3
  refine (walkOvertakenBy A0 n0 c0 xs0 hn0 A1 n1 c1 xs1 hn1 a2 a3 W hr0 hr1).mono fun e W' ⟨he, hb⟩ => ?_
  subst he
  exact ⟨_, rfl, law_post Try.prog Try.f10 Rows.fnExactOvertakenBySpec 4 4 rfl resT Try.underlying4 laidOutP readable npar (specFn H) hW' hb⟩

theorem proved : Rows.FnExactOvertakenBySaid :=
  OpenClaim.holds_of_wide 10 Try.f10 rfl rfl rfl rfl rfl rfl rfl ⟨rfl, rfl, rfl, rfl, rfl⟩ rfl rfl rfl rfl rfl (by kernel_rfl) Try.func10 (by kernel_rfl)
    (of_decide_eq_true (by kernel_rfl)) (by unfold Func.isWrapper; first | (rw [if_pos (by decide +kernel)]; kernel_rfl) | (rw [if_neg (by decide +kernel)]; exact ⟨rfl, rfl⟩))
    (fun os started H enc _ => lifted os started H enc)
end lawOvertakenBy
end Go.Proofs.Ytgdccclpibbbeaa
