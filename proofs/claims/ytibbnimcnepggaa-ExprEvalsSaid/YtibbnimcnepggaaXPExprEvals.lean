/- 'ExprEvals', proved. -/
import Derived.Test.YtibbnimcnepggaaXH
import Derived.Test.YtibbnimcnepggaaXT
set_option maxRecDepth 100000
namespace Go.Proofs.Ytibbnimcnepggaa
open Go Go.Vc Go.ChangeShapes Go.WideShapes Go.ChangeAt Go.RowKit
theorem exprEvals_lifted (os : Os) (started : os.Started) (H : Type) (enc : TypeId × Value → H) :
    ReturnsInHanded {} Try.checked os 5 .any (Rows.exprEvalsSpec.pre6 enc Try.prog Try.f5 Rows.exprEvalsRow.domain false) (Rows.exprEvalsSpec.post enc Try.prog Try.f5 false true false false) := by
  refine returnsInHanded_of_change (C := Try.checked) Try.own started (by kernel_rfl) Try.func5
    (ChangeSpec.witness6 (enc := enc) (C := Try.checked) false ⟨#[], #[.agg #[.int .i64 0, .int .i64 0, .int .i64 0, .string ⟨#[]⟩, .string ⟨#[]⟩, .string ⟨#[]⟩, .int .i64 0, .slice none 0 0], .slice none 0 0], []⟩ 8 (by kernel_rfl) (by kernel_rfl) (by kernel_rfl) (by kernel_rfl)) ?_
  intro W base args ds gs before hval0 hW hcnd _
  have hW' := hW
  have hlt0 : ∀ p ∈ before, p.block < W.heap.size := fun p hp => hW.lt p hp
  obtain ⟨p, q, hA0, hV, rfl, hfz, hnd⟩ := hW
  have hA : DataW.TrodAll enc Try.prog W 0 (fun _ => true) true [ty_api_Expr, ty_sl_api_Value] args.toList ds p := hA0
  obtain ⟨v0, v1, d0, d1, p0, p1, rfl, rfl, rfl, h0, h1⟩ := trodAll_two hA
  obtain ⟨rfl, rfl⟩ := trodVars_none hV
  obtain ⟨x, hx, hxr⟩ := pers_ex exTy Try.laidOut rd_Expr h0 (fun y hy => hlt0 y (by simp [hy]))
  obtain ⟨vals, hv, hvr⟩ := pers_row valTy hVs Try.laidOut rd_Values h1 (fun y hy => hlt0 y (by simp [hy])) (noagg hVs (hval0 1 ty_sl_api_Value v1 rfl rfl))
  refine ((c_law12_ExprEvals vals x hxr hvr).calls noX W [v0, v1] (fun _ h => h.elim) ⟨hx, hv, trivial⟩).mono fun e W' ⟨v, he, hk, hR⟩ => ?_
  subst he
  have hR' : v = .bool (evalsF vals x) := hR
  rw [law_ExprEvals hvr hxr] at hR'
  subst hR'
  exact ⟨_, rfl, post_true (f := Try.f5) (s := Rows.exprEvalsSpec) (tB := ty_bool) Try.laidOut (mem2 rd_Expr rd_Values) (by kernel_rfl) (by kernel_rfl) rfl rfl rfl rfl hW' hk⟩
theorem exprEvals_holds : Rows.ExprEvalsSaid :=
  OpenClaim.holds_of_wide 5 Try.f5 rfl rfl rfl rfl rfl rfl rfl ⟨rfl, rfl, rfl, rfl, rfl⟩ rfl rfl rfl rfl rfl (by kernel_rfl) Try.func5 (by kernel_rfl)
    (of_decide_eq_true (by kernel_rfl)) (by unfold Func.isWrapper; first | (rw [if_pos (by decide +kernel)]; kernel_rfl) | (rw [if_neg (by decide +kernel)]; exact ⟨rfl, rfl⟩))
    (fun os started H enc _ => exprEvals_lifted os started H enc)
#print axioms exprEvals_holds
end Go.Proofs.Ytibbnimcnepggaa
