/- 'ExprOrder', proved. No condition. -/
import Derived.Test.YtibbnimcnepggaaXO
import Derived.Test.YtibbnimcnepggaaXT
set_option maxRecDepth 100000
namespace Go.Proofs.Ytibbnimcnepggaa
open Go Go.Vc Go.ChangeShapes Go.WideShapes Go.ChangeAt Go.RowKit
theorem exprOrder_lifted (os : Os) (started : os.Started) (H : Type) (enc : TypeId × Value → H) :
    ReturnsInHanded {} Try.checked os 8 .any (Rows.exprOrderSpec.pre6 enc Try.prog Try.f8 Rows.exprOrderRow.domain false) (Rows.exprOrderSpec.post enc Try.prog Try.f8 false true false false) := by
  refine returnsInHanded_of_change (C := Try.checked) Try.own started (by kernel_rfl) Try.func8
    (ChangeSpec.witness6 (enc := enc) (C := Try.checked) false ⟨#[], #[.agg #[.int .i64 0, .int .i64 0, .int .i64 0, .string ⟨#[]⟩, .string ⟨#[]⟩, .string ⟨#[]⟩, .int .i64 0, .slice none 0 0], .agg #[.int .i64 0, .int .i64 0, .int .i64 0, .string ⟨#[]⟩, .string ⟨#[]⟩, .string ⟨#[]⟩, .int .i64 0, .slice none 0 0], .slice none 0 0], []⟩ 8 (by kernel_rfl) (by kernel_rfl) (by kernel_rfl) (by kernel_rfl)) ?_
  intro W base args ds gs before hval0 hW hcnd _
  have hW' := hW
  have hlt0 : ∀ p ∈ before, p.block < W.heap.size := fun p hp => hW.lt p hp
  obtain ⟨p, q, hA0, hV, rfl, hfz, hnd⟩ := hW
  have hA : DataW.TrodAll enc Try.prog W 0 (fun _ => true) true [ty_api_Expr, ty_api_Expr, ty_sl_api_Value] args.toList ds p := hA0
  obtain ⟨v0, v1, v2, d0, d1, d2, p0, p1, p2, rfl, rfl, rfl, h0, h1, h2⟩ := trodAll_three hA
  obtain ⟨rfl, rfl⟩ := trodVars_none hV
  obtain ⟨a, hp0, ha⟩ := pers_ex exTy Try.laidOut rd_Expr h0 (fun y hy => hlt0 y (by simp [hy]))
  obtain ⟨b, hp1, hb⟩ := pers_ex exTy Try.laidOut rd_Expr h1 (fun y hy => hlt0 y (by simp [hy]))
  obtain ⟨vals, hp2, hvals⟩ := pers_row valTy hVs Try.laidOut rd_Values h2 (fun y hy => hlt0 y (by simp [hy])) (noagg hVs (hval0 2 ty_sl_api_Value v2 rfl rfl))
  refine ((c_law12_ExprOrder vals a b ha hb hvals).calls noX W [v0, v1, v2] (fun _ h => h.elim) ⟨hp0, hp1, hp2, trivial⟩).mono fun e W' ⟨v, he, hk, hR⟩ => ?_
  subst he
  have hR' : v = .bool true := hR
  subst hR'
  exact ⟨_, rfl, post_true (f := Try.f8) (s := Rows.exprOrderSpec) (tB := ty_bool) Try.laidOut (mem3 rd_Expr rd_Expr rd_Values) (by kernel_rfl) (by kernel_rfl) rfl rfl rfl rfl hW' hk⟩
theorem exprOrder_holds : Rows.ExprOrderSaid :=
  OpenClaim.holds_of_wide 8 Try.f8 rfl rfl rfl rfl rfl rfl rfl ⟨rfl, rfl, rfl, rfl, rfl⟩ rfl rfl rfl rfl rfl (by kernel_rfl) Try.func8 (by kernel_rfl)
    (of_decide_eq_true (by kernel_rfl)) (by unfold Func.isWrapper; first | (rw [if_pos (by decide +kernel)]; kernel_rfl) | (rw [if_neg (by decide +kernel)]; exact ⟨rfl, rfl⟩))
    (fun os started H enc _ => exprOrder_lifted os started H enc)
#print axioms exprOrder_holds
end Go.Proofs.Ytibbnimcnepggaa
