/- 'ExprNulls', proved. No condition. -/
import Derived.Test.YtibbnimcnepggaaXM
import Derived.Test.YtibbnimcnepggaaXTN
set_option maxRecDepth 100000
namespace Go.Proofs.Ytibbnimcnepggaa
open Go Go.Vc Go.ChangeShapes Go.WideShapes Go.ChangeAt Go.RowKit
theorem exprNulls_lifted (os : Os) (started : os.Started) (H : Type) (enc : TypeId × Value → H) :
    ReturnsInHanded {} Try.checked os 10 .any (Rows.exprNullsSpec.pre6 enc Try.prog Try.f10 Rows.exprNullsRow.domain false) (Rows.exprNullsSpec.post enc Try.prog Try.f10 false true false false) := by
  refine returnsInHanded_of_change (C := Try.checked) Try.own started (by kernel_rfl) Try.func10
    (ChangeSpec.witness6 (enc := enc) (C := Try.checked) false ⟨#[], #[.agg #[.int .u8 0, .int .i64 0, .int .i64 0, .int .i64 0, .string ⟨#[]⟩, .string ⟨#[]⟩, .string ⟨#[]⟩, .int .i64 0, .slice none 0 0, .slice none 0 0, .bool false]], []⟩ 8 (by kernel_rfl) (by kernel_rfl) (by kernel_rfl) (by kernel_rfl)) ?_
  intro W base args ds gs before hval0 hW hcnd _
  have hW' := hW
  have hlt0 : ∀ p ∈ before, p.block < W.heap.size := fun p hp => hW.lt p hp
  obtain ⟨p, q, hA0, hV, rfl, hfz, hnd⟩ := hW
  have hA : DataW.TrodAll enc Try.prog W 0 (fun _ => true) true [55] args.toList ds p := hA0
  obtain ⟨v0, d0, rfl, rfl, h0⟩ := trodAll_one hA
  obtain ⟨rfl, rfl⟩ := trodVars_none hV
  obtain ⟨op, x, vals, left, hp0, hop, hx, hvals⟩ := pers_null nullTy Try.laidOut rd_Null h0 (fun y hy => hlt0 y (by simp [hy]))
  refine ((exprNulls_walk hop hx hvals fun k vk vn vs tb nm sl kids e => by subst e; exact c_law12_ExprNulls op k vk vn vs tb nm sl kids vals left hop hx hvals).calls noX W [v0] (fun _ h => h.elim) ⟨hp0, trivial⟩).mono fun e W' ⟨v, he, hk, hR⟩ => ?_
  subst he
  have hR' : v = .bool true := hR
  subst hR'
  exact ⟨_, rfl, post_true (f := Try.f10) (s := Rows.exprNullsSpec) (tB := ty_bool) Try.laidOut (mem1 rd_Null) (by kernel_rfl) (by kernel_rfl) rfl rfl rfl rfl hW' hk⟩
theorem exprNulls_holds : Rows.ExprNullsSaid :=
  OpenClaim.holds_of_wide 10 Try.f10 rfl rfl rfl rfl rfl rfl rfl ⟨rfl, rfl, rfl, rfl, rfl⟩ rfl rfl rfl rfl rfl (by kernel_rfl) Try.func10 (by kernel_rfl)
    (of_decide_eq_true (by kernel_rfl)) (by unfold Func.isWrapper; first | (rw [if_pos (by decide +kernel)]; kernel_rfl) | (rw [if_neg (by decide +kernel)]; exact ⟨rfl, rfl⟩))
    (fun os started H enc _ => exprNulls_lifted os started H enc)
#print axioms exprNulls_holds
end Go.Proofs.Ytibbnimcnepggaa
