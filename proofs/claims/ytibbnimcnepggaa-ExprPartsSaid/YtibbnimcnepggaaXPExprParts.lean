/- 'ExprParts', proved. No condition. -/
import Derived.Test.YtibbnimcnepggaaXI
import Derived.Test.YtibbnimcnepggaaXT
set_option maxRecDepth 100000
namespace Go.Proofs.Ytibbnimcnepggaa
open Go Go.Vc Go.ChangeShapes Go.WideShapes Go.ChangeAt Go.RowKit
theorem exprParts_lifted (os : Os) (started : os.Started) (H : Type) (enc : TypeId × Value → H) :
    ReturnsInHanded {} Try.checked os 11 .any (Rows.exprPartsSpec.pre6 enc Try.prog Try.f11 Rows.exprPartsRow.domain false) (Rows.exprPartsSpec.post enc Try.prog Try.f11 false true false false) := by
  refine returnsInHanded_of_change (C := Try.checked) Try.own started (by kernel_rfl) Try.func11
    (ChangeSpec.witness6 (enc := enc) (C := Try.checked) false ⟨#[], #[.int .i64 0, .int .i64 0], []⟩ 8 (by kernel_rfl) (by kernel_rfl) (by kernel_rfl) (by kernel_rfl)) ?_
  intro W base args ds gs before hval0 hW hcnd _
  have hW' := hW
  have hlt0 : ∀ p ∈ before, p.block < W.heap.size := fun p hp => hW.lt p hp
  obtain ⟨p, q, hA0, hV, rfl, hfz, hnd⟩ := hW
  have hA : DataW.TrodAll enc Try.prog W 0 (fun _ => true) true [ty_int64, ty_int64] args.toList ds p := hA0
  obtain ⟨v0, v1, d0, d1, p0, p1, rfl, rfl, rfl, h0, h1⟩ := trodAll_two hA
  obtain ⟨rfl, rfl⟩ := trodVars_none hV
  obtain ⟨a, rfl, rfl, rfl, w0⟩ := open_int un_int64 (hval0 0 ty_int64 v0 rfl rfl) h0
  have ha := wf_i64 w0
  obtain ⟨b, rfl, rfl, rfl, w1⟩ := open_int un_int64 (hval0 1 ty_int64 v1 rfl rfl) h1
  have hb := wf_i64 w1
  refine ((c_law12_ExprParts a b ha hb).calls noX W [.int .i64 a, .int .i64 b] (fun _ h => h.elim) ⟨rfl, rfl, trivial⟩).mono fun e W' ⟨v, he, hk, hR⟩ => ?_
  subst he
  have hR' : v = .bool true := hR
  subst hR'
  exact ⟨_, rfl, post_true (f := Try.f11) (s := Rows.exprPartsSpec) (tB := ty_bool) Try.laidOut (mem2 rd_int64 rd_int64) (by kernel_rfl) (by kernel_rfl) rfl rfl rfl rfl hW' hk⟩
theorem exprParts_holds : Rows.ExprPartsSaid :=
  OpenClaim.holds_of_wide 11 Try.f11 rfl rfl rfl rfl rfl rfl rfl ⟨rfl, rfl, rfl, rfl, rfl⟩ rfl rfl rfl rfl rfl (by kernel_rfl) Try.func11 (by kernel_rfl)
    (of_decide_eq_true (by kernel_rfl)) (by unfold Func.isWrapper; first | (rw [if_pos (by decide +kernel)]; kernel_rfl) | (rw [if_neg (by decide +kernel)]; exact ⟨rfl, rfl⟩))
    (fun os started H enc _ => exprParts_lifted os started H enc)
#print axioms exprParts_holds
end Go.Proofs.Ytibbnimcnepggaa
