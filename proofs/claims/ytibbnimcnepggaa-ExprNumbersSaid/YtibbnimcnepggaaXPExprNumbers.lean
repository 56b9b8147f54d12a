/- 'ExprNumbers', proved. No condition. -/
import Derived.Test.YtibbnimcnepggaaXI
import Derived.Test.YtibbnimcnepggaaXT
set_option maxRecDepth 100000
namespace Go.Proofs.Ytibbnimcnepggaa
open Go Go.Vc Go.ChangeShapes Go.WideShapes Go.ChangeAt Go.RowKit
theorem exprNumbers_lifted (os : Os) (started : os.Started) (H : Type) (enc : TypeId × Value → H) :
    ReturnsInHanded {} Try.checked os 6 .any (Rows.exprNumbersSpec.pre6 enc Try.prog Try.f6 Rows.exprNumbersRow.domain false) (Rows.exprNumbersSpec.post enc Try.prog Try.f6 false true false false) := by
  refine returnsInHanded_of_change (C := Try.checked) Try.own started (by kernel_rfl) Try.func6
    (ChangeSpec.witness6 (enc := enc) (C := Try.checked) false ⟨#[], #[.int .i64 0, .int .i64 0, .int .u8 0], []⟩ 8 (by kernel_rfl) (by kernel_rfl) (by kernel_rfl) (by kernel_rfl)) ?_
  intro W base args ds gs before hval0 hW hcnd _
  have hW' := hW
  have hlt0 : ∀ p ∈ before, p.block < W.heap.size := fun p hp => hW.lt p hp
  obtain ⟨p, q, hA0, hV, rfl, hfz, hnd⟩ := hW
  have hA : DataW.TrodAll enc Try.prog W 0 (fun _ => true) true [ty_int64, ty_int64, ty_uint8] args.toList ds p := hA0
  obtain ⟨v0, v1, v2, d0, d1, d2, p0, p1, p2, rfl, rfl, rfl, h0, h1, h2⟩ := trodAll_three hA
  obtain ⟨rfl, rfl⟩ := trodVars_none hV
  obtain ⟨a, rfl, rfl, rfl, w0⟩ := open_int un_int64 (hval0 0 ty_int64 v0 rfl rfl) h0
  have ha := wf_i64 w0
  obtain ⟨b, rfl, rfl, rfl, w1⟩ := open_int un_int64 (hval0 1 ty_int64 v1 rfl rfl) h1
  have hb := wf_i64 w1
  obtain ⟨op, rfl, rfl, rfl, w2⟩ := open_int un_uint8 (hval0 2 ty_uint8 v2 rfl rfl) h2
  have hop := wf_u8 w2
  refine ((c_law12_ExprNumbers a b op ha hb hop).calls noX W [.int .i64 a, .int .i64 b, .int .u8 op] (fun _ h => h.elim) ⟨rfl, rfl, rfl, trivial⟩).mono fun e W' ⟨v, he, hk, hR⟩ => ?_
  subst he
  have hR' : v = .bool true := hR
  subst hR'
  exact ⟨_, rfl, post_true (f := Try.f6) (s := Rows.exprNumbersSpec) (tB := ty_bool) Try.laidOut (mem3 rd_int64 rd_int64 rd_uint8) (by kernel_rfl) (by kernel_rfl) rfl rfl rfl rfl hW' hk⟩
theorem exprNumbers_holds : Rows.ExprNumbersSaid :=
  OpenClaim.holds_of_wide 6 Try.f6 rfl rfl rfl rfl rfl rfl rfl ⟨rfl, rfl, rfl, rfl, rfl⟩ rfl rfl rfl rfl rfl (by kernel_rfl) Try.func6 (by kernel_rfl)
    (of_decide_eq_true (by kernel_rfl)) (by unfold Func.isWrapper; first | (rw [if_pos (by decide +kernel)]; kernel_rfl) | (rw [if_neg (by decide +kernel)]; exact ⟨rfl, rfl⟩))
    (fun os started H enc _ => exprNumbers_lifted os started H enc)
#print axioms exprNumbers_holds
end Go.Proofs.Ytibbnimcnepggaa
