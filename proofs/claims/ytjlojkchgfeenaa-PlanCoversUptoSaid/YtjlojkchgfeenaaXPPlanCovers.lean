/- 'PlanCovers', proved. No condition. -/
import Derived.Test.YtjlojkchgfeenaaXPI
import Derived.Test.YtjlojkchgfeenaaXTC
import Derived.JoinedCond
set_option maxRecDepth 100000
namespace Go.Proofs.Ytjlojkchgfeenaa
open Go Go.Vc Go.ChangeShapes Go.WideShapes Go.ChangeAt Go.RowKit
theorem planCovers_lifted (os : Os) (started : os.Started) (H : Type) (enc : TypeId × Value → H) (F : Stop.Interp) :
    ReturnsInHanded {} Try.checked os 14 .any ((Rows.OpenSpec.upto Rows.planCoversSpec).pre6 enc Try.prog Try.f14 Rows.planCoversUptoRow.domain false) (((Rows.OpenSpec.upto Rows.planCoversSpec).at F).post enc Try.prog Try.f14 false true false false) := by
  refine returnsInHanded_of_cond (C := Try.checked) (s := Rows.OpenSpec.upto Rows.planCoversSpec) (k := Rows.uptoSmall) rfl Try.own started (by kernel_rfl) Try.func14
    (OpenSpec.witness (enc := enc) (C := Try.checked) (s := Rows.OpenSpec.upto Rows.planCoversSpec) (k := Rows.uptoSmall) rfl false ⟨#[], #[.agg #[.int .i64 0, .int .i64 0, .int .i64 0, .string ⟨#[]⟩, .string ⟨#[]⟩, .string ⟨#[]⟩, .int .i64 0, .slice none 0 0], .agg #[.slice none 0 0, .string ⟨#[]⟩, .slice none 0 0, .slice none 0 0], .slice none 0 0], []⟩ 8 (by kernel_rfl) (by kernel_rfl) (by kernel_rfl) (x := ([.agg [.lit (.int .i64 0), .agg [.lit (.int .i64 0), .lit (.int .i64 0), .lit (.string [])], .lit (.string []), .lit (.string []), .lit (.int .i64 0), .nil], .agg [.nil, .agg [.lit (.string []), .nil], .nil], .nil], [], [])) (by kernel_rfl) rfl (by kernel_rfl)) ?_
  intro W base args ds gs before hval0 hW _ hk0 _
  have hW' := hW
  have hlt0 : ∀ p ∈ before, p.block < W.heap.size := fun p hp => hW.lt p hp
  obtain ⟨p, q, hA0, hV, rfl, hfz, hnd⟩ := hW
  have hA : DataW.TrodAll enc Try.prog W 0 (fun _ => true) true [ty_api_Expr, ty_Ask, ty_sl_api_Value] args.toList ds p := hA0
  obtain ⟨v0, v1, v2, d0, d1, d2, p0, p1, p2, rfl, rfl, rfl, h0, h1, h2⟩ := trodAll_three hA
  obtain ⟨rfl, rfl⟩ := trodVars_none hV
  obtain ⟨x, hp0, hx⟩ := pers_ex exTy Try.laidOut rd_Expr h0 (fun y hy => hlt0 y (by simp [hy]))
  have hp1 := pers_ask askTy Try.laidOut rd_Ask h1 (fun y hy => hlt0 y (by simp [hy]))
  obtain ⟨hp2, hvals⟩ := pers_rowD valTy hVs Try.laidOut rd_Values h2 (fun y hy => hlt0 y (by simp [hy])) (noagg hVs (hval0 2 ty_sl_api_Value v2 rfl rfl))
  have hB : (slOf c4Of (askOf d1).2.1).length ≤ 1048576 ∧ (slOf i4Of (askOf d1).2.2).length ≤ 9223372036854775806 ∧ (rowOf d2).length ≤ 9223372036854775806 := by
    have h1 := bulk_ask d1
    have h2 := bulk_row d2
    have h3 := bulk_bound hk0
    simp only [List.append_nil, Rows.uptoBulkAll] at h3
    omega
  refine ((c_law18_PlanCovers x (askOf d1).1 (slOf c4Of (askOf d1).2.1) (slOf i4Of (askOf d1).2.2) (rowOf d2) hB.1 hB.2.1 hB.2.2 hvals).calls noX W [v0, v1, v2] (fun _ h => h.elim) ⟨hp0, hp1, hp2, trivial⟩).mono fun e W' ⟨v, he, hk, hR⟩ => ?_
  subst he
  have hR' : v = .bool true := hR
  subst hR'
  exact ⟨_, rfl, post_true (f := Try.f14) (s := Rows.planCoversSpec) (tB := ty_bool) Try.laidOut (mem3 rd_Expr rd_Ask rd_Values) (by kernel_rfl) (by kernel_rfl) rfl rfl rfl rfl hW' hk⟩
theorem planCovers_holds : Rows.PlanCoversUptoSaid :=
  OpenClaim.holds_of_cond 14 Try.f14 rfl rfl rfl rfl rfl rfl rfl ⟨rfl, rfl, rfl, rfl, rfl⟩ rfl rfl rfl rfl rfl (by kernel_rfl) Try.func14 (by kernel_rfl)
    (of_decide_eq_true (by kernel_rfl)) (by unfold Func.isWrapper; first | (rw [if_pos (by decide +kernel)]; kernel_rfl) | (rw [if_neg (by decide +kernel)]; exact ⟨rfl, rfl⟩))
    (fun os started H enc _ F => planCovers_lifted os started H enc F)
#print axioms planCovers_holds
end Go.Proofs.Ytjlojkchgfeenaa
