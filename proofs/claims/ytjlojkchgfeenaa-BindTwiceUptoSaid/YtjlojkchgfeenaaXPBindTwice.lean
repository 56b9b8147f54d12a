/- 'BindTwice', proved. No condition. -/
import Derived.Test.YtjlojkchgfeenaaXBW
import Derived.Test.YtjlojkchgfeenaaXTB
import Derived.JoinedCond
set_option maxRecDepth 100000
namespace Go.Proofs.Ytjlojkchgfeenaa
open Go Go.Vc Go.ChangeShapes Go.WideShapes Go.ChangeAt Go.RowKit
theorem bindTwice_lifted (os : Os) (started : os.Started) (H : Type) (enc : TypeId × Value → H) (F : Stop.Interp) :
    ReturnsInHanded {} Try.checked os 4 .any ((Rows.OpenSpec.upto Rows.bindTwiceSpec).pre6 enc Try.prog Try.f4 Rows.bindTwiceUptoRow.domain false) (((Rows.OpenSpec.upto Rows.bindTwiceSpec).at F).post enc Try.prog Try.f4 false true false false) := by
  refine returnsInHanded_of_cond (C := Try.checked) (s := Rows.OpenSpec.upto Rows.bindTwiceSpec) (k := Rows.uptoSmall) rfl Try.own started (by kernel_rfl) Try.func4
    (OpenSpec.witness (enc := enc) (C := Try.checked) (s := Rows.OpenSpec.upto Rows.bindTwiceSpec) (k := Rows.uptoSmall) rfl false ⟨#[], #[.agg #[.int .i64 0, .int .i64 0, .int .i64 0, .string ⟨#[]⟩, .string ⟨#[]⟩, .string ⟨#[]⟩, .int .i64 0, .slice none 0 0], .slice none 0 0], []⟩ 8 (by kernel_rfl) (by kernel_rfl) (by kernel_rfl) (x := ([.agg [.lit (.int .i64 0), .agg [.lit (.int .i64 0), .lit (.int .i64 0), .lit (.string [])], .lit (.string []), .lit (.string []), .lit (.int .i64 0), .nil], .nil], [], [])) (by kernel_rfl) rfl (by kernel_rfl)) ?_
  intro W base args ds gs before hval0 hW _ hk0 _
  have hW' := hW
  have hlt0 : ∀ p ∈ before, p.block < W.heap.size := fun p hp => hW.lt p hp
  obtain ⟨p, q, hA0, hV, rfl, hfz, hnd⟩ := hW
  have hA : DataW.TrodAll enc Try.prog W 0 (fun _ => true) true [ty_api_Expr, ty_sl_cadastreref14_Col] args.toList ds p := hA0
  obtain ⟨v0, v1, d0, d1, p0, p1, rfl, rfl, rfl, h0, h1⟩ := trodAll_two hA
  obtain ⟨rfl, rfl⟩ := trodVars_none hV
  obtain ⟨x, hp0, hx⟩ := pers_ex exTy Try.laidOut rd_Expr h0 (fun y hy => hlt0 y (by simp [hy]))
  obtain ⟨hp1, hcols⟩ := pers_slD (of := c3Of) (rng := fun c => I64 c.ty) (by kernel_rfl : Try.prog.cellsOf ty_cadastreref14_Col = 3) (by omega) (fun w base spare held n cs x => read_col colTy) hVcols Try.laidOut rd_Cols h1 (fun y hy => hlt0 y (by simp [hy])) (noagg hVcols (hval0 1 ty_sl_cadastreref14_Col v1 rfl rfl))
  have hB : (slOf c3Of d1).length ≤ 1048576 := by
    have h1 := bulk_sl c3Of d1
    have h3 := bulk_bound hk0
    simp only [List.append_nil, Rows.uptoBulkAll] at h3
    omega
  refine ((c_law14_BindTwice x (slOf c3Of d1) hB).calls noX W [v0, v1] (fun _ h => h.elim) ⟨hp0, hp1, trivial⟩).mono fun e W' ⟨v, he, hk, hR⟩ => ?_
  subst he
  have hR' : v = .bool true := hR
  subst hR'
  exact ⟨_, rfl, post_true (f := Try.f4) (s := Rows.bindTwiceSpec) (tB := ty_bool) Try.laidOut (mem2 rd_Expr rd_Cols) (by kernel_rfl) (by kernel_rfl) rfl rfl rfl rfl hW' hk⟩
theorem bindTwice_holds : Rows.BindTwiceUptoSaid :=
  OpenClaim.holds_of_cond 4 Try.f4 rfl rfl rfl rfl rfl rfl rfl ⟨rfl, rfl, rfl, rfl, rfl⟩ rfl rfl rfl rfl rfl (by kernel_rfl) Try.func4 (by kernel_rfl)
    (of_decide_eq_true (by kernel_rfl)) (by unfold Func.isWrapper; first | (rw [if_pos (by decide +kernel)]; kernel_rfl) | (rw [if_neg (by decide +kernel)]; exact ⟨rfl, rfl⟩))
    (fun os started H enc _ F => bindTwice_lifted os started H enc F)
#print axioms bindTwice_holds
end Go.Proofs.Ytjlojkchgfeenaa
