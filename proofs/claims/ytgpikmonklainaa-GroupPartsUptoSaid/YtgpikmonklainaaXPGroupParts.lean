/- 'GroupParts', proved. No condition. -/
import Derived.Test.YtgpikmonklainaaXGL3
import Derived.Test.YtgpikmonklainaaXM4
import Derived.JoinedCond
set_option maxRecDepth 100000
namespace Go.Proofs.Ytgpikmonklainaa
open Go Go.Vc Go.Od Go.ChangeShapes Go.WideShapes Go.ChangeAt Go.RowKit
theorem groupParts_lifted (os : Os) (started : os.Started) (H : Type) (enc : TypeId × Value → H) (F : Stop.Interp) :
    ReturnsInHanded {} Try.checked os 7 .any ((Rows.OpenSpec.upto Rows.groupPartsSpec).pre6 enc Try.prog Try.f7 Rows.groupPartsUptoRow.domain false) (((Rows.OpenSpec.upto Rows.groupPartsSpec).at F).post enc Try.prog Try.f7 false true false false) := by
  refine returnsInHanded_of_cond (C := Try.checked) (s := Rows.OpenSpec.upto Rows.groupPartsSpec) (k := Rows.uptoSmall) rfl Try.own started (by kernel_rfl) Try.func7
    (OpenSpec.witness (enc := enc) (C := Try.checked) (s := Rows.OpenSpec.upto Rows.groupPartsSpec) (k := Rows.uptoSmall) rfl false ⟨#[], #[.slice none 0 0, .int .u8 0], []⟩ 8 (by kernel_rfl) (by kernel_rfl) (by kernel_rfl) (x := ([.nil, .lit (.int .u8 0)], [], [])) (by kernel_rfl) rfl (by kernel_rfl)) ?_
  intro W base args ds gs before hval0 hW _ hk0 _
  have hW' := hW
  have hlt0 : ∀ p ∈ before, p.block < W.heap.size := fun p hp => hW.lt p hp
  obtain ⟨p, q, hA0, hV, rfl, hfz, hnd⟩ := hW
  have hA : DataW.TrodAll enc Try.prog W 0 (fun _ => true) true [ty_sl_api_Value, ty_uint8] args.toList ds p := hA0
  obtain ⟨v0, v1, d0, d1, p0, p1, rfl, rfl, rfl, h0, h1⟩ := trodAll_two hA
  obtain ⟨rfl, rfl⟩ := trodVars_none hV
  obtain ⟨hp0, hvals⟩ := pers_rowD valTy hVs Try.laidOut rd_Values h0 (fun y hy => hlt0 y (by simp [hy])) (noagg hVs (hval0 0 ty_sl_api_Value v0 rfl rfl))
  obtain ⟨c, rfl, rfl, rfl, w1⟩ := open_int un_uint8 (hval0 1 ty_uint8 v1 rfl rfl) h1
  have hc := wf_u8 w1
  have hB : (rowOf d0).length ≤ 1048575 := by
    have h1 := bulk_row d0
    have h3 := bulk_bound hk0
    simp only [List.append_nil, Rows.uptoBulkAll, Rows.uptoBulk] at h3
    omega
  refine ((c_law16_GroupParts (rowOf d0) hB (fun v hv => (hvals v hv).2) c hc.1 hc.2).calls noX W [v0, .int .u8 c] (fun _ h => h.elim) ⟨hp0, rfl, trivial⟩).mono fun e W' ⟨v, he, hk, hR⟩ => ?_
  subst he
  have hR' : v = .bool true := hR
  subst hR'
  exact ⟨_, rfl, post_true (f := Try.f7) (s := Rows.groupPartsSpec) (tB := ty_bool) Try.laidOut (mem2 rd_Values rd_uint8) (by kernel_rfl) (by kernel_rfl) rfl rfl rfl rfl hW' hk⟩
theorem groupParts_holds : Rows.GroupPartsUptoSaid :=
  OpenClaim.holds_of_cond 7 Try.f7 rfl rfl rfl rfl rfl rfl rfl ⟨rfl, rfl, rfl, rfl, rfl⟩ rfl rfl rfl rfl rfl (by kernel_rfl) Try.func7 (by kernel_rfl)
    (of_decide_eq_true (by kernel_rfl)) (by unfold Func.isWrapper; first | (rw [if_pos (by decide +kernel)]; kernel_rfl) | (rw [if_neg (by decide +kernel)]; exact ⟨rfl, rfl⟩))
    (fun os started H enc _ F => groupParts_lifted os started H enc F)
#print axioms groupParts_holds
end Go.Proofs.Ytgpikmonklainaa
