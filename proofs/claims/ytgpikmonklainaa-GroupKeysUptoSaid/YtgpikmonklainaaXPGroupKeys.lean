/- 'GroupKeys', proved. No condition. -/
import Derived.Test.YtgpikmonklainaaXGL4
import Derived.Test.YtgpikmonklainaaXM4
import Derived.JoinedCond
set_option maxRecDepth 100000
namespace Go.Proofs.Ytgpikmonklainaa
open Go Go.Vc Go.Od Go.ChangeShapes Go.WideShapes Go.ChangeAt Go.RowKit
theorem groupKeys_lifted (os : Os) (started : os.Started) (H : Type) (enc : TypeId × Value → H) (F : Stop.Interp) :
    ReturnsInHanded {} Try.checked os 8 .any ((Rows.OpenSpec.upto Rows.groupKeysSpec).pre6 enc Try.prog Try.f8 Rows.groupKeysUptoRow.domain false) (((Rows.OpenSpec.upto Rows.groupKeysSpec).at F).post enc Try.prog Try.f8 false true false false) := by
  refine returnsInHanded_of_cond (C := Try.checked) (s := Rows.OpenSpec.upto Rows.groupKeysSpec) (k := Rows.uptoSmall) rfl Try.own started (by kernel_rfl) Try.func8
    (OpenSpec.witness (enc := enc) (C := Try.checked) (s := Rows.OpenSpec.upto Rows.groupKeysSpec) (k := Rows.uptoSmall) rfl false ⟨#[], #[.slice none 0 0], []⟩ 8 (by kernel_rfl) (by kernel_rfl) (by kernel_rfl) (x := ([.nil], [], [])) (by kernel_rfl) rfl (by kernel_rfl)) ?_
  intro W base args ds gs before hval0 hW _ hk0 _
  have hW' := hW
  have hlt0 : ∀ p ∈ before, p.block < W.heap.size := fun p hp => hW.lt p hp
  obtain ⟨p, q, hA0, hV, rfl, hfz, hnd⟩ := hW
  have hA : DataW.TrodAll enc Try.prog W 0 (fun _ => true) true [ty_sl_api_Value] args.toList ds p := hA0
  obtain ⟨v0, d0, rfl, rfl, h0⟩ := trodAll_one hA
  obtain ⟨rfl, rfl⟩ := trodVars_none hV
  obtain ⟨hp0, hvals⟩ := pers_rowD valTy hVs Try.laidOut rd_Values h0 (fun y hy => hlt0 y (by simp [hy])) (noagg hVs (hval0 0 ty_sl_api_Value v0 rfl rfl))
  have hB : (rowOf d0).length ≤ 1048575 := by
    have h1 := bulk_rowS d0
    have h3 := bulk_bound hk0
    simp only [List.append_nil, Rows.uptoBulkAll] at h3
    omega
  refine ((c_law16_GroupKeys (rowOf d0) hB hvals).calls noX W [v0] (fun _ h => h.elim) ⟨hp0, trivial⟩).mono fun e W' ⟨v, he, hk, hR⟩ => ?_
  subst he
  have hR' : v = .bool true := hR
  subst hR'
  exact ⟨_, rfl, post_true (f := Try.f8) (s := Rows.groupKeysSpec) (tB := ty_bool) Try.laidOut (mem1 rd_Values) (by kernel_rfl) (by kernel_rfl) rfl rfl rfl rfl hW' hk⟩
theorem groupKeys_holds : Rows.GroupKeysUptoSaid :=
  OpenClaim.holds_of_cond 8 Try.f8 rfl rfl rfl rfl rfl rfl rfl ⟨rfl, rfl, rfl, rfl, rfl⟩ rfl rfl rfl rfl rfl (by kernel_rfl) Try.func8 (by kernel_rfl)
    (of_decide_eq_true (by kernel_rfl)) (by unfold Func.isWrapper; first | (rw [if_pos (by decide +kernel)]; kernel_rfl) | (rw [if_neg (by decide +kernel)]; exact ⟨rfl, rfl⟩))
    (fun os started H enc _ F => groupKeys_lifted os started H enc F)
#print axioms groupKeys_holds
end Go.Proofs.Ytgpikmonklainaa
