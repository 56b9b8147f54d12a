/- 'GroupTells', proved. No condition. -/
import Derived.Test.YtgpikmonklainaaXGL1
import Derived.Test.YtgpikmonklainaaXM4
import Derived.JoinedCond
set_option maxRecDepth 100000
namespace Go.Proofs.Ytgpikmonklainaa
open Go Go.Vc Go.Od Go.ChangeShapes Go.WideShapes Go.ChangeAt Go.RowKit
theorem groupTells_lifted (os : Os) (started : os.Started) (H : Type) (enc : TypeId × Value → H) (F : Stop.Interp) :
    ReturnsInHanded {} Try.checked os 6 .any ((Rows.OpenSpec.upto Rows.groupTellsSpec).pre6 enc Try.prog Try.f6 Rows.groupTellsUptoRow.domain false) (((Rows.OpenSpec.upto Rows.groupTellsSpec).at F).post enc Try.prog Try.f6 false true false false) := by
  refine returnsInHanded_of_cond (C := Try.checked) (s := Rows.OpenSpec.upto Rows.groupTellsSpec) (k := Rows.uptoSmall) rfl Try.own started (by kernel_rfl) Try.func6
    (OpenSpec.witness (enc := enc) (C := Try.checked) (s := Rows.OpenSpec.upto Rows.groupTellsSpec) (k := Rows.uptoSmall) rfl false ⟨#[], #[.agg #[.slice none 0 0, .slice none 0 0, .slice none 0 0], .bool false], []⟩ 8 (by kernel_rfl) (by kernel_rfl) (by kernel_rfl) (x := ([.agg [.nil, .nil, .nil], .lit (.bool false)], [], [])) (by kernel_rfl) rfl (by kernel_rfl)) ?_
  intro W base args ds gs before hval0 hW _ hk0 _
  have hW' := hW
  have hlt0 : ∀ p ∈ before, p.block < W.heap.size := fun p hp => hW.lt p hp
  obtain ⟨p, q, hA0, hV, rfl, hfz, hnd⟩ := hW
  have hA : DataW.TrodAll enc Try.prog W 0 (fun _ => true) true [ty_AskG, ty_bool] args.toList ds p := hA0
  obtain ⟨v0, v1, d0, d1, p0, p1, rfl, rfl, rfl, h0, h1⟩ := trodAll_two hA
  obtain ⟨rfl, rfl⟩ := trodVars_none hV
  obtain ⟨hp0, hrn⟩ := pers_askG askGTy Try.laidOut rd_AskG h0 (fun y hy => hlt0 y (by simp [hy]))
  obtain ⟨whole, rfl, rfl, rfl⟩ := open_bool un_bool_ (hval0 1 ty_bool v1 rfl rfl) h1
  obtain ⟨b1, b2, b3, b4, b5⟩ := bound_askG (d := d0) (by
    have h3 := bulk_bound hk0
    simp only [List.append_nil, Rows.uptoBulkAll] at h3
    omega)
  refine ((c_law16_GroupTells (slOf rowOf (askG d0).1) (slOf rowOf (askG d0).2.1) (slOf inOf (askG d0).2.2) whole b1 b2 b3 b4 b5 (fun r hr v hv => (hrn r hr v hv).2)).calls noX W [v0, .bool whole] (fun _ h => h.elim) ⟨hp0, rfl, trivial⟩).mono fun e W' ⟨v, he, hk, hR⟩ => ?_
  subst he
  have hR' : v = .bool true := hR
  subst hR'
  exact ⟨_, rfl, post_true (f := Try.f6) (s := Rows.groupTellsSpec) (tB := ty_bool) Try.laidOut (mem2 rd_AskG rd_bool) (by kernel_rfl) (by kernel_rfl) rfl rfl rfl rfl hW' hk⟩
theorem groupTells_holds : Rows.GroupTellsUptoSaid :=
  OpenClaim.holds_of_cond 6 Try.f6 rfl rfl rfl rfl rfl rfl rfl ⟨rfl, rfl, rfl, rfl, rfl⟩ rfl rfl rfl rfl rfl (by kernel_rfl) Try.func6 (by kernel_rfl)
    (of_decide_eq_true (by kernel_rfl)) (by unfold Func.isWrapper; first | (rw [if_pos (by decide +kernel)]; kernel_rfl) | (rw [if_neg (by decide +kernel)]; exact ⟨rfl, rfl⟩))
    (fun os started H enc _ F => groupTells_lifted os started H enc F)
#print axioms groupTells_holds
end Go.Proofs.Ytgpikmonklainaa
