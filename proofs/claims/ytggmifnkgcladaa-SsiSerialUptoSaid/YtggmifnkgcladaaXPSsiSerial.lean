/- 'SsiSerial', proved. No condition. -/
import Derived.Test.YtggmifnkgcladaaXLX
import Derived.Test.YtggmifnkgcladaaXTT
import Derived.JoinedCond
set_option maxRecDepth 100000
namespace Go.Proofs.Ytggmifnkgcladaa
open Go Go.Vc Go.Si Go.ChangeShapes Go.WideShapes Go.ChangeAt Go.RowKit
theorem ssiSerial_lifted (os : Os) (started : os.Started) (H : Type) (enc : TypeId × Value → H) (F : Stop.Interp) :
    ReturnsInHanded {} Try.checked os 4 .any ((Rows.OpenSpec.upto Rows.ssiSerialSpec).pre6 enc Try.prog Try.f4 Rows.ssiSerialUptoRow.domain false) (((Rows.OpenSpec.upto Rows.ssiSerialSpec).at F).post enc Try.prog Try.f4 false true false false) := by
  refine returnsInHanded_of_cond (C := Try.checked) (s := Rows.OpenSpec.upto Rows.ssiSerialSpec) (k := Rows.uptoSmall) rfl Try.own started (by kernel_rfl) Try.func4
    (OpenSpec.witness (enc := enc) (C := Try.checked) (s := Rows.OpenSpec.upto Rows.ssiSerialSpec) (k := Rows.uptoSmall) rfl false ⟨#[], #[.slice none 0 0], []⟩ 8 (by kernel_rfl) (by kernel_rfl) (by kernel_rfl) (x := ([.nil], [], [])) (by kernel_rfl) rfl (by kernel_rfl)) ?_
  intro W base args ds gs before hval0 hW _ hk0 _
  have hW' := hW
  have hlt0 : ∀ p ∈ before, p.block < W.heap.size := fun p hp => hW.lt p hp
  obtain ⟨p, q, hA0, hV, rfl, hfz, hnd⟩ := hW
  have hA : DataW.TrodAll enc Try.prog W 0 (fun _ => true) true [ty_sl_cadastrelaw20_Op] args.toList ds p := hA0
  obtain ⟨v0, d0, rfl, rfl, h0⟩ := trodAll_one hA
  obtain ⟨rfl, rfl⟩ := trodVars_none hV
  obtain ⟨ops, hp0, hob⟩ := pers_ops opTyS h0 (noagg hOps (hval0 0 ty_sl_cadastrelaw20_Op v0 rfl rfl))
  have hB : ScB ops := scB_of hob (by
    have h3 := bulk_bound hk0
    simp only [List.append_nil, Rows.uptoBulkAll] at h3
    omega)
  refine (((c_law20_SsiSerial ops hB).toTy).calls noX W [v0] (fun _ h => h.elim) ⟨hp0, trivial⟩).mono fun e W' ⟨v, he, hk, hR⟩ => ?_
  subst he
  have hR' : v = .bool true := hR
  subst hR'
  exact ⟨_, rfl, post_true (f := Try.f4) (s := Rows.ssiSerialSpec) (tB := ty_bool) Try.laidOut (mem1 rd_Ops) (by kernel_rfl) (by kernel_rfl) rfl rfl rfl rfl hW' hk⟩
theorem ssiSerial_holds : Rows.SsiSerialUptoSaid :=
  OpenClaim.holds_of_cond 4 Try.f4 rfl rfl rfl rfl rfl rfl rfl ⟨rfl, rfl, rfl, rfl, rfl⟩ rfl rfl rfl rfl rfl (by kernel_rfl) Try.func4 (by kernel_rfl)
    (of_decide_eq_true (by kernel_rfl)) (by unfold Func.isWrapper; first | (rw [if_pos (by decide +kernel)]; kernel_rfl) | (rw [if_neg (by decide +kernel)]; exact ⟨rfl, rfl⟩))
    (fun os started H enc _ F => ssiSerial_lifted os started H enc F)
#print axioms ssiSerial_holds
end Go.Proofs.Ytggmifnkgcladaa
