/- 'OrderAgain', proved. No condition. -/
import Derived.Test.YtgpikmonklainaaXOQ
import Derived.Test.YtgpikmonklainaaXT
import Derived.JoinedCond
set_option maxRecDepth 100000
namespace Go.Proofs.Ytgpikmonklainaa
open Go Go.Vc Go.Od Go.ChangeShapes Go.WideShapes Go.ChangeAt Go.RowKit
theorem orderAgain_lifted (os : Os) (started : os.Started) (H : Type) (enc : TypeId × Value → H) (F : Stop.Interp) :
    ReturnsInHanded {} Try.checked os 5 .any ((Rows.OpenSpec.upto Rows.orderAgainSpec).pre6 enc Try.prog Try.f5 Rows.orderAgainUptoRow.domain false) (((Rows.OpenSpec.upto Rows.orderAgainSpec).at F).post enc Try.prog Try.f5 false true false false) := by
  refine returnsInHanded_of_cond (C := Try.checked) (s := Rows.OpenSpec.upto Rows.orderAgainSpec) (k := Rows.uptoSmall) rfl Try.own started (by kernel_rfl) Try.func5
    (OpenSpec.witness (enc := enc) (C := Try.checked) (s := Rows.OpenSpec.upto Rows.orderAgainSpec) (k := Rows.uptoSmall) rfl false ⟨#[], #[.agg #[.slice none 0 0, .slice none 0 0, .slice none 0 0, .int .i64 0]], []⟩ 8 (by kernel_rfl) (by kernel_rfl) (by kernel_rfl) (x := ([.agg [.nil, .nil, .nil, .lit (.int .i64 0)]], [], [])) (by kernel_rfl) rfl (by kernel_rfl)) ?_
  intro W base args ds gs before hval0 hW _ hk0 _
  have hW' := hW
  have hlt0 : ∀ p ∈ before, p.block < W.heap.size := fun p hp => hW.lt p hp
  obtain ⟨p, q, hA0, hV, rfl, hfz, hnd⟩ := hW
  have hA : DataW.TrodAll enc Try.prog W 0 (fun _ => true) true [ty_AskS] args.toList ds p := hA0
  obtain ⟨v0, d0, rfl, rfl, h0⟩ := trodAll_one hA
  obtain ⟨rfl, rfl⟩ := trodVars_none hV
  have hp0 := pers_askS askSTy Try.laidOut rd_AskS h0 (fun y hy => hlt0 y (by simp [hy]))
  obtain ⟨b1, b2, b3, b4, b5⟩ := bound_askS (d := d0) (b := 1048576) (by
    have h3 := bulk_bound hk0
    simp only [List.append_nil, Rows.uptoBulkAll] at h3
    omega)
  refine ((c_law15_OrderAgain (slOf rowOf (askO d0).1) (slOf rowOf (askO d0).2.1) (slOf boOf (askO d0).2.2.1) (askO d0).2.2.2 b1 b2 b3 b4 b5).calls noX W [v0] (fun _ h => h.elim) ⟨hp0, trivial⟩).mono fun e W' ⟨v, he, hk, hR⟩ => ?_
  subst he
  have hR' : v = .bool true := hR
  subst hR'
  exact ⟨_, rfl, post_true (f := Try.f5) (s := Rows.orderAgainSpec) (tB := ty_bool) Try.laidOut (mem1 rd_AskS) (by kernel_rfl) (by kernel_rfl) rfl rfl rfl rfl hW' hk⟩
theorem orderAgain_holds : Rows.OrderAgainUptoSaid :=
  OpenClaim.holds_of_cond 5 Try.f5 rfl rfl rfl rfl rfl rfl rfl ⟨rfl, rfl, rfl, rfl, rfl⟩ rfl rfl rfl rfl rfl (by kernel_rfl) Try.func5 (by kernel_rfl)
    (of_decide_eq_true (by kernel_rfl)) (by unfold Func.isWrapper; first | (rw [if_pos (by decide +kernel)]; kernel_rfl) | (rw [if_neg (by decide +kernel)]; exact ⟨rfl, rfl⟩))
    (fun os started H enc _ F => orderAgain_lifted os started H enc F)
#print axioms orderAgain_holds
end Go.Proofs.Ytgpikmonklainaa
