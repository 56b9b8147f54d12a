/- 'OrderTop', proved. No condition. -/
import Derived.Test.YtgpikmonklainaaXOP
import Derived.Test.YtgpikmonklainaaXTP2
import Derived.JoinedCond
set_option maxRecDepth 100000
namespace Go.Proofs.Ytgpikmonklainaa
open Go Go.Vc Go.Od Go.ChangeShapes Go.WideShapes Go.ChangeAt Go.RowKit
theorem orderTop_lifted (os : Os) (started : os.Started) (H : Type) (enc : TypeId × Value → H) (F : Stop.Interp) :
    ReturnsInHanded {} Try.checked os 4 .any ((Rows.OpenSpec.upto Rows.orderTopSpec).pre6 enc Try.prog Try.f4 Rows.orderTopUptoRow.domain false) (((Rows.OpenSpec.upto Rows.orderTopSpec).at F).post enc Try.prog Try.f4 false true false false) := by
  refine returnsInHanded_of_cond (C := Try.checked) (s := Rows.OpenSpec.upto Rows.orderTopSpec) (k := Rows.uptoSmall) rfl Try.own started (by kernel_rfl) Try.func4
    (OpenSpec.witness (enc := enc) (C := Try.checked) (s := Rows.OpenSpec.upto Rows.orderTopSpec) (k := Rows.uptoSmall) rfl false ⟨#[], #[.agg #[.slice none 0 0, .slice none 0 0, .slice none 0 0, .int .i64 0], .slice none 0 0], []⟩ 8 (by kernel_rfl) (by kernel_rfl) (by kernel_rfl) (x := ([.agg [.nil, .nil, .nil, .lit (.int .i64 0)], .nil], [], [])) (by kernel_rfl) rfl (by kernel_rfl)) ?_
  intro W base args ds gs before hval0 hW _ hk0 _
  have hW' := hW
  have hlt0 : ∀ p ∈ before, p.block < W.heap.size := fun p hp => hW.lt p hp
  obtain ⟨p, q, hA0, hV, rfl, hfz, hnd⟩ := hW
  have hA : DataW.TrodAll enc Try.prog W 0 (fun _ => true) true [ty_AskS, ty_sl_uint8] args.toList ds p := hA0
  obtain ⟨v0, v1, d0, d1, p0, p1, rfl, rfl, rfl, h0, h1⟩ := trodAll_two hA
  obtain ⟨rfl, rfl⟩ := trodVars_none hV
  have hp0 := pers_askS askSTy Try.laidOut rd_AskS h0 (fun y hy => hlt0 y (by simp [hy]))
  obtain ⟨hp1, _⟩ := pers_slD (of := u8Of) (en := bC) (sz := 1) (rng := fun _ => True) (by kernel_rfl : Try.prog.cellsOf ty_uint8 = 1) (by omega) (fun w base spare held n cs x => read_u8) hPicks Try.laidOut rd_Picks h1 (fun y hy => hlt0 y (by simp [hy])) (noagg hPicks (hval0 1 ty_sl_uint8 v1 rfl rfl))
  obtain ⟨b1, b2, b3, b4, b5⟩ := bound_askS (d := d0) (b := 1048576) (by
    have h3 := bulk_bound hk0
    simp only [List.append_nil, Rows.uptoBulkAll] at h3
    omega)
  have b6 : (slOf u8Of d1).length ≤ 1048576 := by
    have h1 := bulk_sl u8Of d1
    have h3 := bulk_bound hk0
    simp only [List.append_nil, Rows.uptoBulkAll] at h3
    omega
  refine ((c_law15_OrderTop (slOf rowOf (askO d0).1) (slOf rowOf (askO d0).2.1) (slOf boOf (askO d0).2.2.1) (askO d0).2.2.2 b1 b2 b3 b4 b5 (slOf u8Of d1) b6).calls noX W [v0, v1] (fun _ h => h.elim) ⟨hp0, hp1, trivial⟩).mono fun e W' ⟨v, he, hk, hR⟩ => ?_
  subst he
  have hR' : v = .bool true := hR
  subst hR'
  exact ⟨_, rfl, post_true (f := Try.f4) (s := Rows.orderTopSpec) (tB := ty_bool) Try.laidOut (mem2 rd_AskS rd_Picks) (by kernel_rfl) (by kernel_rfl) rfl rfl rfl rfl hW' hk⟩
theorem orderTop_holds : Rows.OrderTopUptoSaid :=
  OpenClaim.holds_of_cond 4 Try.f4 rfl rfl rfl rfl rfl rfl rfl ⟨rfl, rfl, rfl, rfl, rfl⟩ rfl rfl rfl rfl rfl (by kernel_rfl) Try.func4 (by kernel_rfl)
    (of_decide_eq_true (by kernel_rfl)) (by unfold Func.isWrapper; first | (rw [if_pos (by decide +kernel)]; kernel_rfl) | (rw [if_neg (by decide +kernel)]; exact ⟨rfl, rfl⟩))
    (fun os started H enc _ F => orderTop_lifted os started H enc F)
#print axioms orderTop_holds
end Go.Proofs.Ytgpikmonklainaa
