/- 'SsiLocks', proved. No condition. -/
import Derived.Test.YtggmifnkgcladaaXLC
import Derived.Test.YtggmifnkgcladaaXTT
set_option maxRecDepth 100000
namespace Go.Proofs.Ytggmifnkgcladaa
open Go Go.Vc Go.Si Go.ChangeShapes Go.WideShapes Go.ChangeAt Go.RowKit
theorem ssiLocks_lifted (os : Os) (started : os.Started) (H : Type) (enc : TypeId × Value → H) :
    ReturnsInHanded {} Try.checked os 6 .any (Rows.ssiLocksSpec.pre6 enc Try.prog Try.f6 Rows.ssiLocksRow.domain false) (Rows.ssiLocksSpec.post enc Try.prog Try.f6 false true false false) := by
  refine returnsInHanded_of_change (C := Try.checked) Try.own started (by kernel_rfl) Try.func6
    (ChangeSpec.witness6 (enc := enc) (C := Try.checked) false ⟨#[], #[.int .u8 0, .bool false], []⟩ 8 (by kernel_rfl) (by kernel_rfl) (by kernel_rfl) (by kernel_rfl)) ?_
  intro W base args ds gs before hval0 hW hcnd _
  have hW' := hW
  have hlt0 : ∀ p ∈ before, p.block < W.heap.size := fun p hp => hW.lt p hp
  obtain ⟨p, q, hA0, hV, rfl, hfz, hnd⟩ := hW
  have hA : DataW.TrodAll enc Try.prog W 0 (fun _ => true) true [ty_uint8, ty_bool] args.toList ds p := hA0
  obtain ⟨v0, v1, d0, d1, p0, p1, rfl, rfl, rfl, h0, h1⟩ := trodAll_two hA
  obtain ⟨rfl, rfl⟩ := trodVars_none hV
  obtain ⟨n, rfl, rfl, rfl, w0⟩ := open_int un_uint8 (hval0 0 ty_uint8 v0 rfl rfl) h0
  have hn := wf_u8 w0
  obtain ⟨sm, rfl, rfl, rfl⟩ := open_bool un_bool_ (hval0 1 ty_bool v1 rfl rfl) h1
  refine (((c_law20_SsiLocks n sm).toTy).calls noX W [.int .u8 n, .bool sm] (fun _ h => h.elim) ⟨rfl, rfl, trivial⟩).mono fun e W' ⟨v, he, hk, hR⟩ => ?_
  subst he
  have hR' : v = .bool true := hR
  subst hR'
  exact ⟨_, rfl, post_true (f := Try.f6) (s := Rows.ssiLocksSpec) (tB := ty_bool) Try.laidOut (mem2 rd_uint8 rd_bool) (by kernel_rfl) (by kernel_rfl) rfl rfl rfl rfl hW' hk⟩
theorem ssiLocks_holds : Rows.SsiLocksSaid :=
  OpenClaim.holds_of_wide 6 Try.f6 rfl rfl rfl rfl rfl rfl rfl ⟨rfl, rfl, rfl, rfl, rfl⟩ rfl rfl rfl rfl rfl (by kernel_rfl) Try.func6 (by kernel_rfl)
    (of_decide_eq_true (by kernel_rfl)) (by unfold Func.isWrapper; first | (rw [if_pos (by decide +kernel)]; kernel_rfl) | (rw [if_neg (by decide +kernel)]; exact ⟨rfl, rfl⟩))
    (fun os started H enc _ => ssiLocks_lifted os started H enc)
#print axioms ssiLocks_holds
end Go.Proofs.Ytggmifnkgcladaa
