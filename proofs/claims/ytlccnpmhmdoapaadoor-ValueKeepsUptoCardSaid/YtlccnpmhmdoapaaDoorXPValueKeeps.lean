/- 'ValueKeeps', proved: the row, and its tied card. No condition. -/
import Derived.Test.YtlccnpmhmdoapaaDoorXW
import Derived.Test.YtlccnpmhmdoapaaDoorXT
import Derived.Test.YtlccnpmhmdoapaaDoorXTF
import Derived.Test.YtlccnpmhmdoapaaDoorXTU
set_option maxRecDepth 100000
namespace Go.Proofs.YtlccnpmhmdoapaaDoor
open Go Go.Vc Go.Vl Go.ChangeShapes Go.WideShapes Go.ChangeAt Go.RowKit
open Go.ChangeMaps (open_string)
theorem valueKeeps_laid (os : Os) (args : Array Value) : laidMet Tryd.prog Rows.valueKeepsUptoRow.laid (LW os args) := laid6_met os args
theorem valueKeeps_witness (os : Os) {H : Type} (enc : TypeId × Value → H) :
    (Rows.OpenSpec.upto Rows.valueKeepsSpec).preRow enc Tryd.prog Tryd.f10 Rows.valueKeepsUptoRow.domain false Rows.valueKeepsUptoRow.laid (LW os #[.slice none 0 0]) #[.slice none 0 0] := by
  have hw : (DataW.whole enc Tryd.prog (LW os #[.slice none 0 0]) Tryd.f10.params.toList Rows.valueKeepsSpec.vars false (#[.slice none 0 0] : Array Value).toList 8).map (fun x => (x.1, x.2.1)) = some ([.nil], []) := by kernel_rfl
  obtain ⟨⟨x1, x2, x3⟩, hx, hx1⟩ := Option.map_eq_some_iff.1 hw
  simp only [Prod.mk.injEq] at hx1
  obtain ⟨rfl, rfl⟩ := hx1
  exact OpenSpec.preRow_of_cond 8 hx (by kernel_rfl) (fun k hk => by injection hk with hk; subst hk; kernel_rfl) (by kernel_rfl) (valueKeeps_laid os _)
set_option maxHeartbeats 2000000 in
theorem valueKeeps_lifted (os : Os) (started : os.Started) (H : Type) (enc : TypeId × Value → H) (F : Stop.Interp) :
    ReturnsInHanded {} Tryd.checked os 10 .any ((Rows.OpenSpec.upto Rows.valueKeepsSpec).preRow enc Tryd.prog Tryd.f10 Rows.valueKeepsUptoRow.domain false Rows.valueKeepsUptoRow.laid) (((Rows.OpenSpec.upto Rows.valueKeepsSpec).at F).post enc Tryd.prog Tryd.f10 false true false false) := by
  refine returnsInHanded_of_row (C := Tryd.checked) (s := (Rows.OpenSpec.upto Rows.valueKeepsSpec)) own started (by kernel_rfl) Tryd.func10
    (witness_row_atRef (enc := enc) (C := Tryd.checked) false (laidWorld os) #[.slice none 0 0] rfl (by kernel_rfl) (by kernel_rfl) (by kernel_rfl) (valueKeeps_witness os enc)) ?_
  intro W base args ds gs before hval0 hW _ hk0 hsz0 hL hsh _
  have hW' := hW
  have hlt0 : ∀ p ∈ before, p.block < W.heap.size := fun p hp => hW.lt p hp
  obtain ⟨p, q, hA0, hV, rfl, hfz, hnd⟩ := hW
  have hA : DataW.TrodAll enc Tryd.prog W 0 (fun _ => true) true [ty_sl_api_Value] args.toList ds p := hA0
  have hgf := pers_gf (gf_shaped hsh)
  have htf := pers_tf (tf_laid hL)
  obtain ⟨v0, d0, rfl, rfl, h0⟩ := trodAll_one hA
  obtain ⟨rfl, rfl⟩ := trodVars_none hV
  obtain ⟨hp0, r0⟩ := pers_rowD valTy hVs laidOut rd_vs h0 (fun y hy => hlt0 y (by simp [hy])) (noagg hVs (hval0 0 ty_sl_api_Value v0 rfl rfl))
  have hk0 := hk0 _ rfl
  have hB : (rowOf d0).length ≤ 1048576 := by
    have h1 := bulk_row d0
    have h3 := bulk_bound hk0
    simp only [List.append_nil, Rows.uptoBulkAll] at h3
    omega
  refine ((c_law01_ValueKeeps (rowOf d0) (fun v hv => (r0 v hv).2) hB).calls noX W [v0] (fun _ h => h.elim) (fun F hF => by rcases List.mem_cons.1 hF with rfl | hF; exact hgf; rcases List.mem_cons.1 hF with rfl | hF; exact htf; cases hF) ⟨hp0, trivial⟩).mono fun e W' ⟨v, he, hk, hR⟩ => ?_
  subst he
  have hR' : v = .bool true := hR
  subst hR'
  exact ⟨_, rfl, post_true (f := Tryd.f10) (s := Rows.valueKeepsSpec) (tB := ty_bool) laidOut (mem1 rd_vs) (by kernel_rfl) (by kernel_rfl) rfl rfl rfl rfl hW' hk⟩
theorem valueKeeps_said : Rows.ValueKeepsUptoSaid :=
  OpenClaim.holds_of_cond 10 Tryd.f10 rfl rfl rfl rfl rfl rfl rfl ⟨rfl, rfl, rfl, rfl, rfl⟩ rfl rfl rfl rfl rfl (by kernel_rfl) Tryd.func10 (by kernel_rfl)
    (of_decide_eq_true (by kernel_rfl)) (by unfold Func.isWrapper; first | (rw [if_pos (by decide +kernel)]; kernel_rfl) | (rw [if_neg (by decide +kernel)]; exact ⟨rfl, rfl⟩))
    (fun os started H enc _ F => by rw [OpenClaim.pre_eq_preRow]; exact valueKeeps_lifted os started H enc F)
theorem valueKeeps_plain (f : FuncId) (fn : Func) (hf : Tryd.pinned.checked.prog.funcNamed "cadastre/cadastrelaw01.ValueKeeps" = some f) (hfn : Tryd.pinned.checked.prog.funcs[f]? = some fn) :
    false = Tryd.pinned.checked.prog.looks [] ∧ ∀ (j : Nat) t, fn.params[j]? = some t → Tryd.pinned.checked.prog.wantsStandIn t = false := by
  obtain rfl : f = 10 := Option.some.inj ((show Tryd.prog.funcNamed "cadastre/cadastrelaw01.ValueKeeps" = some 10 by kernel_rfl).symm.trans hf) |>.symm
  obtain rfl : fn = Tryd.f10 := (Option.some.inj (Tryd.func10.symm.trans hfn)).symm
  refine ⟨by kernel_rfl, fun j t ht => ?_⟩
  have hp : Tryd.f10.params = #[ty_sl_api_Value] := by kernel_rfl
  exact ty1 (p := fun t => Tryd.prog.wantsStandIn t = false) (Array.mem_of_getElem? ht) hp (by kernel_rfl)
theorem valueKeeps_card : Rows.ValueKeepsUptoCardSaid :=
  Claim7.holds_tied_plain_at .later [] _ _ _ _ valueKeeps_said (fun _ h => by cases h) (by kernel_rfl) (fun _ h => by cases h) valueKeepsUpto_row_tie rfl ⟨rfl, rfl⟩ (by kernel_rfl) rfl valueKeeps_plain (by kernel_rfl)
#print axioms valueKeeps_card
end Go.Proofs.YtlccnpmhmdoapaaDoor
