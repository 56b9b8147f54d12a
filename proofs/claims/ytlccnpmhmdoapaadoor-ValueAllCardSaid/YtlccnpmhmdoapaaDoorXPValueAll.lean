/- 'ValueAll', proved: the row, and its tied card. No condition. -/
import Derived.Test.YtlccnpmhmdoapaaDoorXP
import Derived.Test.YtlccnpmhmdoapaaDoorXT
import Derived.Test.YtlccnpmhmdoapaaDoorXTF
set_option maxRecDepth 100000
namespace Go.Proofs.YtlccnpmhmdoapaaDoor
open Go Go.Vc Go.Vl Go.ChangeShapes Go.WideShapes Go.ChangeAt Go.RowKit
open Go.ChangeMaps (open_string)
theorem valueAll_laid (os : Os) (args : Array Value) : laidMet Tryd.prog Rows.valueAllRow.laid (LW os args) := laid6_met os args
theorem valueAll_witness (os : Os) {H : Type} (enc : TypeId × Value → H) :
    (OpenSpec.ofChange Rows.valueAllSpec).preRow enc Tryd.prog Tryd.f3 Rows.valueAllRow.domain false Rows.valueAllRow.laid (LW os #[.agg #[.int .i64 0, .int .i64 0, .string ⟨#[]⟩], .agg #[.int .i64 0, .int .i64 0, .string ⟨#[]⟩]]) #[.agg #[.int .i64 0, .int .i64 0, .string ⟨#[]⟩], .agg #[.int .i64 0, .int .i64 0, .string ⟨#[]⟩]] := by
  have hw : (DataW.whole enc Tryd.prog (LW os #[.agg #[.int .i64 0, .int .i64 0, .string ⟨#[]⟩], .agg #[.int .i64 0, .int .i64 0, .string ⟨#[]⟩]]) Tryd.f3.params.toList Rows.valueAllSpec.vars false (#[.agg #[.int .i64 0, .int .i64 0, .string ⟨#[]⟩], .agg #[.int .i64 0, .int .i64 0, .string ⟨#[]⟩]] : Array Value).toList 8).map (fun x => (x.1, x.2.1)) = some ([.agg [.lit (.int .i64 0), .lit (.int .i64 0), .lit (.string [])], .agg [.lit (.int .i64 0), .lit (.int .i64 0), .lit (.string [])]], []) := by kernel_rfl
  obtain ⟨⟨x1, x2, x3⟩, hx, hx1⟩ := Option.map_eq_some_iff.1 hw
  simp only [Prod.mk.injEq] at hx1
  obtain ⟨rfl, rfl⟩ := hx1
  exact OpenSpec.preRow_of_cond 8 hx (by kernel_rfl) (fun k hk => by cases hk) (by kernel_rfl) (valueAll_laid os _)
set_option maxHeartbeats 2000000 in
theorem valueAll_lifted (os : Os) (started : os.Started) (H : Type) (enc : TypeId × Value → H) (F : Stop.Interp) :
    ReturnsInHanded {} Tryd.checked os 3 .any ((OpenSpec.ofChange Rows.valueAllSpec).preRow enc Tryd.prog Tryd.f3 Rows.valueAllRow.domain false Rows.valueAllRow.laid) (((OpenSpec.ofChange Rows.valueAllSpec).at F).post enc Tryd.prog Tryd.f3 false true false false) := by
  refine returnsInHanded_of_row (C := Tryd.checked) (s := (OpenSpec.ofChange Rows.valueAllSpec)) own started (by kernel_rfl) Tryd.func3
    (witness_row_atRef (enc := enc) (C := Tryd.checked) false (laidWorld os) #[.agg #[.int .i64 0, .int .i64 0, .string ⟨#[]⟩], .agg #[.int .i64 0, .int .i64 0, .string ⟨#[]⟩]] rfl (by kernel_rfl) (by kernel_rfl) (by kernel_rfl) (valueAll_witness os enc)) ?_
  intro W base args ds gs before hval0 hW _ hk0 hsz0 hL hsh _
  have hW' := hW
  have hlt0 : ∀ p ∈ before, p.block < W.heap.size := fun p hp => hW.lt p hp
  obtain ⟨p, q, hA0, hV, rfl, hfz, hnd⟩ := hW
  have hA : DataW.TrodAll enc Tryd.prog W 0 (fun _ => true) true [ty_api_Value, ty_api_Value] args.toList ds p := hA0
  have hgf := pers_gf (gf_shaped hsh)
  have htf := pers_tf (tf_laid hL)
  obtain ⟨v0, v1, d0, d1, p0, p1, rfl, rfl, rfl, h0, h1⟩ := trodAll_two hA
  obtain ⟨rfl, rfl⟩ := trodVars_none hV
  obtain ⟨rfl, r0⟩ := read_valV h0
  obtain ⟨rfl, r1⟩ := read_valV h1
  refine ((c_law01_ValueAll (v3Of d0) (v3Of d1) r0.2).calls noX W [.agg (v3Of d0).cells.toArray, .agg (v3Of d1).cells.toArray] (fun _ h => h.elim) (fun F hF => by rcases List.mem_cons.1 hF with rfl | hF; exact hgf; rcases List.mem_cons.1 hF with rfl | hF; exact htf; cases hF) ⟨rfl, rfl, trivial⟩).mono fun e W' ⟨v, he, hk, hR⟩ => ?_
  subst he
  have hR' : v = .bool true := hR
  subst hR'
  exact ⟨_, rfl, post_true (f := Tryd.f3) (s := Rows.valueAllSpec) (tB := ty_bool) laidOut (mem2 rd_v rd_v) (by kernel_rfl) (by kernel_rfl) rfl rfl rfl rfl hW' hk⟩
theorem valueAll_said : Rows.ValueAllSaid :=
  OpenClaim.holds_of_cond 3 Tryd.f3 rfl rfl rfl rfl rfl rfl rfl ⟨rfl, rfl, rfl, rfl, rfl⟩ rfl rfl rfl rfl rfl (by kernel_rfl) Tryd.func3 (by kernel_rfl)
    (of_decide_eq_true (by kernel_rfl)) (by unfold Func.isWrapper; first | (rw [if_pos (by decide +kernel)]; kernel_rfl) | (rw [if_neg (by decide +kernel)]; exact ⟨rfl, rfl⟩))
    (fun os started H enc _ F => by rw [OpenClaim.pre_eq_preRow]; exact valueAll_lifted os started H enc F)
theorem valueAll_plain (f : FuncId) (fn : Func) (hf : Tryd.pinned.checked.prog.funcNamed "cadastre/cadastrelaw01.ValueAll" = some f) (hfn : Tryd.pinned.checked.prog.funcs[f]? = some fn) :
    false = Tryd.pinned.checked.prog.looks [] ∧ ∀ (j : Nat) t, fn.params[j]? = some t → Tryd.pinned.checked.prog.wantsStandIn t = false := by
  obtain rfl : f = 3 := Option.some.inj ((show Tryd.prog.funcNamed "cadastre/cadastrelaw01.ValueAll" = some 3 by kernel_rfl).symm.trans hf) |>.symm
  obtain rfl : fn = Tryd.f3 := (Option.some.inj (Tryd.func3.symm.trans hfn)).symm
  refine ⟨by kernel_rfl, fun j t ht => ?_⟩
  have hp : Tryd.f3.params = #[ty_api_Value, ty_api_Value] := by kernel_rfl
  exact ty2 (p := fun t => Tryd.prog.wantsStandIn t = false) (Array.mem_of_getElem? ht) hp (by kernel_rfl) (by kernel_rfl)
theorem valueAll_card : Rows.ValueAllCardSaid :=
  Claim7.holds_tied_plain_at .later [] _ _ _ _ valueAll_said (fun _ h => by cases h) (by kernel_rfl) (fun _ h => by cases h) valueAll_row_tie rfl ⟨rfl, rfl⟩ (by kernel_rfl) rfl valueAll_plain (by kernel_rfl)
#print axioms valueAll_card
end Go.Proofs.YtlccnpmhmdoapaaDoor
