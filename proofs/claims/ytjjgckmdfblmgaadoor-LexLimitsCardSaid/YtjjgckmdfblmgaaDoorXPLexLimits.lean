/- 'LexLimits', proved: the row, and its tied card. No condition. -/
import Derived.Test.YtjjgckmdfblmgaaDoorXM
import Derived.Test.YtjjgckmdfblmgaaDoorXT
set_option maxRecDepth 100000
namespace Go.Proofs.YtjjgckmdfblmgaaDoor
open Go Go.Vc Go.ChangeShapes Go.WideShapes Go.ChangeAt Go.RowKit
open Go.ChangeMaps (open_string)
theorem lexLimits_laid (os : Os) (args : Array Value) : laidMet Tryd.prog Rows.lexLimitsRow.laid (LW os args) :=
  (((piece_acc os args).append (piece_case os args) (by kernel_rfl)).append (piece_first os args) (by kernel_rfl)).met
theorem lexLimits_witness (os : Os) {H : Type} (enc : TypeId × Value → H) :
    (OpenSpec.ofChange Rows.lexLimitsSpec).preRow enc Tryd.prog Tryd.f4 Rows.lexLimitsRow.domain false Rows.lexLimitsRow.laid (LW os #[.int .u8 0, .int .u8 0]) #[.int .u8 0, .int .u8 0] := by
  have hw : (DataW.whole enc Tryd.prog (LW os #[.int .u8 0, .int .u8 0]) Tryd.f4.params.toList Rows.lexLimitsSpec.vars false (#[.int .u8 0, .int .u8 0] : Array Value).toList 8).map (fun x => (x.1, x.2.1)) = some ([.lit (.int .u8 0), .lit (.int .u8 0)], []) := by kernel_rfl
  obtain ⟨⟨x1, x2, x3⟩, hx, hx1⟩ := Option.map_eq_some_iff.1 hw
  simp only [Prod.mk.injEq] at hx1
  obtain ⟨rfl, rfl⟩ := hx1
  exact OpenSpec.preRow_of_cond 8 hx (by kernel_rfl) (fun k hk => by cases hk) (by kernel_rfl) (lexLimits_laid os _)
set_option maxHeartbeats 2000000 in
theorem lexLimits_lifted (os : Os) (started : os.Started) (H : Type) (enc : TypeId × Value → H) (F : Stop.Interp) :
    ReturnsInHanded {} Tryd.checked os 4 .any ((OpenSpec.ofChange Rows.lexLimitsSpec).preRow enc Tryd.prog Tryd.f4 Rows.lexLimitsRow.domain false Rows.lexLimitsRow.laid) (((OpenSpec.ofChange Rows.lexLimitsSpec).at F).post enc Tryd.prog Tryd.f4 false true false false) := by
  refine returnsInHanded_of_row (C := Tryd.checked) (s := OpenSpec.ofChange Rows.lexLimitsSpec) own started (by kernel_rfl) Tryd.func4
    (witness_row_atRef (enc := enc) (C := Tryd.checked) false (laidWorld os) #[.int .u8 0, .int .u8 0] rfl (by kernel_rfl) (by kernel_rfl) (by kernel_rfl) (lexLimits_witness os enc)) ?_
  intro W base args ds gs before hval0 hW _ _ hsz0 hL hsh _
  have hW' := hW
  obtain ⟨p, q, hA0, hV, rfl, hfz, hnd⟩ := hW
  have hA : DataW.TrodAll enc Tryd.prog W 0 (fun _ => true) true [ty_uint8, ty_uint8] args.toList ds p := hA0
  have hgf := pers_gf (gf_shaped hsh)
  obtain ⟨v0, v1, d0, d1, p0, p1, rfl, rfl, rfl, h0, h1⟩ := trodAll_two hA
  obtain ⟨rfl, rfl⟩ := trodVars_none hV
  obtain ⟨n, rfl, rfl, rfl, w0⟩ := open_int un_uint8 (hval0 0 ty_uint8 v0 rfl rfl) h0
  have hn := wf_u8 w0
  obtain ⟨c, rfl, rfl, rfl, w1⟩ := open_int un_uint8 (hval0 1 ty_uint8 v1 rfl rfl) h1
  have hc := wf_u8 w1
  refine ((c_law09_LexLimits n c hn).calls noX W [.int .u8 n, .int .u8 c] (fun _ h => h.elim) (fun F hF => by rcases List.mem_cons.1 hF with rfl | hF; exact hgf; cases hF) ⟨rfl, rfl, trivial⟩).mono fun e W' ⟨v, he, hk, hR⟩ => ?_
  subst he
  have hR' : v = .bool true := hR
  subst hR'
  exact ⟨_, rfl, post_true (f := Tryd.f4) (s := Rows.lexLimitsSpec) (tB := ty_bool) laidOut (mem2 rd_uint8 rd_uint8) (by kernel_rfl) (by kernel_rfl) rfl rfl rfl rfl hW' hk⟩
theorem lexLimits_said : Rows.LexLimitsSaid :=
  OpenClaim.holds_of_cond 4 Tryd.f4 rfl rfl rfl rfl rfl rfl rfl ⟨rfl, rfl, rfl, rfl, rfl⟩ rfl rfl rfl rfl rfl (by kernel_rfl) Tryd.func4 (by kernel_rfl)
    (of_decide_eq_true (by kernel_rfl)) (by unfold Func.isWrapper; first | (rw [if_pos (by decide +kernel)]; kernel_rfl) | (rw [if_neg (by decide +kernel)]; exact ⟨rfl, rfl⟩))
    (fun os started H enc _ F => by rw [OpenClaim.pre_eq_preRow]; exact lexLimits_lifted os started H enc F)
theorem lexLimits_plain (f : FuncId) (fn : Func) (hf : Tryd.pinned.checked.prog.funcNamed "cadastre/cadastrelaw09.LexLimits" = some f) (hfn : Tryd.pinned.checked.prog.funcs[f]? = some fn) :
    false = Tryd.pinned.checked.prog.looks [] ∧ ∀ (j : Nat) t, fn.params[j]? = some t → Tryd.pinned.checked.prog.wantsStandIn t = false := by
  obtain rfl : f = 4 := Option.some.inj ((show Tryd.prog.funcNamed "cadastre/cadastrelaw09.LexLimits" = some 4 by kernel_rfl).symm.trans hf) |>.symm
  obtain rfl : fn = Tryd.f4 := (Option.some.inj (Tryd.func4.symm.trans hfn)).symm
  refine ⟨by kernel_rfl, fun j t ht => ?_⟩
  have hp : Tryd.f4.params = #[ty_uint8, ty_uint8] := by kernel_rfl
  rw [hp] at ht
  obtain rfl : t = ty_uint8 := by simpa using Array.mem_of_getElem? ht
  exact (show Tryd.prog.wantsStandIn ty_uint8 = false by kernel_rfl)
theorem lexLimits_card : Rows.LexLimitsCardSaid :=
  Claim7.holds_tied_plain_at .later [] _ _ _ _ lexLimits_said (fun _ h => by cases h) (by kernel_rfl) (fun _ h => by cases h) lexLimits_row_tie rfl ⟨rfl, rfl⟩ (by kernel_rfl) rfl lexLimits_plain (by kernel_rfl)
#print axioms lexLimits_card
end Go.Proofs.YtjjgckmdfblmgaaDoor
