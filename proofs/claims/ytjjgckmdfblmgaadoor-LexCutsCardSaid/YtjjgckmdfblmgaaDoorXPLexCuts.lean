/- 'LexCuts', proved: the row, and its tied card. No condition. -/
import Derived.Test.YtjjgckmdfblmgaaDoorXJ
import Derived.Test.YtjjgckmdfblmgaaDoorXT
set_option maxRecDepth 100000
namespace Go.Proofs.YtjjgckmdfblmgaaDoor
open Go Go.Vc Go.ChangeShapes Go.WideShapes Go.ChangeAt Go.RowKit
open Go.ChangeMaps (open_string)
theorem lexCuts_laid (os : Os) (args : Array Value) : laidMet Tryd.prog Rows.lexCutsRow.laid (LW os args) :=
  (((piece_acc os args).append (piece_case os args) (by kernel_rfl)).append (piece_first os args) (by kernel_rfl)).met
theorem lexCuts_witness (os : Os) {H : Type} (enc : TypeId × Value → H) :
    (OpenSpec.ofChange Rows.lexCutsSpec).preRow enc Tryd.prog Tryd.f3 Rows.lexCutsRow.domain false Rows.lexCutsRow.laid (LW os #[.string ⟨#[]⟩]) #[.string ⟨#[]⟩] := by
  have hw : (DataW.whole enc Tryd.prog (LW os #[.string ⟨#[]⟩]) Tryd.f3.params.toList Rows.lexCutsSpec.vars false (#[.string ⟨#[]⟩] : Array Value).toList 8).map (fun x => (x.1, x.2.1)) = some ([.lit (.string [])], []) := by kernel_rfl
  obtain ⟨⟨x1, x2, x3⟩, hx, hx1⟩ := Option.map_eq_some_iff.1 hw
  simp only [Prod.mk.injEq] at hx1
  obtain ⟨rfl, rfl⟩ := hx1
  exact OpenSpec.preRow_of_cond 8 hx (by kernel_rfl) (fun k hk => by cases hk) (by kernel_rfl) (lexCuts_laid os _)
set_option maxHeartbeats 2000000 in
theorem lexCuts_lifted (os : Os) (started : os.Started) (H : Type) (enc : TypeId × Value → H) (F : Stop.Interp) :
    ReturnsInHanded {} Tryd.checked os 3 .any ((OpenSpec.ofChange Rows.lexCutsSpec).preRow enc Tryd.prog Tryd.f3 Rows.lexCutsRow.domain false Rows.lexCutsRow.laid) (((OpenSpec.ofChange Rows.lexCutsSpec).at F).post enc Tryd.prog Tryd.f3 false true false false) := by
  refine returnsInHanded_of_row (C := Tryd.checked) (s := OpenSpec.ofChange Rows.lexCutsSpec) own started (by kernel_rfl) Tryd.func3
    (witness_row_atRef (enc := enc) (C := Tryd.checked) false (laidWorld os) #[.string ⟨#[]⟩] rfl (by kernel_rfl) (by kernel_rfl) (by kernel_rfl) (lexCuts_witness os enc)) ?_
  intro W base args ds gs before hval0 hW _ _ hsz0 hL hsh _
  have hW' := hW
  obtain ⟨p, q, hA0, hV, rfl, hfz, hnd⟩ := hW
  have hA : DataW.TrodAll enc Tryd.prog W 0 (fun _ => true) true [ty_string] args.toList ds p := hA0
  have hgf := pers_gf (gf_shaped hsh)
  obtain ⟨v0, d0, rfl, rfl, h0⟩ := trodAll_one hA
  obtain ⟨rfl, rfl⟩ := trodVars_none hV
  obtain ⟨s, rfl, rfl, rfl, _⟩ := open_string un_string (hval0 0 ty_string v0 rfl rfl) h0
  have hsz : (DataW.weightsEach (H := H) Tryd.prog [ty_string] [.lit (.string s.data.toList)]).all (· ≤ reachBytes) = true := hsz0
  refine ((c_law09_LexCuts s).calls noX W [.string s] (fun _ h => h.elim) (fun F hF => by rcases List.mem_cons.1 hF with rfl | hF; exact hgf; cases hF) ⟨rfl, trivial⟩).mono fun e W' ⟨v, he, hk, hR⟩ => ?_
  subst he
  have hR' : v = .bool true := hR
  subst hR'
  exact ⟨_, rfl, post_true (f := Tryd.f3) (s := Rows.lexCutsSpec) (tB := ty_bool) laidOut (mem1 rd_string) (by kernel_rfl) (by kernel_rfl) rfl rfl rfl rfl hW' hk⟩
theorem lexCuts_said : Rows.LexCutsSaid :=
  OpenClaim.holds_of_cond 3 Tryd.f3 rfl rfl rfl rfl rfl rfl rfl ⟨rfl, rfl, rfl, rfl, rfl⟩ rfl rfl rfl rfl rfl (by kernel_rfl) Tryd.func3 (by kernel_rfl)
    (of_decide_eq_true (by kernel_rfl)) (by unfold Func.isWrapper; first | (rw [if_pos (by decide +kernel)]; kernel_rfl) | (rw [if_neg (by decide +kernel)]; exact ⟨rfl, rfl⟩))
    (fun os started H enc _ F => by rw [OpenClaim.pre_eq_preRow]; exact lexCuts_lifted os started H enc F)
theorem lexCuts_plain (f : FuncId) (fn : Func) (hf : Tryd.pinned.checked.prog.funcNamed "cadastre/cadastrelaw09.LexCuts" = some f) (hfn : Tryd.pinned.checked.prog.funcs[f]? = some fn) :
    false = Tryd.pinned.checked.prog.looks [] ∧ ∀ (j : Nat) t, fn.params[j]? = some t → Tryd.pinned.checked.prog.wantsStandIn t = false := by
  obtain rfl : f = 3 := Option.some.inj ((show Tryd.prog.funcNamed "cadastre/cadastrelaw09.LexCuts" = some 3 by kernel_rfl).symm.trans hf) |>.symm
  obtain rfl : fn = Tryd.f3 := (Option.some.inj (Tryd.func3.symm.trans hfn)).symm
  refine ⟨by kernel_rfl, fun j t ht => ?_⟩
  have hp : Tryd.f3.params = #[ty_string] := by kernel_rfl
  rw [hp] at ht
  obtain rfl : t = ty_string := by simpa using Array.mem_of_getElem? ht
  exact (show Tryd.prog.wantsStandIn ty_string = false by kernel_rfl)
theorem lexCuts_card : Rows.LexCutsCardSaid :=
  Claim7.holds_tied_plain_at .later [] _ _ _ _ lexCuts_said (fun _ h => by cases h) (by kernel_rfl) (fun _ h => by cases h) lexCuts_row_tie rfl ⟨rfl, rfl⟩ (by kernel_rfl) rfl lexCuts_plain (by kernel_rfl)
#print axioms lexCuts_card
end Go.Proofs.YtjjgckmdfblmgaaDoor
