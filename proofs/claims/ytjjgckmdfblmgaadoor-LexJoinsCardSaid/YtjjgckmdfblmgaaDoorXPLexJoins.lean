/- 'LexJoins', proved: the row, and its tied card. No condition. -/
import Derived.Test.YtjjgckmdfblmgaaDoorXN
import Derived.Test.YtjjgckmdfblmgaaDoorXTF
import Derived.Test.YtjjgckmdfblmgaaDoorXT
set_option maxRecDepth 100000
namespace Go.Proofs.YtjjgckmdfblmgaaDoor
open Go Go.Vc Go.ChangeShapes Go.WideShapes Go.ChangeAt Go.RowKit
open Go.ChangeMaps (open_string)
theorem lexJoins_laid (os : Os) (args : Array Value) : laidMet Tryd.prog Rows.lexJoinsRow.laid (LW os args) :=
  ((((piece_tabs os args).append (piece_acc os args) (by kernel_rfl)).append (piece_case os args) (by kernel_rfl)).append (piece_first os args) (by kernel_rfl)).met
theorem lexJoins_witness (os : Os) {H : Type} (enc : TypeId × Value → H) :
    (OpenSpec.ofChange Rows.lexJoinsSpec).preRow enc Tryd.prog Tryd.f7 Rows.lexJoinsRow.domain false Rows.lexJoinsRow.laid (LW os #[.string ⟨#[]⟩]) #[.string ⟨#[]⟩] := by
  have hw : (DataW.whole enc Tryd.prog (LW os #[.string ⟨#[]⟩]) Tryd.f7.params.toList Rows.lexJoinsSpec.vars false (#[.string ⟨#[]⟩] : Array Value).toList 8).map (fun x => (x.1, x.2.1)) = some ([.lit (.string [])], []) := by kernel_rfl
  obtain ⟨⟨x1, x2, x3⟩, hx, hx1⟩ := Option.map_eq_some_iff.1 hw
  simp only [Prod.mk.injEq] at hx1
  obtain ⟨rfl, rfl⟩ := hx1
  exact OpenSpec.preRow_of_cond 8 hx (by kernel_rfl) (fun k hk => by cases hk) (by kernel_rfl) (lexJoins_laid os _)
set_option maxHeartbeats 2000000 in
theorem lexJoins_lifted (os : Os) (started : os.Started) (H : Type) (enc : TypeId × Value → H) (F : Stop.Interp) :
    ReturnsInHanded {} Tryd.checked os 7 .any ((OpenSpec.ofChange Rows.lexJoinsSpec).preRow enc Tryd.prog Tryd.f7 Rows.lexJoinsRow.domain false Rows.lexJoinsRow.laid) (((OpenSpec.ofChange Rows.lexJoinsSpec).at F).post enc Tryd.prog Tryd.f7 false true false false) := by
  refine returnsInHanded_of_row (C := Tryd.checked) (s := OpenSpec.ofChange Rows.lexJoinsSpec) own started (by kernel_rfl) Tryd.func7
    (witness_row_atRef (enc := enc) (C := Tryd.checked) false (laidWorld os) #[.string ⟨#[]⟩] rfl (by kernel_rfl) (by kernel_rfl) (by kernel_rfl) (lexJoins_witness os enc)) ?_
  intro W base args ds gs before hval0 hW _ _ hsz0 hL hsh _
  have hW' := hW
  obtain ⟨p, q, hA0, hV, rfl, hfz, hnd⟩ := hW
  have hA : DataW.TrodAll enc Tryd.prog W 0 (fun _ => true) true [ty_string] args.toList ds p := hA0
  have hgf := pers_gf (gf_shaped hsh)
  have htf := pers_tf (tf_laid hL)
  obtain ⟨v0, d0, rfl, rfl, h0⟩ := trodAll_one hA
  obtain ⟨rfl, rfl⟩ := trodVars_none hV
  obtain ⟨s, rfl, rfl, rfl, _⟩ := open_string un_string (hval0 0 ty_string v0 rfl rfl) h0
  have hsz : (DataW.weightsEach (H := H) Tryd.prog [ty_string] [.lit (.string s.data.toList)]).all (· ≤ reachBytes) = true := hsz0
  refine ((c_law09_LexJoins s).calls noX W [.string s] (fun _ h => h.elim) (fun F hF => by rcases List.mem_cons.1 hF with rfl | hF; exact hgf; rcases List.mem_cons.1 hF with rfl | hF; exact htf; cases hF) ⟨rfl, trivial⟩).mono fun e W' ⟨v, he, hk, hR⟩ => ?_
  subst he
  have hR' : v = .bool true := hR
  subst hR'
  exact ⟨_, rfl, post_true (f := Tryd.f7) (s := Rows.lexJoinsSpec) (tB := ty_bool) laidOut (mem1 rd_string) (by kernel_rfl) (by kernel_rfl) rfl rfl rfl rfl hW' hk⟩
theorem lexJoins_said : Rows.LexJoinsSaid :=
  OpenClaim.holds_of_cond 7 Tryd.f7 rfl rfl rfl rfl rfl rfl rfl ⟨rfl, rfl, rfl, rfl, rfl⟩ rfl rfl rfl rfl rfl (by kernel_rfl) Tryd.func7 (by kernel_rfl)
    (of_decide_eq_true (by kernel_rfl)) (by unfold Func.isWrapper; first | (rw [if_pos (by decide +kernel)]; kernel_rfl) | (rw [if_neg (by decide +kernel)]; exact ⟨rfl, rfl⟩))
    (fun os started H enc _ F => by rw [OpenClaim.pre_eq_preRow]; exact lexJoins_lifted os started H enc F)
theorem lexJoins_plain (f : FuncId) (fn : Func) (hf : Tryd.pinned.checked.prog.funcNamed "cadastre/cadastrelaw09.LexJoins" = some f) (hfn : Tryd.pinned.checked.prog.funcs[f]? = some fn) :
    false = Tryd.pinned.checked.prog.looks [] ∧ ∀ (j : Nat) t, fn.params[j]? = some t → Tryd.pinned.checked.prog.wantsStandIn t = false := by
  obtain rfl : f = 7 := Option.some.inj ((show Tryd.prog.funcNamed "cadastre/cadastrelaw09.LexJoins" = some 7 by kernel_rfl).symm.trans hf) |>.symm
  obtain rfl : fn = Tryd.f7 := (Option.some.inj (Tryd.func7.symm.trans hfn)).symm
  refine ⟨by kernel_rfl, fun j t ht => ?_⟩
  have hp : Tryd.f7.params = #[ty_string] := by kernel_rfl
  rw [hp] at ht
  obtain rfl : t = ty_string := by simpa using Array.mem_of_getElem? ht
  exact (show Tryd.prog.wantsStandIn ty_string = false by kernel_rfl)
theorem lexJoins_card : Rows.LexJoinsCardSaid :=
  Claim7.holds_tied_plain_at .later [] _ _ _ _ lexJoins_said (fun _ h => by cases h) (by kernel_rfl) (fun _ h => by cases h) lexJoins_row_tie rfl ⟨rfl, rfl⟩ (by kernel_rfl) rfl lexJoins_plain (by kernel_rfl)
#print axioms lexJoins_card
end Go.Proofs.YtjjgckmdfblmgaaDoor
