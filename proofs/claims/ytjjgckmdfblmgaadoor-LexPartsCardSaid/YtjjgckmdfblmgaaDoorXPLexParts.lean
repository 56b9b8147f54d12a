/- 'LexParts', proved: the row, and its tied card. No condition. -/
import Derived.Test.YtjjgckmdfblmgaaDoorXI
import Derived.Test.YtjjgckmdfblmgaaDoorXT
set_option maxRecDepth 100000
namespace Go.Proofs.YtjjgckmdfblmgaaDoor
open Go Go.Vc Go.ChangeShapes Go.WideShapes Go.ChangeAt Go.RowKit
open Go.ChangeMaps (open_string)
theorem lexParts_laid (os : Os) (args : Array Value) : laidMet Tryd.prog Rows.lexPartsRow.laid (LW os args) :=
  (((piece_acc os args).append (piece_case os args) (by kernel_rfl)).append (piece_first os args) (by kernel_rfl)).met
theorem lexParts_witness (os : Os) {H : Type} (enc : TypeId × Value → H) :
    (OpenSpec.ofChange Rows.lexPartsSpec).preRow enc Tryd.prog Tryd.f5 Rows.lexPartsRow.domain false Rows.lexPartsRow.laid (LW os #[.string ⟨#[]⟩, .string ⟨#[]⟩]) #[.string ⟨#[]⟩, .string ⟨#[]⟩] := by
  have hw : (DataW.whole enc Tryd.prog (LW os #[.string ⟨#[]⟩, .string ⟨#[]⟩]) Tryd.f5.params.toList Rows.lexPartsSpec.vars false (#[.string ⟨#[]⟩, .string ⟨#[]⟩] : Array Value).toList 8).map (fun x => (x.1, x.2.1)) = some ([.lit (.string []), .lit (.string [])], []) := by kernel_rfl
  obtain ⟨⟨x1, x2, x3⟩, hx, hx1⟩ := Option.map_eq_some_iff.1 hw
  simp only [Prod.mk.injEq] at hx1
  obtain ⟨rfl, rfl⟩ := hx1
  exact OpenSpec.preRow_of_cond 8 hx (by kernel_rfl) (fun k hk => by cases hk) (by kernel_rfl) (lexParts_laid os _)
set_option maxHeartbeats 2000000 in
theorem lexParts_lifted (os : Os) (started : os.Started) (H : Type) (enc : TypeId × Value → H) (F : Stop.Interp) :
    ReturnsInHanded {} Tryd.checked os 5 .any ((OpenSpec.ofChange Rows.lexPartsSpec).preRow enc Tryd.prog Tryd.f5 Rows.lexPartsRow.domain false Rows.lexPartsRow.laid) (((OpenSpec.ofChange Rows.lexPartsSpec).at F).post enc Tryd.prog Tryd.f5 false true false false) := by
  refine returnsInHanded_of_row (C := Tryd.checked) (s := OpenSpec.ofChange Rows.lexPartsSpec) own started (by kernel_rfl) Tryd.func5
    (witness_row_atRef (enc := enc) (C := Tryd.checked) false (laidWorld os) #[.string ⟨#[]⟩, .string ⟨#[]⟩] rfl (by kernel_rfl) (by kernel_rfl) (by kernel_rfl) (lexParts_witness os enc)) ?_
  intro W base args ds gs before hval0 hW _ _ hsz0 hL hsh _
  have hW' := hW
  obtain ⟨p, q, hA0, hV, rfl, hfz, hnd⟩ := hW
  have hA : DataW.TrodAll enc Tryd.prog W 0 (fun _ => true) true [ty_string, ty_string] args.toList ds p := hA0
  have hgf := pers_gf (gf_shaped hsh)
  obtain ⟨v0, v1, d0, d1, p0, p1, rfl, rfl, rfl, h0, h1⟩ := trodAll_two hA
  obtain ⟨rfl, rfl⟩ := trodVars_none hV
  obtain ⟨s, rfl, rfl, rfl, _⟩ := open_string un_string (hval0 0 ty_string v0 rfl rfl) h0
  obtain ⟨t, rfl, rfl, rfl, _⟩ := open_string un_string (hval0 1 ty_string v1 rfl rfl) h1
  have hsz : (DataW.weightsEach (H := H) Tryd.prog [ty_string, ty_string] [.lit (.string s.data.toList), .lit (.string t.data.toList)]).all (· ≤ reachBytes) = true := hsz0
  refine ((c_law09_LexParts s t (by rw [← len_bytes]; exact (size2 hsz).1) (by rw [← len_bytes]; exact (size2 hsz).2)).calls noX W [.string s, .string t] (fun _ h => h.elim) (fun F hF => by rcases List.mem_cons.1 hF with rfl | hF; exact hgf; cases hF) ⟨rfl, rfl, trivial⟩).mono fun e W' ⟨v, he, hk, hR⟩ => ?_
  subst he
  have hR' : v = .bool true := hR
  subst hR'
  exact ⟨_, rfl, post_true (f := Tryd.f5) (s := Rows.lexPartsSpec) (tB := ty_bool) laidOut (mem2 rd_string rd_string) (by kernel_rfl) (by kernel_rfl) rfl rfl rfl rfl hW' hk⟩
theorem lexParts_said : Rows.LexPartsSaid :=
  OpenClaim.holds_of_cond 5 Tryd.f5 rfl rfl rfl rfl rfl rfl rfl ⟨rfl, rfl, rfl, rfl, rfl⟩ rfl rfl rfl rfl rfl (by kernel_rfl) Tryd.func5 (by kernel_rfl)
    (of_decide_eq_true (by kernel_rfl)) (by unfold Func.isWrapper; first | (rw [if_pos (by decide +kernel)]; kernel_rfl) | (rw [if_neg (by decide +kernel)]; exact ⟨rfl, rfl⟩))
    (fun os started H enc _ F => by rw [OpenClaim.pre_eq_preRow]; exact lexParts_lifted os started H enc F)
theorem lexParts_plain (f : FuncId) (fn : Func) (hf : Tryd.pinned.checked.prog.funcNamed "cadastre/cadastrelaw09.LexParts" = some f) (hfn : Tryd.pinned.checked.prog.funcs[f]? = some fn) :
    false = Tryd.pinned.checked.prog.looks [] ∧ ∀ (j : Nat) t, fn.params[j]? = some t → Tryd.pinned.checked.prog.wantsStandIn t = false := by
  obtain rfl : f = 5 := Option.some.inj ((show Tryd.prog.funcNamed "cadastre/cadastrelaw09.LexParts" = some 5 by kernel_rfl).symm.trans hf) |>.symm
  obtain rfl : fn = Tryd.f5 := (Option.some.inj (Tryd.func5.symm.trans hfn)).symm
  refine ⟨by kernel_rfl, fun j t ht => ?_⟩
  have hp : Tryd.f5.params = #[ty_string, ty_string] := by kernel_rfl
  rw [hp] at ht
  obtain rfl : t = ty_string := by simpa using Array.mem_of_getElem? ht
  exact (show Tryd.prog.wantsStandIn ty_string = false by kernel_rfl)
theorem lexParts_card : Rows.LexPartsCardSaid :=
  Claim7.holds_tied_plain_at .later [] _ _ _ _ lexParts_said (fun _ h => by cases h) (by kernel_rfl) (fun _ h => by cases h) lexParts_row_tie rfl ⟨rfl, rfl⟩ (by kernel_rfl) rfl lexParts_plain (by kernel_rfl)
#print axioms lexParts_card
end Go.Proofs.YtjjgckmdfblmgaaDoor
