/- Two lists of tokens; what the document fixes. No condition. -/
import Derived.Test.YtjjgckmdfblmgaaDoorXF
import Derived.Test.YtjjgckmdfblmgaaDoorXG3
set_option maxRecDepth 20000
namespace Go.Proofs.YtjjgckmdfblmgaaDoor
open Go Go.Vc
theorem teq_api_Token : TEq Tryd.prog ty_api_Token ty_int ty_string ty_int64 := ⟨by kernel_rfl, by kernel_rfl, by kernel_rfl, by kernel_rfl, by kernel_rfl, by kernel_rfl, by kernel_rfl⟩
def sameT : List T3 → List T3 → Bool
  | [], [] => true
  | x :: xs, y :: ys => teq x y && sameT xs ys
  | _, _ => false
theorem sameT_drop {xs ys : List T3} {i : Nat} (hx : i < xs.length) (hy : i < ys.length) : sameT (xs.drop i) (ys.drop i) = (teq (xs.getD i t3D) (ys.getD i t3D) && sameT (xs.drop (i + 1)) (ys.drop (i + 1))) := by
  rw [List.drop_eq_getElem_cons hx, List.drop_eq_getElem_cons hy, sameT]
  simp [hx, hy]
theorem sameT_len : ∀ {xs ys : List T3}, sameT xs ys = true → xs.length = ys.length
  | [], [], _ => rfl
  | x :: xs, y :: ys, h => by
    rw [sameT, Bool.and_eq_true] at h
    simp [sameT_len h.2]
  | [], _ :: _, h => by cases h
  | _ :: _, [], h => by cases h
def aw1 : ByteArray := ⟨#[83, 101, 108, 101, 99, 116, 32, 97, 49, 44, 39, 105, 116, 39, 39, 115, 39, 60, 61, 48, 55]⟩
def aw2 : ByteArray := ⟨#[49, 97]⟩
def awT : List T3 := [⟨1, ⟨#[83, 69, 76, 69, 67, 84]⟩, 0⟩, ⟨2, ⟨#[97, 49]⟩, 0⟩, ⟨5, ⟨#[44]⟩, 0⟩, ⟨4, ⟨#[105, 116, 39, 115]⟩, 0⟩, ⟨5, ⟨#[60, 61]⟩, 0⟩, ⟨3, ⟨#[]⟩, 7⟩]
theorem aw1_eq : lexL aw1.data.toList = (awT, 0) := by kernel_rfl
theorem aw2_eq : lexL aw2.data.toList = ([], 30) := by kernel_rfl
theorem c_aw1 : CallF Tryd.prog f_lex_All [GF] [.is (.string aw1)] (.tup2 (.rep (SlG T3.cells 3 awT)) (.is (.int .i64 0))) := by
  have h := c_lex_All aw1
  rw [aw1_eq] at h
  exact h
theorem c_aw2 : CallF Tryd.prog f_lex_All [GF] [.is (.string aw2)] (.tup2 (.rep (SlG T3.cells 3 [])) (.is (.int .i64 30))) := by
  have h := c_lex_All aw2
  rw [aw2_eq] at h
  exact h
theorem c_ref09_Same (xs ys : List T3) (hl : xs.length ≤ 9223372036854775806) : CallTy Tryd.prog f_ref09_Same [.rep (SlG T3.cells 3 xs), .rep (SlG T3.cells 3 ys)] (.is (.bool (sameT xs ys))) :=
  CallTy.of (fn := Tryd.f11) Tryd.func11 (n := 26) rfl rfl rfl (fun _ _ => by kernel_rfl) fun E W => by
  refine J.openSl (s := 0) rfl (fun a len cap b o hlen ha => ?_)
  refine J.openSl (s := 1) rfl (fun ya yl yc yb yo hyl hya => ?_)
  subst hlen hyl
  repeat refine J.seq ?_
  refine J.plain ?_
  refine JO.t (ob_assign rfl) rfl ?_
  refine JO.nil ?_
  repeat (first | refine JX.next ?_ | refine JX.normal_block ?_)
  refine J.sel [0, 1] (.cons rfl (.cons rfl .nil)) ?_
  repeat refine J.seq ?_
  refine J.plain ?_
  refine JO.t (ob_move rfl) rfl ?_
  refine JO.t (ob_len un_sl_api_Token rfl) rfl ?_
  refine JO.t (ob_move rfl) rfl ?_
  refine JO.t (ob_len un_sl_api_Token rfl) rfl ?_
  refine JO.t (ob_neq rfl rfl) rfl ?_
  refine JO.nil ?_
  repeat (first | refine JX.next ?_ | refine JX.normal_block ?_)
  refine J.sel [0, 1, 10] (.cons rfl (.cons rfl (.cons rfl .nil))) ?_
  repeat refine J.seq ?_
  refine J.cond rfl (fun ht10 => ?_) (fun ht10 => ?_)
  ·
    try simp only [decide_eq_true_eq, decide_eq_false_iff_not] at ht10
    repeat refine J.seq ?_
    refine J.plain ?_
    refine JO.t (ob_assign rfl) rfl ?_
    refine JO.nil ?_
    repeat (first | refine JX.next ?_ | refine JX.normal_block ?_)
    refine J.sel [4] (.cons rfl .nil) ?_
    repeat refine J.seq ?_
    refine J.ret ?_
    repeat (first | refine JX.ret_pass ?_ | refine JX.ret_block ?_)
    exact JX.ret1is rfl rfl (by cases hq : sameT xs ys; rfl; have := sameT_len hq; simp at ht10; omega)
  ·
    try simp only [decide_eq_true_eq, decide_eq_false_iff_not] at ht10
    refine J.skip ?_
    repeat (first | refine JX.next ?_ | refine JX.normal_block ?_)
    have hll : xs.length = ys.length := by have h := ht10; simp at h; omega
    repeat refine J.seq ?_
    refine J.plain ?_
    refine JO.t (ob_assign rfl) rfl ?_
    refine JO.nil ?_
    repeat (first | refine JX.next ?_ | refine JX.normal_block ?_)
    refine J.sel [0, 1, 5] (.cons rfl (.cons rfl (.cons rfl .nil))) ?_
    repeat refine J.seq ?_
    refine J.block ?_
    repeat refine J.seq ?_
    refine J.loopF (α := Nat) (fun i => [(0, .is (.slice a xs.length cap)), (1, .is (.slice ya ys.length yc)), (5, .is (.int .i64 (i : Nat)))]) (fun i => i ≤ xs.length ∧ sameT (xs.drop i) (ys.drop i) = sameT xs ys) (fun i => xs.length - i) 0 [0, 1, 5] (.cons rfl (.cons rfl (.cons rfl .nil))) ⟨by omega, rfl⟩ fun i ⟨hi, hs⟩ => ?_
    repeat refine J.seq ?_
    refine J.plain ?_
    refine JO.t (ob_move rfl) rfl ?_
    refine JO.t (ob_move rfl) rfl ?_
    refine JO.t (ob_len un_sl_api_Token rfl) rfl ?_
    refine JO.t (ob_lss rfl rfl) rfl ?_
    refine JO.nil ?_
    repeat (first | refine JX.next ?_ | refine JX.normal_block ?_)
    refine J.sel [0, 1, 5, 14] (.cons rfl (.cons rfl (.cons rfl (.cons rfl .nil)))) ?_
    repeat refine J.seq ?_
    refine J.cond rfl (fun ht14 => ?_) (fun ht14 => ?_)
    ·
      try simp only [decide_eq_true_eq, decide_eq_false_iff_not] at ht14
      refine J.skip ?_
      repeat (first | refine JX.next ?_ | refine JX.normal_block ?_)
      repeat refine J.seq ?_
      refine J.block ?_
      repeat refine J.seq ?_
      refine J.reg0 hmx (by kernel_rfl) (by kernel_rfl) ?_
      refine RT.t (ob_move rfl) ?_
      refine RT.t (ob_move rfl) ?_
      refine RT.t (ob_indexAddr el_sl_api_Token rfl (ha (by omega)) rfl (by omega) (by omega)) ?_
      refine RT.t (ob_loadG (enc := T3.cells) (sz := 3) (len := xs.length) (i := i) (y := xs.getD i t3D) (cs := T3.cells (xs.getD i t3D)) sz_api_Token rfl (by repeat (first | exact List.mem_cons_self | apply List.mem_cons_of_mem)) (ha (by first | omega | decide)) (t3_get (by first | omega | decide)) (by first | omega | decide) rfl) ?_
      refine RT.t (ob_move rfl) ?_
      refine RT.t (ob_move rfl) ?_
      refine RT.t (ob_indexAddr el_sl_api_Token rfl (hya (by omega)) rfl (by omega) (by omega)) ?_
      refine RT.t (ob_loadG (enc := T3.cells) (sz := 3) (len := ys.length) (i := i) (y := ys.getD i t3D) (cs := T3.cells (ys.getD i t3D)) sz_api_Token rfl (by repeat (first | exact List.mem_cons_self | apply List.mem_cons_of_mem)) (hya (by first | omega | decide)) (t3_get (by first | omega | decide)) (by first | omega | decide) rfl) ?_
      refine RT.t (ob_tneq teq_api_Token (a := xs.getD i t3D) (b := ys.getD i t3D) rfl rfl) ?_
      refine RT.nil ?_
      refine FinS.nil0 ?_
      repeat (first | refine JX.next ?_ | refine JX.normal_block ?_)
      refine J.sel [0, 1, 5, 25] (.cons rfl (.cons rfl (.cons rfl (.cons rfl .nil)))) ?_
      repeat refine J.seq ?_
      refine J.cond rfl (fun ht25 => ?_) (fun ht25 => ?_)
      ·
        try simp only [decide_eq_true_eq, decide_eq_false_iff_not] at ht25
        repeat refine J.seq ?_
        refine J.plain ?_
        refine JO.t (ob_assign rfl) rfl ?_
        refine JO.nil ?_
        repeat (first | refine JX.next ?_ | refine JX.normal_block ?_)
        refine J.sel [4] (.cons rfl .nil) ?_
        repeat refine J.seq ?_
        refine J.ret ?_
        repeat (first | refine JX.ret_pass ?_ | refine JX.ret_block ?_)
        exact JX.ret1is rfl rfl (by rw [← hs, sameT_drop (by omega) (by omega), show teq (xs.getD i t3D) (ys.getD i t3D) = false by simpa using ht25]; rfl)
      ·
        try simp only [decide_eq_true_eq, decide_eq_false_iff_not] at ht25
        refine J.skip ?_
        repeat (first | refine JX.next ?_ | refine JX.normal_block ?_)
        repeat refine J.seq ?_
        refine J.plain ?_
        refine JO.t (ob_move rfl) rfl ?_
        refine JO.t (ob_addc (cc := ((i + 1 : Nat) : Int)) rfl rfl (by omega) (by omega) (by omega)) rfl ?_
        refine JO.t (ob_assign rfl) rfl ?_
        refine JO.nil ?_
        repeat refine JX.normal_block ?_
        refine JX.roundS (i + 1) ?_ ?_ [0, 1, 5] ?_ ?_ ?_
        · exact ⟨by omega, by have h1 := sameT_drop (xs := xs) (ys := ys) (i := i) (by omega) (by omega); rw [show teq (xs.getD i t3D) (ys.getD i t3D) = true by simpa using ht25] at h1; rw [← hs, h1]; rfl⟩
        · exact (by omega)
        · exact (.cons rfl (.cons rfl (.cons rfl .nil)))
        · repeat (first | exact .slnil | apply List.Sublist.cons_cons | apply List.Sublist.cons)
        · repeat (first | exact .slnil | apply List.Sublist.cons_cons | apply List.Sublist.cons)
    ·
      try simp only [decide_eq_true_eq, decide_eq_false_iff_not] at ht14
      repeat refine J.seq ?_
      refine J.exit ?_
      repeat (first | refine JX.hit ?_ | refine JX.miss rfl ?_ | refine JX.exit_pass ?_)
      repeat (first | refine JX.next ?_ | refine JX.normal_block ?_)
      repeat refine J.seq ?_
      refine J.plain ?_
      refine JO.t (ob_assign rfl) rfl ?_
      refine JO.nil ?_
      repeat (first | refine JX.next ?_ | refine JX.normal_block ?_)
      refine J.sel [4] (.cons rfl .nil) ?_
      repeat refine J.seq ?_
      refine J.ret ?_
      repeat (first | refine JX.ret_pass ?_ | refine JX.ret_block ?_)
      exact JX.ret1is rfl rfl (by rw [← hs, List.drop_eq_nil_of_le (by omega), List.drop_eq_nil_of_le (by omega)]; rfl)
theorem c_law09_awake  : CallF Tryd.prog f_law09_awake [GF] [] (.is (.bool true)) :=
CallF.of (fn := Tryd.f8) Tryd.func8 (n := 45) rfl rfl rfl (fun _ _ => by kernel_rfl) fun E W => by
  repeat refine J.seq ?_
  refine J.plain ?_
  refine JO.t (ob_assign rfl) rfl ?_
  refine JO.nil ?_
  repeat (first | refine JX.next ?_ | refine JX.normal_block ?_)
  refine J.sel [] .nil ?_
  repeat refine J.seq ?_
  refine J.plain ?_
  refine JO.t (ob_callF rfl (c_aw1) (by simp) (.one rfl .nil)) rfl ?_
  refine JO.t (ob_move rfl) rfl ?_
  refine JO.t (ob_extract0 rfl) rfl ?_
  refine JO.t (ob_extract1 rfl) rfl ?_
  refine JO.t (ob_assign rfl) rfl ?_
  refine JO.t (ob_assign rfl) rfl ?_
  refine JO.nil ?_
  repeat (first | refine JX.next ?_ | refine JX.normal_block ?_)
  refine J.sel [1, 2] (.cons rfl (.cons rfl .nil)) ?_
  repeat refine J.seq ?_
  refine J.plain ?_
  refine JO.t (ob_callF rfl (c_aw2) (by simp) (.one rfl .nil)) rfl ?_
  refine JO.t (ob_move rfl) rfl ?_
  refine JO.t (ob_extract0 rfl) rfl ?_
  refine JO.t (ob_extract1 rfl) rfl ?_
  refine JO.t (ob_assign rfl) rfl ?_
  refine JO.t (ob_assign rfl) rfl ?_
  refine JO.nil ?_
  repeat (first | refine JX.next ?_ | refine JX.normal_block ?_)
  refine J.sel [1, 2, 4] (.cons rfl (.cons rfl (.cons rfl .nil))) ?_
  refine J.openSl (s := 1) rfl (fun a len cap b o hlen ha => ?_)
  subst hlen
  repeat refine J.seq ?_
  refine J.reg0 hmx (by kernel_rfl) (by kernel_rfl) ?_
  refine RT.t (ob_move rfl) ?_
  refine RT.t (ob_eql rfl rfl) ?_
  refine RT.t (ob_move rfl) ?_
  refine RT.g rfl rfl rfl (fun hg => ob_move (.inl rfl)) ?_
  refine RT.g rfl rfl rfl (fun hg => ob_len un_sl_api_Token (.inr ⟨_, rfl, fun h => h⟩)) ?_
  refine RT.g rfl rfl rfl (fun hg => ob_eql (.inr ⟨_, rfl, fun h => h⟩) (.inl rfl)) ?_
  refine RT.t (ob_pickAnd rfl rfl rfl id) ?_
  refine RT.t (ob_move rfl) ?_
  refine RT.g rfl rfl rfl (fun hg => ob_move (.inl rfl)) ?_
  refine RT.g rfl rfl rfl (fun hg => ob_indexAddr el_sl_api_Token (.inr ⟨_, rfl, fun h => h⟩) (ha (by decide)) (.inl rfl) (by omega) (by decide)) ?_
  refine RT.g rfl rfl rfl (fun hg => ob_loadG (enc := T3.cells) (sz := 3) (len := awT.length) (i := 0) (y := awT.getD 0 t3D) (cs := T3.cells (awT.getD 0 t3D)) sz_api_Token (.inr ⟨_, rfl, fun h => h⟩) (by repeat (first | exact List.mem_cons_self | apply List.mem_cons_of_mem)) (ha (by first | omega | decide)) (t3_get (by first | omega | decide)) (by first | omega | decide) rfl) ?_
  refine RT.g rfl rfl rfl (fun hg => ob_build (cs := [_, _, _]) sh_api_Token (.cons (.inl rfl) (.cons (.inl rfl) .nil)) rfl rfl) ?_
  refine RT.g rfl rfl rfl (fun hg => ob_teq teq_api_Token (a := awT.getD 0 t3D) (b := ⟨1, ⟨#[83, 69, 76, 69, 67, 84]⟩, 0⟩) (.inr ⟨_, rfl, fun h => h⟩) (.inr ⟨_, rfl, fun h => h⟩)) ?_
  refine RT.t (ob_pickAnd rfl rfl rfl id) ?_
  refine RT.t (ob_move rfl) ?_
  refine RT.g rfl rfl rfl (fun hg => ob_move (.inl rfl)) ?_
  refine RT.g rfl rfl rfl (fun hg => ob_indexAddr el_sl_api_Token (.inr ⟨_, rfl, fun h => h⟩) (ha (by decide)) (.inl rfl) (by omega) (by decide)) ?_
  refine RT.g rfl rfl rfl (fun hg => ob_fieldAddr fo_api_Token_1 (.inr ⟨_, rfl, fun h => h⟩)) ?_
  refine RT.g rfl rfl rfl (fun hg => ob_loadG1 (enc := T3.cells) (sz := 3) (len := awT.length) (i := 3) (j := 1) (y := awT.getD 3 t3D) sz_string (.inr ⟨_, rfl, fun h => h⟩) (by repeat (first | exact List.mem_cons_self | apply List.mem_cons_of_mem)) (ha (by decide)) (t3_get (by decide)) (by rfl) rfl) ?_
  refine RT.g rfl rfl rfl (fun hg => ob_seql (.inr ⟨_, rfl, fun h => h⟩) (.inl rfl)) ?_
  refine RT.t (ob_pickAnd rfl rfl rfl id) ?_
  refine RT.t (ob_move rfl) ?_
  refine RT.g rfl rfl rfl (fun hg => ob_move (.inl rfl)) ?_
  refine RT.g rfl rfl rfl (fun hg => ob_indexAddr el_sl_api_Token (.inr ⟨_, rfl, fun h => h⟩) (ha (by decide)) (.inl rfl) (by omega) (by decide)) ?_
  refine RT.g rfl rfl rfl (fun hg => ob_fieldAddr fo_api_Token_2 (.inr ⟨_, rfl, fun h => h⟩)) ?_
  refine RT.g rfl rfl rfl (fun hg => ob_loadG1 (enc := T3.cells) (sz := 3) (len := awT.length) (i := 5) (j := 2) (y := awT.getD 5 t3D) sz_int64 (.inr ⟨_, rfl, fun h => h⟩) (by repeat (first | exact List.mem_cons_self | apply List.mem_cons_of_mem)) (ha (by decide)) (t3_get (by decide)) (by rfl) rfl) ?_
  refine RT.g rfl rfl rfl (fun hg => ob_eql (.inr ⟨_, rfl, fun h => h⟩) (.inl rfl)) ?_
  refine RT.t (ob_pickAnd rfl rfl rfl id) ?_
  refine RT.t (ob_move rfl) ?_
  refine RT.g rfl rfl rfl (fun hg => ob_move (.inl rfl)) ?_
  refine RT.g rfl rfl rfl (fun hg => ob_eql (.inr ⟨_, rfl, fun h => h⟩) (.inl rfl)) ?_
  refine RT.t (ob_pickAnd rfl rfl rfl id) ?_
  refine RT.t (ob_assign rfl) ?_
  refine RT.nil ?_
  refine FinS.nil0 ?_
  repeat (first | refine JX.next ?_ | refine JX.normal_block ?_)
  refine J.sel [0] (.cons rfl .nil) ?_
  repeat refine J.seq ?_
  refine J.ret ?_
  repeat (first | refine JX.ret_pass ?_ | refine JX.ret_block ?_)
  exact JX.ret1is rfl rfl (by kernel_rfl)
end Go.Proofs.YtjjgckmdfblmgaaDoor
