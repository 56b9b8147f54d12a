/- Are two expressions the same? No condition. -/
import Derived.Test.YtjlojkchgfeenaaXW
import Derived.Test.YtjlojkchgfeenaaXVc31
set_option maxRecDepth 20000
namespace Go.Proofs.Ytjlojkchgfeenaa
open Go Go.Vc
mutual
def sameX : Ex → Ex → Bool
  | .mk k vk vn vs tb nm sl kids, y => if ((((((k != y.K) || (!(veq vk vn vs y.VK y.VN y.VS))) || (!(seq tb y.TB))) || (!(seq nm y.NM))) || (sl != y.SL))) then false else samesX kids y.KS
def samesX : List Ex → List Ex → Bool
  | [], [] => true
  | x :: xs, y :: ys => sameX x y && samesX xs ys
  | [], _ :: _ => false
  | _ :: _, [] => false
end
theorem samesX_len : ∀ xs ys : List Ex, xs.length ≠ ys.length → samesX xs ys = false
  | [], [], h => absurd rfl h
  | [], _ :: _, _ => by rw [samesX]
  | _ :: _, [], _ => by rw [samesX]
  | x :: xs, y :: ys, h => by rw [samesX, samesX_len xs ys (by simpa using h), Bool.and_false]
theorem samesX_drop {xs ys : List Ex} {i : Nat} (h : i < xs.length) (h' : i < ys.length) : samesX (xs.drop i) (ys.drop i) = (sameX (xs.getD i exD) (ys.getD i exD) && samesX (xs.drop (i + 1)) (ys.drop (i + 1))) := by
  rw [List.drop_eq_getElem_cons h, List.drop_eq_getElem_cons h', samesX]
  simp [h, h']
abbrev SameOK (x y : Ex) : Prop := CallTy Try.prog f_ref10_SameExpr [.rep (ExR x), .rep (ExR y)] (.is (.bool (sameX x y)))
theorem Sub.exsK {L : List Own} {Φ : List (World → Prop)} {kids : List Ex} {a : Option Addr} {len cap : Nat} (h : KidsR kids a len ∈ Φ) : Sub L Φ (.is (.slice a len cap)) (.rep (ExsR kids)) := fun E v w hf e => by
  rw [show v = _ from e]
  exact fun w' hk => ⟨a, len, cap, rfl, hf.2 _ h w' hk⟩
theorem c_ref10_SameExprs (xs ys : List Ex) (hl : xs.length ≤ 9223372036854775806) (hk : ∀ x ∈ xs, ∀ y, SameOK x y) : CallTy Try.prog f_ref10_SameExprs [.rep (ExsR xs), .rep (ExsR ys)] (.is (.bool (samesX xs ys))) :=
  CallTy.of (fn := Try.f37) Try.func37 (n := 27) rfl rfl rfl (fun _ _ => by kernel_rfl) fun E W => by
  refine J.openExs (s := 0) rfl (fun a len cap b o hlen ha => ?_)
  refine J.openExs (s := 1) rfl (fun a2 len2 cap2 b2 o2 hlen2 ha2 => ?_)
  subst hlen hlen2
  repeat refine J.seq ?_
  refine J.plain ?_
  refine JO.t (ob_assign rfl) rfl ?_
  refine JO.nil ?_
  repeat (first | refine JX.next ?_ | refine JX.normal_block ?_)
  refine J.sel [0, 1] (.cons rfl (.cons rfl .nil)) ?_
  repeat refine J.seq ?_
  refine J.plain ?_
  refine JO.t (ob_move rfl) rfl ?_
  refine JO.t (ob_len un_sl_api_Expr rfl) rfl ?_
  refine JO.t (ob_move rfl) rfl ?_
  refine JO.t (ob_len un_sl_api_Expr rfl) rfl ?_
  refine JO.t (ob_neq rfl rfl) rfl ?_
  refine JO.nil ?_
  repeat (first | refine JX.next ?_ | refine JX.normal_block ?_)
  refine J.sel [0, 1, 10] (.cons rfl (.cons rfl (.cons rfl .nil))) ?_
  repeat refine J.seq ?_
  refine J.cond rfl (fun ht10 => ?_) (fun ht10 => ?_)
  ·
    try simp only [decide_eq_true_eq, decide_eq_false_iff_not] at ht10
    repeat refine J.seq ?_
    refine J.plain ?_
    refine JO.t (ob_assign rfl) rfl ?_
    refine JO.nil ?_
    repeat (first | refine JX.next ?_ | refine JX.normal_block ?_)
    refine J.sel [4] (.cons rfl .nil) ?_
    repeat refine J.seq ?_
    refine J.ret ?_
    repeat (first | refine JX.ret_pass ?_ | refine JX.ret_block ?_)
    exact JX.ret1is rfl rfl (by rw [samesX_len _ _ (by have h10 := ht10; simp at h10; omega)])
  ·
    try simp only [decide_eq_true_eq, decide_eq_false_iff_not] at ht10
    refine J.skip ?_
    repeat (first | refine JX.next ?_ | refine JX.normal_block ?_)
    have hll : xs.length = ys.length := by have h10 := ht10; simp at h10; omega
    repeat refine J.seq ?_
    refine J.plain ?_
    refine JO.t (ob_assign rfl) rfl ?_
    refine JO.nil ?_
    repeat (first | refine JX.next ?_ | refine JX.normal_block ?_)
    refine J.sel [0, 1, 5] (.cons rfl (.cons rfl (.cons rfl .nil))) ?_
    repeat refine J.seq ?_
    refine J.block ?_
    repeat refine J.seq ?_
    refine J.loopF (α := Nat) (fun s => [(0, .is (.slice a xs.length cap)), (1, .is (.slice a2 ys.length cap2)), (5, .is (.int .i64 (s : Nat)))]) (fun s => s ≤ xs.length ∧ samesX (xs.drop s) (ys.drop s) = samesX xs ys) (fun s => xs.length - s) 0 [0, 1, 5] (.cons rfl (.cons rfl (.cons rfl .nil))) ⟨Nat.zero_le _, rfl⟩ fun i ⟨hi, hs⟩ => ?_
    repeat refine J.seq ?_
    refine J.plain ?_
    refine JO.t (ob_move rfl) rfl ?_
    refine JO.t (ob_move rfl) rfl ?_
    refine JO.t (ob_len un_sl_api_Expr rfl) rfl ?_
    refine JO.t (ob_lss rfl rfl) rfl ?_
    refine JO.nil ?_
    repeat (first | refine JX.next ?_ | refine JX.normal_block ?_)
    refine J.sel [0, 1, 5, 14] (.cons rfl (.cons rfl (.cons rfl (.cons rfl .nil)))) ?_
    repeat refine J.seq ?_
    refine J.cond rfl (fun ht14 => ?_) (fun ht14 => ?_)
    ·
      try simp only [decide_eq_true_eq, decide_eq_false_iff_not] at ht14
      refine J.skip ?_
      repeat (first | refine JX.next ?_ | refine JX.normal_block ?_)
      repeat refine J.seq ?_
      refine J.block ?_
      repeat refine J.seq ?_
      refine J.reg0 hmx (by kernel_rfl) (by kernel_rfl) ?_
      refine RT.t (ob_move rfl) ?_
      refine RT.t (ob_move rfl) ?_
      refine RT.t (ob_indexAddr el_sl_api_Expr rfl (ha (by omega)) rfl (by omega) (by omega)) ?_
      refine RT.t (ob_loadKid (i := i) (len := xs.length) (kid := xs.getD i exD) sz_api_Expr rfl (by repeat (first | exact List.mem_cons_self | apply List.mem_cons_of_mem)) (ha (by omega)) (kid_get (by omega)) (by omega)) ?_
      refine RT.t (ob_move rfl) ?_
      refine RT.t (ob_move rfl) ?_
      refine RT.t (ob_indexAddr el_sl_api_Expr rfl (ha2 (by omega)) rfl (by omega) (by omega)) ?_
      refine RT.t (ob_loadKid (i := i) (len := ys.length) (kid := ys.getD i exD) sz_api_Expr rfl (by repeat (first | exact List.mem_cons_self | apply List.mem_cons_of_mem)) (ha2 (by omega)) (kid_get (by omega)) (by omega)) ?_
      refine RT.t (ob_call rfl (hk _ (kid_mem (by omega)) (ys.getD i exD)) (.one rfl (.one rfl .nil))) ?_
      refine RT.t (ob_not rfl) ?_
      refine RT.nil ?_
      refine FinS.nil0 ?_
      repeat (first | refine JX.next ?_ | refine JX.normal_block ?_)
      refine J.sel [0, 1, 5, 26] (.cons rfl (.cons rfl (.cons rfl (.cons rfl .nil)))) ?_
      repeat refine J.seq ?_
      refine J.cond rfl (fun ht26 => ?_) (fun ht26 => ?_)
      ·
        try simp only [decide_eq_true_eq, decide_eq_false_iff_not] at ht26
        repeat refine J.seq ?_
        refine J.plain ?_
        refine JO.t (ob_assign rfl) rfl ?_
        refine JO.nil ?_
        repeat (first | refine JX.next ?_ | refine JX.normal_block ?_)
        refine J.sel [4] (.cons rfl .nil) ?_
        repeat refine J.seq ?_
        refine J.ret ?_
        repeat (first | refine JX.ret_pass ?_ | refine JX.ret_block ?_)
        exact JX.ret1is rfl rfl (by rw [← hs, samesX_drop (by omega) (by omega)]; simp only [Bool.not_eq_true'] at ht26; rw [ht26, Bool.false_and])
      ·
        try simp only [decide_eq_true_eq, decide_eq_false_iff_not] at ht26
        refine J.skip ?_
        repeat (first | refine JX.next ?_ | refine JX.normal_block ?_)
        repeat refine J.seq ?_
        refine J.plain ?_
        refine JO.t (ob_move rfl) rfl ?_
        refine JO.t (ob_addc (cc := ((i + 1 : Nat) : Int)) rfl rfl (by omega) (by omega) (by omega)) rfl ?_
        refine JO.t (ob_assign rfl) rfl ?_
        refine JO.nil ?_
        refine JX.roundS (i + 1) ?_ ?_ [0, 1, 5] ?_ ?_ ?_
        · exact ⟨by omega, by have h0 := samesX_drop (xs := xs) (ys := ys) (i := i) (by omega) (by omega); rw [hs] at h0; simp only [Bool.not_eq_false'] at ht26; rw [h0, ht26, Bool.true_and]⟩
        · exact (by omega)
        · exact (.cons rfl (.cons rfl (.cons rfl .nil)))
        · repeat (first | exact .slnil | apply List.Sublist.cons_cons | apply List.Sublist.cons)
        · repeat (first | exact .slnil | apply List.Sublist.cons_cons | apply List.Sublist.cons)
    ·
      try simp only [decide_eq_true_eq, decide_eq_false_iff_not] at ht14
      repeat refine J.seq ?_
      refine J.exit ?_
      repeat (first | refine JX.hit ?_ | refine JX.miss rfl ?_ | refine JX.exit_pass ?_)
      repeat (first | refine JX.next ?_ | refine JX.normal_block ?_)
      repeat refine J.seq ?_
      refine J.plain ?_
      refine JO.t (ob_assign rfl) rfl ?_
      refine JO.nil ?_
      repeat (first | refine JX.next ?_ | refine JX.normal_block ?_)
      refine J.sel [4] (.cons rfl .nil) ?_
      repeat refine J.seq ?_
      refine J.ret ?_
      repeat (first | refine JX.ret_pass ?_ | refine JX.ret_block ?_)
      exact JX.ret1is rfl rfl (by rw [← hs, List.drop_of_length_le (by omega), List.drop_of_length_le (by omega), samesX])
theorem c_ref10_SameExprM (k vk vn : Int) (vs tb nm : ByteArray) (sl : Int) (kids : List Ex) (y : Ex) (hS : CallTy Try.prog f_ref10_SameExprs [.rep (ExsR kids), .rep (ExsR y.KS)] (.is (.bool (samesX kids y.KS)))) : CallTy Try.prog f_ref10_SameExpr [.rep (ExR (.mk k vk vn vs tb nm sl kids)), .rep (ExR y)] (.is (.bool (sameX (.mk k vk vn vs tb nm sl kids) y))) :=
  CallTy.of (fn := Try.f19) Try.func19 (n := 43) rfl rfl rfl (fun _ _ => by kernel_rfl) fun E W => by
  refine J.openEx (s := 0) rfl (fun a len cap b o hlen ha => ?_)
  refine J.openA (s := 1) rfl (fun a2 len2 cap2 b2 o2 hlen2 ha2 => ?_)
  repeat refine J.seq ?_
  refine J.plain ?_
  refine JO.box rfl rfl fun b2 => ?_
  refine JO.box rfl rfl fun b3 => ?_
  refine JO.t (ob_assign rfl) rfl ?_
  refine JO.nil ?_
  repeat (first | refine JX.next ?_ | refine JX.normal_block ?_)
  refine J.sel [2, 3] (.cons rfl (.cons rfl .nil)) ?_
  repeat refine J.seq ?_
  refine J.reg0 hmx (by kernel_rfl) (by kernel_rfl) ?_
  refine RT.t (ob_fieldAddr fo_api_Expr_0 rfl) ?_
  refine RT.t (ob_ld1 sz_int rfl rfl) ?_
  refine RT.t (ob_fieldAddr fo_api_Expr_0 rfl) ?_
  refine RT.t (ob_ld1 sz_int rfl rfl) ?_
  refine RT.t (ob_neq rfl rfl) ?_
  refine RT.t (ob_move rfl) ?_
  refine RT.g rfl rfl rfl (fun hg => ob_fieldAddr fo_api_Expr_1 (.inl rfl)) ?_
  refine RT.g rfl rfl rfl (fun hg => ob_ldN (cs := [_, _, _]) sz_api_Value (.inr ⟨_, rfl, fun h => h⟩) rfl rfl) ?_
  refine RT.g rfl rfl rfl (fun hg => ob_fieldAddr fo_api_Expr_1 (.inl rfl)) ?_
  refine RT.g rfl rfl rfl (fun hg => ob_ldN (cs := [_, _, _]) sz_api_Value (.inr ⟨_, rfl, fun h => h⟩) rfl rfl) ?_
  refine RT.g rfl rfl rfl (fun hg => ob_vneq veq_api_Value (.inr ⟨_, rfl, fun h => h⟩) (.inr ⟨_, rfl, fun h => h⟩)) ?_
  refine RT.t (ob_pickOr rfl rfl rfl id) ?_
  refine RT.t (ob_move rfl) ?_
  refine RT.g rfl rfl rfl (fun hg => ob_fieldAddr fo_api_Expr_2 (.inl rfl)) ?_
  refine RT.g rfl rfl rfl (fun hg => ob_ld1 sz_string (.inr ⟨_, rfl, fun h => h⟩) rfl) ?_
  refine RT.g rfl rfl rfl (fun hg => ob_fieldAddr fo_api_Expr_2 (.inl rfl)) ?_
  refine RT.g rfl rfl rfl (fun hg => ob_ld1 sz_string (.inr ⟨_, rfl, fun h => h⟩) rfl) ?_
  refine RT.g rfl rfl rfl (fun hg => ob_sneq (.inr ⟨_, rfl, fun h => h⟩) (.inr ⟨_, rfl, fun h => h⟩)) ?_
  refine RT.t (ob_pickOr rfl rfl rfl id) ?_
  refine RT.t (ob_move rfl) ?_
  refine RT.g rfl rfl rfl (fun hg => ob_fieldAddr fo_api_Expr_3 (.inl rfl)) ?_
  refine RT.g rfl rfl rfl (fun hg => ob_ld1 sz_string (.inr ⟨_, rfl, fun h => h⟩) rfl) ?_
  refine RT.g rfl rfl rfl (fun hg => ob_fieldAddr fo_api_Expr_3 (.inl rfl)) ?_
  refine RT.g rfl rfl rfl (fun hg => ob_ld1 sz_string (.inr ⟨_, rfl, fun h => h⟩) rfl) ?_
  refine RT.g rfl rfl rfl (fun hg => ob_sneq (.inr ⟨_, rfl, fun h => h⟩) (.inr ⟨_, rfl, fun h => h⟩)) ?_
  refine RT.t (ob_pickOr rfl rfl rfl id) ?_
  refine RT.t (ob_move rfl) ?_
  refine RT.g rfl rfl rfl (fun hg => ob_fieldAddr fo_api_Expr_4 (.inl rfl)) ?_
  refine RT.g rfl rfl rfl (fun hg => ob_ld1 sz_int (.inr ⟨_, rfl, fun h => h⟩) rfl) ?_
  refine RT.g rfl rfl rfl (fun hg => ob_fieldAddr fo_api_Expr_4 (.inl rfl)) ?_
  refine RT.g rfl rfl rfl (fun hg => ob_ld1 sz_int (.inr ⟨_, rfl, fun h => h⟩) rfl) ?_
  refine RT.g rfl rfl rfl (fun hg => ob_neq (.inr ⟨_, rfl, fun h => h⟩) (.inr ⟨_, rfl, fun h => h⟩)) ?_
  refine RT.t (ob_pickOr rfl rfl rfl id) ?_
  refine RT.nil ?_
  refine FinS.nil0 ?_
  repeat (first | refine JX.next ?_ | refine JX.normal_block ?_)
  refine J.sel [2, 3, 37] (.cons rfl (.cons rfl (.cons rfl .nil))) ?_
  repeat refine J.seq ?_
  refine J.cond rfl (fun ht37 => ?_) (fun ht37 => ?_)
  ·
    try simp only [decide_eq_true_eq, decide_eq_false_iff_not] at ht37
    repeat refine J.seq ?_
    refine J.plain ?_
    refine JO.t (ob_assign rfl) rfl ?_
    refine JO.nil ?_
    repeat (first | refine JX.next ?_ | refine JX.normal_block ?_)
    refine J.sel [4] (.cons rfl .nil) ?_
    repeat refine J.seq ?_
    refine J.ret ?_
    repeat (first | refine JX.ret_pass ?_ | refine JX.ret_block ?_)
    exact JX.ret1is rfl rfl (by rw [sameX, if_pos ht37])
  ·
    try simp only [decide_eq_true_eq, decide_eq_false_iff_not] at ht37
    refine J.skip ?_
    repeat (first | refine JX.next ?_ | refine JX.normal_block ?_)
    repeat refine J.seq ?_
    refine J.plain ?_
    refine JO.t (ob_fieldAddr fo_api_Expr_5 rfl) rfl ?_
    refine JO.t (ob_ld1 sz_sl_api_Expr rfl rfl) rfl ?_
    refine JO.t (ob_fieldAddr fo_api_Expr_5 rfl) rfl ?_
    refine JO.t (ob_ld1 sz_sl_api_Expr rfl rfl) rfl ?_
    refine JO.t (ob_call rfl (hS) (.sub rfl (Sub.exsK (by repeat (first | exact List.mem_cons_self | apply List.mem_cons_of_mem))) (.sub rfl (Sub.exsK (by repeat (first | exact List.mem_cons_self | apply List.mem_cons_of_mem))) .nil))) rfl ?_
    refine JO.t (ob_assign rfl) rfl ?_
    refine JO.nil ?_
    repeat (first | refine JX.next ?_ | refine JX.normal_block ?_)
    refine J.sel [4] (.cons rfl .nil) ?_
    repeat refine J.seq ?_
    refine J.ret ?_
    repeat (first | refine JX.ret_pass ?_ | refine JX.ret_block ?_)
    exact JX.ret1is rfl rfl (by rw [sameX, if_neg (by rw [ht37]; simp)])
end Go.Proofs.Ytjlojkchgfeenaa
