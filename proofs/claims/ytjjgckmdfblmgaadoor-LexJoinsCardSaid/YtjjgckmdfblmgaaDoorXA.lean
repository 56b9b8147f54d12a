/- The scanner: classes of bytes, spaces, runs. No condition. -/
import Derived.Test.YtjjgckmdfblmgaaDoorXD
import Derived.Test.YtjjgckmdfblmgaaDoorXG3
set_option maxRecDepth 20000
namespace Go.Proofs.YtjjgckmdfblmgaaDoor
open Go Go.Vc
abbrev AB : UInt8 → Ty := fun b => .is (.int .u8 b.toNat)
abbrev RBB (p : UInt8 → Bool) : UInt8 → Ty := fun b => .is (.bool (p b))
abbrev TT : World → Prop := fun _ => True
theorem and_split {a b : Bool} (h : (a && b) = true) : a = true ∧ b = true := by simpa using h
theorem c_lex_letter (c : Int) : CallTy Tryd.prog f_lex_letter [.is (.int .u8 c)] (.is (.bool (letterF c))) :=
  CallTy.of (fn := Tryd.f26) Tryd.func26 (n := 15) rfl rfl rfl (fun _ _ => by kernel_rfl) fun E W => by
  repeat refine J.seq ?_
  refine J.plain ?_
  refine JO.t (ob_assign rfl) rfl ?_
  refine JO.nil ?_
  repeat (first | refine JX.next ?_ | refine JX.normal_block ?_)
  refine J.sel [0] (.cons rfl .nil) ?_
  repeat refine J.seq ?_
  refine J.reg0 hmx (by kernel_rfl) (by kernel_rfl) ?_
  refine RT.t (ob_move rfl) ?_
  refine RT.t (ob_eql rfl rfl) ?_
  refine RT.t (ob_move rfl) ?_
  refine RT.g rfl rfl rfl (fun hg => ob_move (.inl rfl)) ?_
  refine RT.g rfl rfl rfl (fun hg => ob_or (.inr ⟨_, rfl, fun h => h⟩) (.inl rfl)) ?_
  refine RT.g rfl rfl rfl (fun hg => ob_geq (.inr ⟨_, rfl, fun h => h⟩) (.inl rfl)) ?_
  refine RT.g rfl rfl rfl (fun hg => ob_move (.inr ⟨_, rfl, fun h => h⟩)) ?_
  refine RT.gg rfl rfl rfl (fun hg => (ob_move (.inl rfl))) ?_
  refine RT.gg rfl rfl rfl (fun hg => (ob_or (.inr ⟨_, rfl, fun h => h⟩) (.inl rfl))) ?_
  refine RT.gg rfl rfl rfl (fun hg => (ob_leq (.inr ⟨_, rfl, fun h => h⟩) (.inl rfl))) ?_
  refine RT.g rfl rfl rfl (fun hg => ob_pickAnd (.inr ⟨_, rfl, fun h => h⟩) (.inl rfl) (.inl rfl) (fun h => ⟨hg, h⟩)) ?_
  refine RT.t (ob_pickOr rfl rfl rfl id) ?_
  refine RT.t (ob_assign rfl) ?_
  refine RT.nil ?_
  refine FinS.nil0 ?_
  repeat (first | refine JX.next ?_ | refine JX.normal_block ?_)
  refine J.sel [2] (.cons rfl .nil) ?_
  repeat refine J.seq ?_
  refine J.ret ?_
  repeat (first | refine JX.ret_pass ?_ | refine JX.ret_block ?_)
  exact JX.ret1is rfl rfl (by rfl)
theorem c_lex_digit (c : Int) : CallTy Tryd.prog f_lex_digit [.is (.int .u8 c)] (.is (.bool (digitF c))) :=
  CallTy.of (fn := Tryd.f28) Tryd.func28 (n := 9) rfl rfl rfl (fun _ _ => by kernel_rfl) fun E W => by
  repeat refine J.seq ?_
  refine J.plain ?_
  refine JO.t (ob_assign rfl) rfl ?_
  refine JO.nil ?_
  repeat (first | refine JX.next ?_ | refine JX.normal_block ?_)
  refine J.sel [0] (.cons rfl .nil) ?_
  repeat refine J.seq ?_
  refine J.reg0 hmx (by kernel_rfl) (by kernel_rfl) ?_
  refine RT.t (ob_move rfl) ?_
  refine RT.t (ob_geq rfl rfl) ?_
  refine RT.t (ob_move rfl) ?_
  refine RT.g rfl rfl rfl (fun hg => ob_move (.inl rfl)) ?_
  refine RT.g rfl rfl rfl (fun hg => ob_leq (.inr ⟨_, rfl, fun h => h⟩) (.inl rfl)) ?_
  refine RT.t (ob_pickAnd rfl rfl rfl id) ?_
  refine RT.t (ob_assign rfl) ?_
  refine RT.nil ?_
  refine FinS.nil0 ?_
  repeat (first | refine JX.next ?_ | refine JX.normal_block ?_)
  refine J.sel [2] (.cons rfl .nil) ?_
  repeat refine J.seq ?_
  refine J.ret ?_
  repeat (first | refine JX.ret_pass ?_ | refine JX.ret_block ?_)
  exact JX.ret1is rfl rfl (by rfl)
theorem c_p_lex_scanner_word_1 (c : Int) : CallTy Tryd.prog f_p_lex_scanner_word_1 [.is (.int .u8 c)] (.is (.bool (letterF c || digitF c))) :=
  CallTy.of (fn := Tryd.f45) Tryd.func45 (n := 9) rfl rfl rfl (fun _ _ => by kernel_rfl) fun E W => by
  repeat refine J.seq ?_
  refine J.plain ?_
  refine JO.t (ob_assign rfl) rfl ?_
  refine JO.nil ?_
  repeat (first | refine JX.next ?_ | refine JX.normal_block ?_)
  refine J.sel [0] (.cons rfl .nil) ?_
  repeat refine J.seq ?_
  refine J.reg0 hmx (by kernel_rfl) (by kernel_rfl) ?_
  refine RT.t (ob_move rfl) ?_
  refine RT.t (ob_call rfl (c_lex_letter c) (.one rfl .nil)) ?_
  refine RT.t (ob_move rfl) ?_
  refine RT.g rfl rfl rfl (fun hg => ob_move (.inl rfl)) ?_
  refine RT.g rfl rfl rfl (fun hg => ob_call (.inl rfl) (c_lex_digit c) (.one (.inr ⟨_, rfl, fun h => h⟩) .nil)) ?_
  refine RT.t (ob_pickOr rfl rfl rfl id) ?_
  refine RT.t (ob_assign rfl) ?_
  refine RT.nil ?_
  refine FinS.nil0 ?_
  repeat (first | refine JX.next ?_ | refine JX.normal_block ?_)
  refine J.sel [2] (.cons rfl .nil) ?_
  repeat refine J.seq ?_
  refine J.ret ?_
  repeat (first | refine JX.ret_pass ?_ | refine JX.ret_block ?_)
  exact JX.ret1is rfl rfl (by rfl)
theorem fn_word : Fn1 Tryd.prog (.func (.func f_p_lex_scanner_word_1) ([] : List Value).toArray ([] : List Value).toArray) TT AB (RBB wordB) :=
  Fn1.of (TF := []) (TC := []) (fun b => c_p_lex_scanner_word_1 b.toNat) (fun _ _ _ => trivial) (fun _ _ _ => trivial) 0
theorem fn_digit : Fn1 Tryd.prog (.func (.func f_lex_digit) ([] : List Value).toArray ([] : List Value).toArray) TT AB (RBB digB) :=
  Fn1.of (TF := []) (TC := []) (fun b => c_lex_digit b.toNat) (fun _ _ _ => trivial) (fun _ _ _ => trivial) 0
theorem c_p_lex_scanner_space (s : ByteArray) (n : Nat) (hn : n ≤ s.size) (hs : s.size ≤ 9223372036854775806) : CallM Tryd.prog f_p_lex_scanner_space ty_lex_scanner (sv s n) [] [] (sv s (n + runN isSp (dr s n))) (.is (.tuple #[])) :=
CallM.of (fn := Tryd.f13) Tryd.func13 (n := 32) rfl rfl rfl (fun _ _ => by kernel_rfl) fun E W b0 => by
  repeat refine J.seq ?_
  refine J.block ?_
  repeat refine J.seq ?_
  refine J.loopG (α := Nat) (fun i => [(0, .is (.pointer (some ⟨b0, 0, none⟩)))]) (fun i => [⟨b0, ty_lex_scanner, .is (sv s i)⟩]) (fun i => fun _ => True) (fun i => i ≤ s.size ∧ i + runN isSp (dr s i) = n + runN isSp (dr s n)) (fun i => s.size - i) n [0] (.cons rfl .nil) rfl (fun _ => trivial) ⟨hn, rfl⟩ fun i ⟨hi, hr⟩ => ?_
  try dsimp only
  try dsimp only at hi
  try dsimp only at hr
  repeat refine J.seq ?_
  refine J.reg0 hmx (by kernel_rfl) (by kernel_rfl) ?_
  refine RT.t (ob_move rfl) ?_
  refine RT.t (ob_nilCheck rfl) ?_
  refine RT.t (ob_fieldAddr fo_lex_scanner_1 rfl) ?_
  refine RT.t (ob_ld1 sz_int rfl rfl) ?_
  refine RT.t (ob_move rfl) ?_
  refine RT.t (ob_nilCheck rfl) ?_
  refine RT.t (ob_fieldAddr fo_lex_scanner_0 rfl) ?_
  refine RT.t (ob_ld1 sz_string rfl rfl) ?_
  refine RT.t (ob_slen un_string rfl) ?_
  refine RT.t (ob_lss rfl rfl) ?_
  refine RT.t (ob_move rfl) ?_
  refine RT.g rfl rfl rfl (fun hg => ob_move (.inl rfl)) ?_
  refine RT.g rfl rfl rfl (fun hg => ob_nilCheck (.inr ⟨_, rfl, fun h => h⟩)) ?_
  refine RT.g rfl rfl rfl (fun hg => ob_fieldAddr fo_lex_scanner_0 (.inr ⟨_, rfl, fun h => h⟩)) ?_
  refine RT.g rfl rfl rfl (fun hg => ob_ld1 sz_string (.inr ⟨_, rfl, fun h => h⟩) rfl) ?_
  refine RT.g rfl rfl rfl (fun hg => ob_move (.inl rfl)) ?_
  refine RT.g rfl rfl rfl (fun hg => ob_nilCheck (.inr ⟨_, rfl, fun h => h⟩)) ?_
  refine RT.g rfl rfl rfl (fun hg => ob_fieldAddr fo_lex_scanner_1 (.inr ⟨_, rfl, fun h => h⟩)) ?_
  refine RT.g rfl rfl rfl (fun hg => ob_ld1 sz_int (.inr ⟨_, rfl, fun h => h⟩) rfl) ?_
  refine RT.g rfl rfl rfl (fun hg => ob_sindex un_string (.inr ⟨_, rfl, fun h => h⟩) (.inr ⟨_, rfl, fun h => h⟩) (by have h := hg; simp only [decide_eq_true_eq] at h; omega) (by have h := hg; simp only [decide_eq_true_eq] at h; omega)) ?_
  refine RT.g rfl rfl rfl (fun hg => ob_call (.inl rfl) (c_strings_IndexByte ⟨#[32, 9, 10, 13]⟩ (sb s i)) (.one (.inl rfl) (.one (.inr ⟨_, rfl, fun h => h⟩) .nil))) ?_
  refine RT.g rfl rfl rfl (fun hg => ob_geq (.inr ⟨_, rfl, fun h => h⟩) (.inl rfl)) ?_
  refine RT.t (ob_pickAnd rfl rfl rfl id) ?_
  refine RT.nil ?_
  refine FinS.nil0 ?_
  repeat (first | refine JX.next ?_ | refine JX.normal_block ?_)
  refine J.sel [0, 24] (.cons rfl (.cons rfl .nil)) ?_
  repeat refine J.seq ?_
  refine J.cond rfl (fun ht24 => ?_) (fun ht24 => ?_)
  ·
    try simp only [decide_eq_true_eq, decide_eq_false_iff_not] at ht24
    refine J.skip ?_
    repeat (first | refine JX.next ?_ | refine JX.normal_block ?_)
    repeat refine J.seq ?_
    refine J.block ?_
    have hlt : i < s.size := by have h := (and_split ht24).1; simp only [decide_eq_true_eq] at h; omega
    repeat refine J.seq ?_
    refine J.plain ?_
    refine JO.t (ob_move rfl) rfl ?_
    refine JO.t (ob_nilCheck rfl) rfl ?_
    refine JO.t (ob_fieldAddr fo_lex_scanner_1 rfl) rfl ?_
    refine JO.t (ob_ld1 sz_int rfl rfl) rfl ?_
    refine JO.t (ob_addc (cc := ((i + 1 : Nat) : Int)) rfl rfl (by omega) (by omega) (by omega)) rfl ?_
    refine JO.t (ob_nilCheck rfl) rfl ?_
    refine JO.t (ob_fieldAddr fo_lex_scanner_1 rfl) rfl ?_
    refine JO.m (obm_storeF (cs' := [_, _]) rfl rfl (by repeat (first | exact .here | apply Upd.there)) rfl rfl rfl rfl ss_int) (by rfl) ?_
    refine JO.nil ?_
    repeat refine JX.normal_block ?_
    refine JX.roundG (x := i) (i + 1) ?_ ?_ [0] ?_ ?_ ?_ ?_
    · exact ⟨by omega, by rw [← hr, run_go (by omega) (and_split (show (decide ((i : Int) < s.size) && isSp (by_ s i)) = true by rw [← sb_u8]; exact ht24)).2]; omega⟩
    · exact (by omega)
    · exact (.cons rfl .nil)
    · repeat (first | exact .all | exact .nil | refine Has.own (by repeat (first | exact .here | apply Tl.past | apply Tl.there)) ?_ | refine Has.cons (by repeat (first | exact .here | apply Pk.past | apply Pk.there)) ?_)
    · exact fun G hG => by repeat (first | exact hG | refine List.mem_cons_of_mem _ ?_)
    · exact fun _ _ _ => fun _ _ => trivial
  ·
    try simp only [decide_eq_true_eq, decide_eq_false_iff_not] at ht24
    repeat refine J.seq ?_
    refine J.exit ?_
    repeat (first | refine JX.hit ?_ | refine JX.miss rfl ?_ | refine JX.exit_pass ?_)
    repeat (first | refine JX.next ?_ | refine JX.normal_block ?_)
    exact JX.normal_ret (JX.retM0e rfl HasOwn.mem (by rw [← hr, run_stop fun h => by have h2 : (decide ((i : Int) < s.size) && isSp (by_ s i)) = false := (by rw [← sb_u8]; exact ht24); simpa [h] using h2]; rfl))
theorem c_p_lex_scanner_run (p : UInt8 → Bool) (fv : Value) (hf : Fn1 Tryd.prog fv TT AB (RBB p)) (s : ByteArray) (n : Nat) (hn : n ≤ s.size) (hs : s.size ≤ 9223372036854775806) : CallM Tryd.prog f_p_lex_scanner_run ty_lex_scanner (sv s n) [] [.rep (FunR fv TT)] (sv s (n + runN p (dr s n))) (.is (.string (s.extract n (n + runN p (dr s n))))) :=
CallM.of (fn := Tryd.f44) Tryd.func44 (n := 50) rfl rfl rfl (fun _ _ => by kernel_rfl) fun E W b0 => by
  refine J.openFun (s := 1) rfl ?_
  repeat refine J.seq ?_
  refine J.plain ?_
  refine JO.t (ob_assign rfl) rfl ?_
  refine JO.nil ?_
  repeat (first | refine JX.next ?_ | refine JX.normal_block ?_)
  refine J.sel [0, 1] (.cons rfl (.cons rfl .nil)) ?_
  repeat refine J.seq ?_
  refine J.plain ?_
  refine JO.t (ob_move rfl) rfl ?_
  refine JO.t (ob_nilCheck rfl) rfl ?_
  refine JO.t (ob_fieldAddr fo_lex_scanner_1 rfl) rfl ?_
  refine JO.t (ob_ld1 sz_int rfl rfl) rfl ?_
  refine JO.t (ob_assign rfl) rfl ?_
  refine JO.nil ?_
  repeat (first | refine JX.next ?_ | refine JX.normal_block ?_)
  refine J.sel [0, 1, 5] (.cons rfl (.cons rfl (.cons rfl .nil))) ?_
  repeat refine J.seq ?_
  refine J.block ?_
  repeat refine J.seq ?_
  refine J.loopG (α := Nat) (fun i => [(0, .is (.pointer (some ⟨b0, 0, none⟩))), (1, .is fv), (5, .is (.int .i64 (n : Int)))]) (fun i => [⟨b0, ty_lex_scanner, .is (sv s i)⟩]) (fun i => fun _ => True) (fun i => i ≤ s.size ∧ i + runN p (dr s i) = n + runN p (dr s n)) (fun i => s.size - i) n [0, 1, 5] (.cons rfl (.cons rfl (.cons rfl .nil))) rfl (fun _ => trivial) ⟨hn, rfl⟩ fun i ⟨hi, hr⟩ => ?_
  try dsimp only
  try dsimp only at hi
  try dsimp only at hr
  repeat refine J.seq ?_
  refine J.reg0 hmx (by kernel_rfl) (by kernel_rfl) ?_
  refine RT.t (ob_move rfl) ?_
  refine RT.t (ob_nilCheck rfl) ?_
  refine RT.t (ob_fieldAddr fo_lex_scanner_1 rfl) ?_
  refine RT.t (ob_ld1 sz_int rfl rfl) ?_
  refine RT.t (ob_move rfl) ?_
  refine RT.t (ob_nilCheck rfl) ?_
  refine RT.t (ob_fieldAddr fo_lex_scanner_0 rfl) ?_
  refine RT.t (ob_ld1 sz_string rfl rfl) ?_
  refine RT.t (ob_slen un_string rfl) ?_
  refine RT.t (ob_lss rfl rfl) ?_
  refine RT.t (ob_move rfl) ?_
  refine RT.g rfl rfl rfl (fun hg => ob_move (.inl rfl)) ?_
  refine RT.g rfl rfl rfl (fun hg => ob_move (.inl rfl)) ?_
  refine RT.g rfl rfl rfl (fun hg => ob_nilCheck (.inr ⟨_, rfl, fun h => h⟩)) ?_
  refine RT.g rfl rfl rfl (fun hg => ob_fieldAddr fo_lex_scanner_0 (.inr ⟨_, rfl, fun h => h⟩)) ?_
  refine RT.g rfl rfl rfl (fun hg => ob_ld1 sz_string (.inr ⟨_, rfl, fun h => h⟩) rfl) ?_
  refine RT.g rfl rfl rfl (fun hg => ob_move (.inl rfl)) ?_
  refine RT.g rfl rfl rfl (fun hg => ob_nilCheck (.inr ⟨_, rfl, fun h => h⟩)) ?_
  refine RT.g rfl rfl rfl (fun hg => ob_fieldAddr fo_lex_scanner_1 (.inr ⟨_, rfl, fun h => h⟩)) ?_
  refine RT.g rfl rfl rfl (fun hg => ob_ld1 sz_int (.inr ⟨_, rfl, fun h => h⟩) rfl) ?_
  refine RT.g rfl rfl rfl (fun hg => ob_sindex un_string (.inr ⟨_, rfl, fun h => h⟩) (.inr ⟨_, rfl, fun h => h⟩) (by have h := hg; simp only [decide_eq_true_eq] at h; omega) (by have h := hg; simp only [decide_eq_true_eq] at h; omega)) ?_
  refine RT.g rfl rfl rfl (fun hg => ob_callG (by_ s i) (.inr ⟨_, rfl, fun h => h⟩) hf (by repeat (first | exact List.mem_cons_self | apply List.mem_cons_of_mem)) (.inr ⟨_, rfl, fun h => h⟩)) ?_
  refine RT.t (ob_pickAnd rfl rfl rfl id) ?_
  refine RT.nil ?_
  refine FinS.nil0 ?_
  repeat (first | refine JX.next ?_ | refine JX.normal_block ?_)
  refine J.sel [0, 1, 5, 32] (.cons rfl (.cons rfl (.cons rfl (.cons rfl .nil)))) ?_
  repeat refine J.seq ?_
  refine J.cond rfl (fun ht32 => ?_) (fun ht32 => ?_)
  ·
    try simp only [decide_eq_true_eq, decide_eq_false_iff_not] at ht32
    refine J.skip ?_
    repeat (first | refine JX.next ?_ | refine JX.normal_block ?_)
    repeat refine J.seq ?_
    refine J.block ?_
    have hlt : i < s.size := by have h := (and_split ht32).1; simp only [decide_eq_true_eq] at h; omega
    repeat refine J.seq ?_
    refine J.plain ?_
    refine JO.t (ob_move rfl) rfl ?_
    refine JO.t (ob_nilCheck rfl) rfl ?_
    refine JO.t (ob_fieldAddr fo_lex_scanner_1 rfl) rfl ?_
    refine JO.t (ob_ld1 sz_int rfl rfl) rfl ?_
    refine JO.t (ob_addc (cc := ((i + 1 : Nat) : Int)) rfl rfl (by omega) (by omega) (by omega)) rfl ?_
    refine JO.t (ob_nilCheck rfl) rfl ?_
    refine JO.t (ob_fieldAddr fo_lex_scanner_1 rfl) rfl ?_
    refine JO.m (obm_storeF (cs' := [_, _]) rfl rfl (by repeat (first | exact .here | apply Upd.there)) rfl rfl rfl rfl ss_int) (by rfl) ?_
    refine JO.nil ?_
    repeat refine JX.normal_block ?_
    refine JX.roundG (x := i) (i + 1) ?_ ?_ [0, 1, 5] ?_ ?_ ?_ ?_
    · exact ⟨by omega, by rw [← hr, run_go (by omega) (and_split (show (decide ((i : Int) < s.size) && p (by_ s i)) = true from ht32)).2]; omega⟩
    · exact (by omega)
    · exact (.cons rfl (.cons rfl (.cons rfl .nil)))
    · repeat (first | exact .all | exact .nil | refine Has.own (by repeat (first | exact .here | apply Tl.past | apply Tl.there)) ?_ | refine Has.cons (by repeat (first | exact .here | apply Pk.past | apply Pk.there)) ?_)
    · exact fun G hG => by repeat (first | exact hG | refine List.mem_cons_of_mem _ ?_)
    · exact fun _ _ _ => fun _ _ => trivial
  ·
    try simp only [decide_eq_true_eq, decide_eq_false_iff_not] at ht32
    repeat refine J.seq ?_
    refine J.exit ?_
    repeat (first | refine JX.hit ?_ | refine JX.miss rfl ?_ | refine JX.exit_pass ?_)
    repeat (first | refine JX.next ?_ | refine JX.normal_block ?_)
    have he : i = n + runN p (dr s n) := by rw [← hr, run_stop fun h => by have h2 : (decide ((i : Int) < s.size) && p (by_ s i)) = false := ht32; simpa [h] using h2]; rfl
    have hni : n ≤ i := by omega
    repeat refine J.seq ?_
    refine J.reg0 hmx (by kernel_rfl) (by kernel_rfl) ?_
    refine RT.t (ob_move rfl) ?_
    refine RT.t (ob_nilCheck rfl) ?_
    refine RT.t (ob_fieldAddr fo_lex_scanner_0 rfl) ?_
    refine RT.t (ob_ld1 sz_string rfl rfl) ?_
    refine RT.t (ob_move rfl) ?_
    refine RT.t (ob_move rfl) ?_
    refine RT.t (ob_nilCheck rfl) ?_
    refine RT.t (ob_fieldAddr fo_lex_scanner_1 rfl) ?_
    refine RT.t (ob_ld1 sz_int rfl rfl) ?_
    refine RT.t (ob_sslice un_string rfl rfl rfl (by omega) (by omega) (by omega)) ?_
    refine RT.t (ob_assign rfl) ?_
    refine RT.nil ?_
    refine FinS.nil0 ?_
    repeat (first | refine JX.next ?_ | refine JX.normal_block ?_)
    refine J.sel [4] (.cons rfl .nil) ?_
    repeat refine J.seq ?_
    refine J.ret ?_
    repeat (first | refine JX.ret_pass ?_ | refine JX.ret_block ?_)
    exact JX.retM1e rfl HasOwn.mem rfl (by rw [he]; rfl) (by rw [he])
end Go.Proofs.YtjjgckmdfblmgaaDoor
