/- The scanner: its four methods. No condition. -/
import Derived.Test.YtjjgckmdfblmgaaDoorXA
import Derived.Test.YtjjgckmdfblmgaaDoorXG3
set_option maxRecDepth 20000
namespace Go.Proofs.YtjjgckmdfblmgaaDoor
open Go Go.Vc
theorem head_dr (p : UInt8 → Bool) (s : ByteArray) (i : Nat) : headP p (dr s i) = (decide ((i : Int) < s.size) && p (by_ s i)) := by
  by_cases h : i < s.size
  · rw [dr_cons h, headP, decide_eq_true (by omega), Bool.true_and]
  · rw [dr_nil (by omega), headP, decide_eq_false (by omega), Bool.false_and]
theorem try_eq {s : ByteArray} {n : Nat} (hn : n < s.size) (q : Nat) : tryL (dr s n) q = (decide (((n + q : Nat) : Int) ≤ s.size) && Lib.contains sgB.data.toList ((sp1 ++ s.extract n (n + q)) ++ sp1).data.toList) := by
  unfold tryL
  rw [pad_eq, ext_bytes, dr_len]
  congr 1
  exact decide_eq_decide.2 ⟨fun h => by omega, fun h => by omega⟩
theorem u8_get {l : List UInt8} {i : Nat} (h : i < l.length) : l[i]? = some (l.getD i 0) := by simp [h]
theorem fold_take {α : Type} (f : α → UInt8 → α) {a : α} {l : List UInt8} {k : Nat} (h : k < l.length) : (l.take (k + 1)).foldl f a = f ((l.take k).foldl f a) (l.getD k 0) := by
  rw [List.take_add_one, List.foldl_append]
  simp [h]
theorem c_p_lex_scanner_word (s : ByteArray) (n : Nat) (hn : n < s.size) (hs : s.size ≤ 2048) : CallM Tryd.prog f_p_lex_scanner_word ty_lex_scanner (sv s n) [GF] [] (sv s (n + runN wordB (dr s n))) (.tup2 (.is (tv (wordL ((dr s n).take (runN wordB (dr s n)))).1)) (.is (.int .i64 (wordL ((dr s n).take (runN wordB (dr s n)))).2))) :=
CallM.of (fn := Tryd.f27) Tryd.func27 (n := 23) rfl rfl rfl (fun _ _ => by kernel_rfl) fun E W b0 => by
  repeat refine J.seq ?_
  refine J.plain ?_
  refine JO.alloc zo_api_Token rfl fun b2 => ?_
  refine JO.t (ob_assign rfl) rfl ?_
  refine JO.nil ?_
  repeat (first | refine JX.next ?_ | refine JX.normal_block ?_)
  refine J.sel [0, 2] (.cons rfl (.cons rfl .nil)) ?_
  repeat refine J.seq ?_
  refine J.plain ?_
  refine JO.t (ob_move rfl) rfl ?_
  refine JO.md (obm_call rfl rfl (c_p_lex_scanner_run wordB _ fn_word s n (by omega) (by omega)) (by repeat (first | exact .here | apply Upd.there)) (by simp) (.sub rfl (Sub.funT (fun _ => trivial)) .nil)) (by rfl) rfl ?_
  refine JO.t (ob_assign rfl) rfl ?_
  refine JO.nil ?_
  repeat (first | refine JX.next ?_ | refine JX.normal_block ?_)
  refine J.sel [2, 4] (.cons rfl (.cons rfl .nil)) ?_
  repeat refine J.seq ?_
  refine J.plain ?_
  refine JO.t (ob_move rfl) rfl ?_
  refine JO.t (ob_call rfl (c_strings_ToUpper (s.extract n (n + runN wordB (dr s n))) (by have h1 := ext_size s n (runN wordB (dr s n)); omega) (ext_ascii s n)) (.one rfl .nil)) rfl ?_
  refine JO.t (ob_assign rfl) rfl ?_
  refine JO.nil ?_
  repeat (first | refine JX.next ?_ | refine JX.normal_block ?_)
  refine J.sel [2, 4, 5] (.cons rfl (.cons rfl (.cons rfl .nil))) ?_
  repeat refine J.seq ?_
  refine J.plain ?_
  refine JO.t (ob_move rfl) rfl ?_
  refine JO.t (ob_sadd rfl rfl (sz_pad1 (by show (bl (Lib.toUpperA (s.extract n (n + runN wordB (dr s n))).data.toList)).size ≤ 2048; rw [bl_size, up_size, len_bytes]; have h1 := ext_size s n (runN wordB (dr s n)); omega))) rfl ?_
  refine JO.t (ob_sadd rfl rfl (sz_pad2 (by show (bl (Lib.toUpperA (s.extract n (n + runN wordB (dr s n))).data.toList)).size ≤ 2048; rw [bl_size, up_size, len_bytes]; have h1 := ext_size s n (runN wordB (dr s n)); omega))) rfl ?_
  refine JO.t (ob_callF rfl (c_strings_Contains kwB _ (by decide)) (by simp) (.one rfl (.one rfl .nil))) rfl ?_
  refine JO.nil ?_
  repeat (first | refine JX.next ?_ | refine JX.normal_block ?_)
  refine J.sel [2, 4, 5, 13] (.cons rfl (.cons rfl (.cons rfl (.cons rfl .nil)))) ?_
  repeat refine J.seq ?_
  refine J.cond rfl (fun ht13 => ?_) (fun ht13 => ?_)
  ·
    try simp only [decide_eq_true_eq, decide_eq_false_iff_not] at ht13
    repeat refine J.seq ?_
    refine J.plain ?_
    refine JO.t (ob_move rfl) rfl ?_
    refine JO.t (ob_build (cs := [_, _, _]) sh_api_Token (.cons rfl (.cons rfl .nil)) rfl rfl) rfl ?_
    refine JO.m (obm_store rfl rfl (by repeat (first | exact .here | apply Upd.there)) (by first | exact cnt_is rfl rfl | exact cnt_ex) (by first | exact cnt_is rfl rfl | exact cnt_ex | exact cnt_aggO) ss_api_Token) (by rfl) ?_
    refine JO.t (ob_assign rfl) rfl ?_
    refine JO.nil ?_
    repeat (first | refine JX.next ?_ | refine JX.normal_block ?_)
    refine J.sel [2, 3] (.cons rfl (.cons rfl .nil)) ?_
    repeat refine J.seq ?_
    refine J.ret ?_
    repeat (first | refine JX.ret_pass ?_ | refine JX.ret_block ?_)
    exact JX.retMC1is rfl HasOwn.mem rfl sz_api_Token HasOwn.mem rfl rfl (by have hc : (Lib.contains kwB.data.toList ((sp1 ++ ⟨(Lib.toUpperA (s.extract n (n + runN wordB (dr s n))).data.toList).toArray⟩) ++ sp1).data.toList) = Lib.contains kwB.data.toList (padL (Lib.toUpperA ((dr s n).take (runN wordB (dr s n))))) := (by rw [pad_eq, bl_list, ext_bytes]); rw [hc] at ht13; unfold wordL; rw [if_pos ht13, ext_bytes]) (by have hc : (Lib.contains kwB.data.toList ((sp1 ++ ⟨(Lib.toUpperA (s.extract n (n + runN wordB (dr s n))).data.toList).toArray⟩) ++ sp1).data.toList) = Lib.contains kwB.data.toList (padL (Lib.toUpperA ((dr s n).take (runN wordB (dr s n))))) := (by rw [pad_eq, bl_list, ext_bytes]); rw [hc] at ht13; unfold wordL; rw [if_pos ht13]) (by rfl)
  ·
    try simp only [decide_eq_true_eq, decide_eq_false_iff_not] at ht13
    refine J.skip ?_
    repeat (first | refine JX.next ?_ | refine JX.normal_block ?_)
    repeat refine J.seq ?_
    refine J.plain ?_
    refine JO.t (ob_move rfl) rfl ?_
    refine JO.t (ob_slen un_string rfl) rfl ?_
    refine JO.t (ob_gtr rfl rfl) rfl ?_
    refine JO.nil ?_
    repeat (first | refine JX.next ?_ | refine JX.normal_block ?_)
    refine J.sel [2, 4, 18] (.cons rfl (.cons rfl (.cons rfl .nil))) ?_
    repeat refine J.seq ?_
    refine J.cond rfl (fun ht18 => ?_) (fun ht18 => ?_)
    ·
      try simp only [decide_eq_true_eq, decide_eq_false_iff_not] at ht18
      repeat refine J.seq ?_
      refine J.plain ?_
      refine JO.t (ob_build (cs := [_, _, _]) sh_api_Token .nil rfl rfl) rfl ?_
      refine JO.m (obm_store rfl rfl (by repeat (first | exact .here | apply Upd.there)) (by first | exact cnt_is rfl rfl | exact cnt_ex) (by first | exact cnt_is rfl rfl | exact cnt_ex | exact cnt_aggO) ss_api_Token) (by rfl) ?_
      refine JO.t (ob_assign rfl) rfl ?_
      refine JO.nil ?_
      repeat (first | refine JX.next ?_ | refine JX.normal_block ?_)
      refine J.sel [2, 3] (.cons rfl (.cons rfl .nil)) ?_
      repeat refine J.seq ?_
      refine J.ret ?_
      repeat (first | refine JX.ret_pass ?_ | refine JX.ret_block ?_)
      exact JX.retMC1is rfl HasOwn.mem rfl sz_api_Token HasOwn.mem rfl rfl (by have hc : (Lib.contains kwB.data.toList ((sp1 ++ ⟨(Lib.toUpperA (s.extract n (n + runN wordB (dr s n))).data.toList).toArray⟩) ++ sp1).data.toList) = Lib.contains kwB.data.toList (padL (Lib.toUpperA ((dr s n).take (runN wordB (dr s n))))) := (by rw [pad_eq, bl_list, ext_bytes]); rw [hc] at ht13; have hl : ((s.extract n (n + runN wordB (dr s n))).size : Int) = (((dr s n).take (runN wordB (dr s n))).length : Int) := (by rw [← len_bytes, ext_bytes]); rw [hl] at ht18; unfold wordL; rw [if_neg (by rw [ht13]; simp), if_pos (decide_eq_true ht18)]; rfl) (by have hc : (Lib.contains kwB.data.toList ((sp1 ++ ⟨(Lib.toUpperA (s.extract n (n + runN wordB (dr s n))).data.toList).toArray⟩) ++ sp1).data.toList) = Lib.contains kwB.data.toList (padL (Lib.toUpperA ((dr s n).take (runN wordB (dr s n))))) := (by rw [pad_eq, bl_list, ext_bytes]); rw [hc] at ht13; have hl : ((s.extract n (n + runN wordB (dr s n))).size : Int) = (((dr s n).take (runN wordB (dr s n))).length : Int) := (by rw [← len_bytes, ext_bytes]); rw [hl] at ht18; unfold wordL; rw [if_neg (by rw [ht13]; simp), if_pos (decide_eq_true ht18)]) (by rfl)
    ·
      try simp only [decide_eq_true_eq, decide_eq_false_iff_not] at ht18
      refine J.skip ?_
      repeat (first | refine JX.next ?_ | refine JX.normal_block ?_)
      repeat refine J.seq ?_
      refine J.plain ?_
      refine JO.t (ob_move rfl) rfl ?_
      refine JO.t (ob_call rfl (c_strings_ToLower (s.extract n (n + runN wordB (dr s n))) (by have h1 := ext_size s n (runN wordB (dr s n)); omega) (ext_ascii s n)) (.one rfl .nil)) rfl ?_
      refine JO.t (ob_build (cs := [_, _, _]) sh_api_Token (.cons rfl (.cons rfl .nil)) rfl rfl) rfl ?_
      refine JO.m (obm_store rfl rfl (by repeat (first | exact .here | apply Upd.there)) (by first | exact cnt_is rfl rfl | exact cnt_ex) (by first | exact cnt_is rfl rfl | exact cnt_ex | exact cnt_aggO) ss_api_Token) (by rfl) ?_
      refine JO.t (ob_assign rfl) rfl ?_
      refine JO.nil ?_
      repeat (first | refine JX.next ?_ | refine JX.normal_block ?_)
      refine J.sel [2, 3] (.cons rfl (.cons rfl .nil)) ?_
      repeat refine J.seq ?_
      refine J.ret ?_
      repeat (first | refine JX.ret_pass ?_ | refine JX.ret_block ?_)
      exact JX.retMC1is rfl HasOwn.mem rfl sz_api_Token HasOwn.mem rfl rfl (by have hc : (Lib.contains kwB.data.toList ((sp1 ++ ⟨(Lib.toUpperA (s.extract n (n + runN wordB (dr s n))).data.toList).toArray⟩) ++ sp1).data.toList) = Lib.contains kwB.data.toList (padL (Lib.toUpperA ((dr s n).take (runN wordB (dr s n))))) := (by rw [pad_eq, bl_list, ext_bytes]); rw [hc] at ht13; have hl : ((s.extract n (n + runN wordB (dr s n))).size : Int) = (((dr s n).take (runN wordB (dr s n))).length : Int) := (by rw [← len_bytes, ext_bytes]); rw [hl] at ht18; unfold wordL; rw [if_neg (by rw [ht13]; simp), if_neg (by rw [decide_eq_false ht18]; simp), ext_bytes]) (by have hc : (Lib.contains kwB.data.toList ((sp1 ++ ⟨(Lib.toUpperA (s.extract n (n + runN wordB (dr s n))).data.toList).toArray⟩) ++ sp1).data.toList) = Lib.contains kwB.data.toList (padL (Lib.toUpperA ((dr s n).take (runN wordB (dr s n))))) := (by rw [pad_eq, bl_list, ext_bytes]); rw [hc] at ht13; have hl : ((s.extract n (n + runN wordB (dr s n))).size : Int) = (((dr s n).take (runN wordB (dr s n))).length : Int) := (by rw [← len_bytes, ext_bytes]); rw [hl] at ht18; unfold wordL; rw [if_neg (by rw [ht13]; simp), if_neg (by rw [decide_eq_false ht18]; simp)]) (by rfl)
theorem c_p_lex_scanner_number (s : ByteArray) (n : Nat) (hn : n < s.size) (hs : s.size ≤ 2048) : CallM Tryd.prog f_p_lex_scanner_number ty_lex_scanner (sv s n) [GF] [] (sv s (n + runN digB (dr s n))) (.tup2 (.is (tv (numL (dr s n)).1)) (.is (.int .i64 (numL (dr s n)).2))) :=
CallM.of (fn := Tryd.f29) Tryd.func29 (n := 58) rfl rfl rfl (fun _ _ => by kernel_rfl) fun E W b0 => by
  repeat refine J.seq ?_
  refine J.plain ?_
  refine JO.alloc zo_api_Token rfl fun b2 => ?_
  refine JO.t (ob_assign rfl) rfl ?_
  refine JO.nil ?_
  repeat (first | refine JX.next ?_ | refine JX.normal_block ?_)
  refine J.sel [0, 2] (.cons rfl (.cons rfl .nil)) ?_
  repeat refine J.seq ?_
  refine J.plain ?_
  refine JO.t (ob_assign rfl) rfl ?_
  refine JO.t (ob_assign rfl) rfl ?_
  refine JO.nil ?_
  repeat (first | refine JX.next ?_ | refine JX.normal_block ?_)
  refine J.sel [0, 2, 4, 5] (.cons rfl (.cons rfl (.cons rfl (.cons rfl .nil)))) ?_
  have hbl : ((dr s n).take (runN digB (dr s n))).length ≤ 2048 := by rw [List.length_take, dr_len]; omega
  repeat refine J.seq ?_
  refine J.plain ?_
  refine JO.t (ob_move rfl) rfl ?_
  refine JO.md (obm_call rfl rfl (c_p_lex_scanner_run digB _ fn_digit s n (by omega) (by omega)) (by repeat (first | exact .here | apply Upd.there)) (by simp) (.sub rfl (Sub.funT (fun _ => trivial)) .nil)) (by rfl) rfl ?_
  refine JO.t (ob_bytes un_string un_sl_uint8 un_uint8 rfl) rfl ?_
  refine JO.openSl (s := 11) rfl (fun a len cap bb bo hlen ha => ?_)
  have hlen2 : ((dr s n).take (runN digB (dr s n))).length = len := (by rw [← hlen, ext_bytes])
  subst hlen2
  refine JO.t (ob_len un_sl_uint8 rfl) rfl ?_
  refine JO.t (ob_move rfl) rfl ?_
  refine JO.nil ?_
  repeat (first | refine JX.next ?_ | refine JX.normal_block ?_)
  refine J.sel [0, 2, 4, 5, 11, 12, 13] (.cons rfl (.cons rfl (.cons rfl (.cons rfl (.cons rfl (.cons rfl (.cons rfl .nil))))))) ?_
  repeat refine J.seq ?_
  refine J.block ?_
  repeat refine J.seq ?_
  refine J.loopG (α := Nat × Int × Int) (fun z => [(0, .is (.pointer (some ⟨b0, 0, none⟩))), (2, .is (.pointer (some ⟨b2, 0, none⟩))), (4, .is (.int .i64 z.2.1)), (5, .is (.int .i64 z.2.2)), (11, .is (.slice a ((dr s n).take (runN digB (dr s n))).length cap)), (12, .is (.int .i64 (((dr s n).take (runN digB (dr s n))).length : Nat))), (13, .is (.int .i64 (z.1 : Nat)))]) (fun z => [⟨b2, ty_api_Token, .is (tv t3D)⟩, ⟨b0, ty_lex_scanner, .is (sv s (n + runN digB (dr s n)))⟩]) (fun z => fun _ => True) (fun z => z.1 ≤ ((dr s n).take (runN digB (dr s n))).length ∧ (((dr s n).take (runN digB (dr s n))).take z.1).foldl numStep (0, 0) = z.2) (fun z => ((dr s n).take (runN digB (dr s n))).length - z.1) (0, 0, 0) [0, 2, 4, 5, 11, 12, 13] (.cons rfl (.cons rfl (.cons rfl (.cons rfl (.cons rfl (.cons rfl (.cons rfl .nil))))))) rfl (fun _ => trivial) ⟨by omega, rfl⟩ fun ⟨k, m, e⟩ ⟨hk, hf⟩ => ?_
  try dsimp only
  try dsimp only at m
  try dsimp only at e
  try dsimp only at hk
  try dsimp only at hf
  repeat refine J.seq ?_
  refine J.plain ?_
  refine JO.t (ob_lss rfl rfl) rfl ?_
  refine JO.nil ?_
  repeat (first | refine JX.next ?_ | refine JX.normal_block ?_)
  refine J.sel [0, 2, 4, 5, 11, 12, 13, 14] (.cons rfl (.cons rfl (.cons rfl (.cons rfl (.cons rfl (.cons rfl (.cons rfl (.cons rfl .nil)))))))) ?_
  repeat refine J.seq ?_
  refine J.cond rfl (fun ht14 => ?_) (fun ht14 => ?_)
  ·
    try simp only [decide_eq_true_eq, decide_eq_false_iff_not] at ht14
    refine J.skip ?_
    repeat (first | refine JX.next ?_ | refine JX.normal_block ?_)
    repeat refine J.seq ?_
    refine J.block ?_
    repeat refine J.seq ?_
    refine J.plain ?_
    refine JO.t (ob_indexAddr el_sl_uint8 rfl (ha (by omega)) rfl (by omega) (by omega)) rfl ?_
    refine JO.t (ob_loadG1 (enc := bC) (sz := 1) (xs := (s.extract n (n + runN digB (dr s n))).data.toList) (len := ((dr s n).take (runN digB (dr s n))).length) (i := k) (j := 0) (y := ((dr s n).take (runN digB (dr s n))).getD k 0) sz_uint8 rfl (by repeat (first | exact List.mem_cons_self | apply List.mem_cons_of_mem)) (ha (by omega)) (by rw [ext_bytes]; exact u8_get (by omega)) (by simp) rfl) rfl ?_
    refine JO.t (ob_assign rfl) rfl ?_
    refine JO.nil ?_
    repeat (first | refine JX.next ?_ | refine JX.normal_block ?_)
    refine J.sel [0, 2, 4, 5, 7, 11, 12, 13] (.cons rfl (.cons rfl (.cons rfl (.cons rfl (.cons rfl (.cons rfl (.cons rfl (.cons rfl .nil)))))))) ?_
    repeat refine J.seq ?_
    refine J.plain ?_
    refine JO.t (ob_move rfl) rfl ?_
    refine JO.t (ob_sub rfl rfl) rfl ?_
    refine JO.t (ob_convII ⟨_, un_uint8⟩ un_int64 rfl) rfl ?_
    refine JO.t (ob_assign rfl) rfl ?_
    refine JO.nil ?_
    repeat (first | refine JX.next ?_ | refine JX.normal_block ?_)
    refine J.sel [0, 2, 4, 5, 8, 11, 12, 13] (.cons rfl (.cons rfl (.cons rfl (.cons rfl (.cons rfl (.cons rfl (.cons rfl (.cons rfl .nil)))))))) ?_
    repeat refine J.seq ?_
    refine J.plain ?_
    refine JO.t (ob_move rfl) rfl ?_
    refine JO.t (ob_move rfl) rfl ?_
    refine JO.t (ob_sub rfl rfl) rfl ?_
    refine JO.t (ob_quo rfl rfl (by decide)) rfl ?_
    refine JO.t (ob_gtr rfl rfl) rfl ?_
    refine JO.nil ?_
    repeat (first | refine JX.next ?_ | refine JX.normal_block ?_)
    refine J.sel [0, 2, 4, 5, 8, 11, 12, 13, 24] (.cons rfl (.cons rfl (.cons rfl (.cons rfl (.cons rfl (.cons rfl (.cons rfl (.cons rfl (.cons rfl .nil))))))))) ?_
    repeat refine J.seq ?_
    refine J.cond rfl (fun ht24 => ?_) (fun ht24 => ?_)
    ·
      try simp only [decide_eq_true_eq, decide_eq_false_iff_not] at ht24
      repeat refine J.seq ?_
      refine J.plain ?_
      refine JO.t (ob_assign rfl) rfl ?_
      refine JO.nil ?_
      repeat (first | refine JX.next ?_ | refine JX.normal_block ?_)
      refine J.sel [0, 2, 4, 5, 8, 11, 12, 13] (.cons rfl (.cons rfl (.cons rfl (.cons rfl (.cons rfl (.cons rfl (.cons rfl (.cons rfl .nil)))))))) ?_
      repeat refine J.seq ?_
      refine J.plain ?_
      refine JO.t (ob_move rfl) rfl ?_
      refine JO.t (ob_mul rfl rfl) rfl ?_
      refine JO.t (ob_move rfl) rfl ?_
      refine JO.t (ob_add rfl rfl) rfl ?_
      refine JO.t (ob_assign rfl) rfl ?_
      refine JO.nil ?_
      repeat (first | refine JX.next ?_ | refine JX.normal_block ?_)
      refine J.sel [0, 2, 4, 5, 11, 12, 13] (.cons rfl (.cons rfl (.cons rfl (.cons rfl (.cons rfl (.cons rfl (.cons rfl .nil))))))) ?_
      repeat refine J.seq ?_
      refine J.plain ?_
      refine JO.t (ob_addc (cc := ((k + 1 : Nat) : Int)) rfl rfl (by omega) (by omega) (by omega)) rfl ?_
      refine JO.t (ob_move rfl) rfl ?_
      refine JO.nil ?_
      repeat refine JX.normal_block ?_
      refine JX.roundG (x := ⟨k, m, e⟩) (k + 1, (numStep (m, e) (((dr s n).take (runN digB (dr s n))).getD k 0)).1, 35) ?_ ?_ [0, 2, 4, 5, 11, 12, 13] ?_ ?_ ?_ ?_
      · exact ⟨by omega, by rw [fold_take numStep (by omega), hf]; simp only [numStep]; rw [if_pos (decide_eq_true ht24)]⟩
      · exact (by simp only; omega)
      · exact (.cons rfl (.cons rfl (.cons rfl (.cons rfl (.cons rfl (.cons rfl (.cons rfl .nil)))))))
      · repeat (first | exact .all | exact .nil | refine Has.own (by repeat (first | exact .here | apply Tl.past | apply Tl.there)) ?_ | refine Has.cons (by repeat (first | exact .here | apply Pk.past | apply Pk.there)) ?_)
      · exact fun G hG => by repeat (first | exact hG | refine List.mem_cons_of_mem _ ?_)
      · exact fun _ _ _ => fun _ _ => trivial
    ·
      try simp only [decide_eq_true_eq, decide_eq_false_iff_not] at ht24
      refine J.skip ?_
      repeat (first | refine JX.next ?_ | refine JX.normal_block ?_)
      repeat refine J.seq ?_
      refine J.plain ?_
      refine JO.t (ob_move rfl) rfl ?_
      refine JO.t (ob_mul rfl rfl) rfl ?_
      refine JO.t (ob_move rfl) rfl ?_
      refine JO.t (ob_add rfl rfl) rfl ?_
      refine JO.t (ob_assign rfl) rfl ?_
      refine JO.nil ?_
      repeat (first | refine JX.next ?_ | refine JX.normal_block ?_)
      refine J.sel [0, 2, 4, 5, 11, 12, 13] (.cons rfl (.cons rfl (.cons rfl (.cons rfl (.cons rfl (.cons rfl (.cons rfl .nil))))))) ?_
      repeat refine J.seq ?_
      refine J.plain ?_
      refine JO.t (ob_addc (cc := ((k + 1 : Nat) : Int)) rfl rfl (by omega) (by omega) (by omega)) rfl ?_
      refine JO.t (ob_move rfl) rfl ?_
      refine JO.nil ?_
      repeat refine JX.normal_block ?_
      refine JX.roundG (x := ⟨k, m, e⟩) (k + 1, (numStep (m, e) (((dr s n).take (runN digB (dr s n))).getD k 0)).1, e) ?_ ?_ [0, 2, 4, 5, 11, 12, 13] ?_ ?_ ?_ ?_
      · exact ⟨by omega, by rw [fold_take numStep (by omega), hf]; simp only [numStep]; rw [if_neg (by rw [decide_eq_false ht24]; simp)]⟩
      · exact (by simp only; omega)
      · exact (.cons rfl (.cons rfl (.cons rfl (.cons rfl (.cons rfl (.cons rfl (.cons rfl .nil)))))))
      · repeat (first | exact .all | exact .nil | refine Has.own (by repeat (first | exact .here | apply Tl.past | apply Tl.there)) ?_ | refine Has.cons (by repeat (first | exact .here | apply Pk.past | apply Pk.there)) ?_)
      · exact fun G hG => by repeat (first | exact hG | refine List.mem_cons_of_mem _ ?_)
      · exact fun _ _ _ => fun _ _ => trivial
  ·
    try simp only [decide_eq_true_eq, decide_eq_false_iff_not] at ht14
    repeat refine J.seq ?_
    refine J.exit ?_
    repeat (first | refine JX.hit ?_ | refine JX.miss rfl ?_ | refine JX.exit_pass ?_)
    repeat (first | refine JX.next ?_ | refine JX.normal_block ?_)
    have hfe : ((dr s n).take (runN digB (dr s n))).foldl numStep (0, 0) = (m, e) := (by have h1 : ((dr s n).take (runN digB (dr s n))).take k = ((dr s n).take (runN digB (dr s n))) := List.take_of_length_le (by omega); rw [h1] at hf; exact hf)
    have hh : headP letB ((dr s n).drop (runN digB (dr s n))) = (decide (((n + runN digB (dr s n) : Nat) : Int) < s.size) && letterF (sb s (n + runN digB (dr s n)))) := by rw [dr_drop]; exact head_dr letB s _
    repeat refine J.seq ?_
    refine J.reg0 hmx (by kernel_rfl) (by kernel_rfl) ?_
    refine RT.t (ob_move rfl) ?_
    refine RT.t (ob_nilCheck rfl) ?_
    refine RT.t (ob_fieldAddr fo_lex_scanner_1 rfl) ?_
    refine RT.t (ob_ld1 sz_int rfl rfl) ?_
    refine RT.t (ob_move rfl) ?_
    refine RT.t (ob_nilCheck rfl) ?_
    refine RT.t (ob_fieldAddr fo_lex_scanner_0 rfl) ?_
    refine RT.t (ob_ld1 sz_string rfl rfl) ?_
    refine RT.t (ob_slen un_string rfl) ?_
    refine RT.t (ob_lss rfl rfl) ?_
    refine RT.t (ob_move rfl) ?_
    refine RT.g rfl rfl rfl (fun hg => ob_move (.inl rfl)) ?_
    refine RT.g rfl rfl rfl (fun hg => ob_nilCheck (.inr ⟨_, rfl, fun h => h⟩)) ?_
    refine RT.g rfl rfl rfl (fun hg => ob_fieldAddr fo_lex_scanner_0 (.inr ⟨_, rfl, fun h => h⟩)) ?_
    refine RT.g rfl rfl rfl (fun hg => ob_ld1 sz_string (.inr ⟨_, rfl, fun h => h⟩) rfl) ?_
    refine RT.g rfl rfl rfl (fun hg => ob_move (.inl rfl)) ?_
    refine RT.g rfl rfl rfl (fun hg => ob_nilCheck (.inr ⟨_, rfl, fun h => h⟩)) ?_
    refine RT.g rfl rfl rfl (fun hg => ob_fieldAddr fo_lex_scanner_1 (.inr ⟨_, rfl, fun h => h⟩)) ?_
    refine RT.g rfl rfl rfl (fun hg => ob_ld1 sz_int (.inr ⟨_, rfl, fun h => h⟩) rfl) ?_
    refine RT.g rfl rfl rfl (fun hg => ob_sindex un_string (.inr ⟨_, rfl, fun h => h⟩) (.inr ⟨_, rfl, fun h => h⟩) (by have h := hg; simp only [decide_eq_true_eq] at h; omega) (by have h := hg; simp only [decide_eq_true_eq] at h; omega)) ?_
    refine RT.g rfl rfl rfl (fun hg => ob_call (.inl rfl) (c_lex_letter (sb s (n + runN digB (dr s n)))) (.one (.inr ⟨_, rfl, fun h => h⟩) .nil)) ?_
    refine RT.t (ob_pickAnd rfl rfl rfl id) ?_
    refine RT.nil ?_
    refine FinS.nil0 ?_
    repeat (first | refine JX.next ?_ | refine JX.normal_block ?_)
    refine J.sel [2, 4, 5, 51] (.cons rfl (.cons rfl (.cons rfl (.cons rfl .nil)))) ?_
    repeat refine J.seq ?_
    refine J.cond rfl (fun ht51 => ?_) (fun ht51 => ?_)
    ·
      try simp only [decide_eq_true_eq, decide_eq_false_iff_not] at ht51
      repeat refine J.seq ?_
      refine J.plain ?_
      refine JO.t (ob_assign rfl) rfl ?_
      refine JO.nil ?_
      repeat (first | refine JX.next ?_ | refine JX.normal_block ?_)
      refine J.sel [2, 4, 5] (.cons rfl (.cons rfl (.cons rfl .nil))) ?_
      repeat refine J.seq ?_
      refine J.plain ?_
      refine JO.t (ob_move rfl) rfl ?_
      refine JO.t (ob_neq rfl rfl) rfl ?_
      refine JO.nil ?_
      repeat (first | refine JX.next ?_ | refine JX.normal_block ?_)
      refine J.sel [2, 4, 5, 53] (.cons rfl (.cons rfl (.cons rfl (.cons rfl .nil)))) ?_
      repeat refine J.seq ?_
      refine J.cond rfl (fun ht53 => ?_) (fun ht53 => ?_)
      ·
        try simp only [decide_eq_true_eq, decide_eq_false_iff_not] at ht53
        repeat refine J.seq ?_
        refine J.plain ?_
        refine JO.t (ob_build (cs := [_, _, _]) sh_api_Token .nil rfl rfl) rfl ?_
        refine JO.t (ob_move rfl) rfl ?_
        refine JO.m (obm_store rfl rfl (by repeat (first | exact .here | apply Upd.there)) (by first | exact cnt_is rfl rfl | exact cnt_ex) (by first | exact cnt_is rfl rfl | exact cnt_ex | exact cnt_aggO) ss_api_Token) (by rfl) ?_
        refine JO.t (ob_assign rfl) rfl ?_
        refine JO.nil ?_
        repeat (first | refine JX.next ?_ | refine JX.normal_block ?_)
        refine J.sel [2, 3] (.cons rfl (.cons rfl .nil)) ?_
        repeat refine J.seq ?_
        refine J.ret ?_
        repeat (first | refine JX.ret_pass ?_ | refine JX.ret_block ?_)
        exact JX.retMC1is rfl HasOwn.mem rfl sz_api_Token HasOwn.mem rfl rfl (by have hE : numE (dr s n) = 30 := (by unfold numE; rw [hh]; rw [if_pos ht51]); unfold numL; rw [hE, if_pos ht53]; rfl) (by have hE : numE (dr s n) = 30 := (by unfold numE; rw [hh]; rw [if_pos ht51]); unfold numL; rw [hE, if_pos ht53]) (by rfl)
      ·
        try simp only [decide_eq_true_eq, decide_eq_false_iff_not] at ht53
        refine J.skip ?_
        repeat (first | refine JX.next ?_ | refine JX.normal_block ?_)
        repeat refine J.seq ?_
        refine J.plain ?_
        refine JO.t (ob_move rfl) rfl ?_
        refine JO.t (ob_build (cs := [_, _, _]) sh_api_Token (.cons rfl (.cons rfl .nil)) rfl rfl) rfl ?_
        refine JO.m (obm_store rfl rfl (by repeat (first | exact .here | apply Upd.there)) (by first | exact cnt_is rfl rfl | exact cnt_ex) (by first | exact cnt_is rfl rfl | exact cnt_ex | exact cnt_aggO) ss_api_Token) (by rfl) ?_
        refine JO.t (ob_assign rfl) rfl ?_
        refine JO.nil ?_
        repeat (first | refine JX.next ?_ | refine JX.normal_block ?_)
        refine J.sel [2, 3] (.cons rfl (.cons rfl .nil)) ?_
        repeat refine J.seq ?_
        refine J.ret ?_
        repeat (first | refine JX.ret_pass ?_ | refine JX.ret_block ?_)
        exact JX.retMC1is rfl HasOwn.mem rfl sz_api_Token HasOwn.mem rfl rfl (by have hE : numE (dr s n) = 30 := (by unfold numE; rw [hh]; rw [if_pos ht51]); unfold numL; rw [hE, if_neg (by rw [ht53]; simp), hfe]) (by have hE : numE (dr s n) = 30 := (by unfold numE; rw [hh]; rw [if_pos ht51]); unfold numL; rw [hE, if_neg (by rw [ht53]; simp)]) (by rfl)
    ·
      try simp only [decide_eq_true_eq, decide_eq_false_iff_not] at ht51
      refine J.skip ?_
      repeat (first | refine JX.next ?_ | refine JX.normal_block ?_)
      repeat refine J.seq ?_
      refine J.plain ?_
      refine JO.t (ob_move rfl) rfl ?_
      refine JO.t (ob_neq rfl rfl) rfl ?_
      refine JO.nil ?_
      repeat (first | refine JX.next ?_ | refine JX.normal_block ?_)
      refine J.sel [2, 4, 5, 53] (.cons rfl (.cons rfl (.cons rfl (.cons rfl .nil)))) ?_
      repeat refine J.seq ?_
      refine J.cond rfl (fun ht53 => ?_) (fun ht53 => ?_)
      ·
        try simp only [decide_eq_true_eq, decide_eq_false_iff_not] at ht53
        repeat refine J.seq ?_
        refine J.plain ?_
        refine JO.t (ob_build (cs := [_, _, _]) sh_api_Token .nil rfl rfl) rfl ?_
        refine JO.t (ob_move rfl) rfl ?_
        refine JO.m (obm_store rfl rfl (by repeat (first | exact .here | apply Upd.there)) (by first | exact cnt_is rfl rfl | exact cnt_ex) (by first | exact cnt_is rfl rfl | exact cnt_ex | exact cnt_aggO) ss_api_Token) (by rfl) ?_
        refine JO.t (ob_assign rfl) rfl ?_
        refine JO.nil ?_
        repeat (first | refine JX.next ?_ | refine JX.normal_block ?_)
        refine J.sel [2, 3] (.cons rfl (.cons rfl .nil)) ?_
        repeat refine J.seq ?_
        refine J.ret ?_
        repeat (first | refine JX.ret_pass ?_ | refine JX.ret_block ?_)
        exact JX.retMC1is rfl HasOwn.mem rfl sz_api_Token HasOwn.mem rfl rfl (by have hE : numE (dr s n) = e := (by unfold numE; rw [hh]; rw [if_neg (by rw [ht51]; simp), hfe]); unfold numL; rw [hE, if_pos ht53]; rfl) (by have hE : numE (dr s n) = e := (by unfold numE; rw [hh]; rw [if_neg (by rw [ht51]; simp), hfe]); unfold numL; rw [hE, if_pos ht53]) (by rfl)
      ·
        try simp only [decide_eq_true_eq, decide_eq_false_iff_not] at ht53
        refine J.skip ?_
        repeat (first | refine JX.next ?_ | refine JX.normal_block ?_)
        repeat refine J.seq ?_
        refine J.plain ?_
        refine JO.t (ob_move rfl) rfl ?_
        refine JO.t (ob_build (cs := [_, _, _]) sh_api_Token (.cons rfl (.cons rfl .nil)) rfl rfl) rfl ?_
        refine JO.m (obm_store rfl rfl (by repeat (first | exact .here | apply Upd.there)) (by first | exact cnt_is rfl rfl | exact cnt_ex) (by first | exact cnt_is rfl rfl | exact cnt_ex | exact cnt_aggO) ss_api_Token) (by rfl) ?_
        refine JO.t (ob_assign rfl) rfl ?_
        refine JO.nil ?_
        repeat (first | refine JX.next ?_ | refine JX.normal_block ?_)
        refine J.sel [2, 3] (.cons rfl (.cons rfl .nil)) ?_
        repeat refine J.seq ?_
        refine J.ret ?_
        repeat (first | refine JX.ret_pass ?_ | refine JX.ret_block ?_)
        exact JX.retMC1is rfl HasOwn.mem rfl sz_api_Token HasOwn.mem rfl rfl (by have hE : numE (dr s n) = e := (by unfold numE; rw [hh]; rw [if_neg (by rw [ht51]; simp), hfe]); unfold numL; rw [hE, if_neg (by rw [ht53]; simp), hfe]) (by have hE : numE (dr s n) = e := (by unfold numE; rw [hh]; rw [if_neg (by rw [ht51]; simp), hfe]); unfold numL; rw [hE, if_neg (by rw [ht53]; simp)]) (by rfl)
theorem c_p_lex_scanner_sign (s : ByteArray) (n : Nat) (hn : n < s.size) (hs : s.size ≤ 2048) : CallM Tryd.prog f_p_lex_scanner_sign ty_lex_scanner (sv s n) [GF] [] (sv s (n + (signL (dr s n)).2)) (.tup2 (.is (tv (signL (dr s n)).1.1)) (.is (.int .i64 (signL (dr s n)).1.2))) :=
CallM.of (fn := Tryd.f31) Tryd.func31 (n := 66) rfl rfl rfl (fun _ _ => by kernel_rfl) fun E W b0 => by
  repeat refine J.seq ?_
  refine J.plain ?_
  refine JO.alloc zo_api_Token rfl fun b2 => ?_
  refine JO.t (ob_assign rfl) rfl ?_
  refine JO.nil ?_
  repeat (first | refine JX.next ?_ | refine JX.normal_block ?_)
  refine J.sel [0, 2] (.cons rfl (.cons rfl .nil)) ?_
  repeat refine J.seq ?_
  refine J.plain ?_
  refine JO.t (ob_assign rfl) rfl ?_
  refine JO.nil ?_
  repeat (first | refine JX.next ?_ | refine JX.normal_block ?_)
  refine J.sel [0, 2, 4] (.cons rfl (.cons rfl (.cons rfl .nil))) ?_
  repeat refine J.seq ?_
  refine J.block ?_
  repeat refine J.seq ?_
  refine J.loopG (α := Nat) (fun q => [(0, .is (.pointer (some ⟨b0, 0, none⟩))), (2, .is (.pointer (some ⟨b2, 0, none⟩))), (4, .is (.int .i64 (q : Nat)))]) (fun q => [⟨b2, ty_api_Token, .is (tv t3D)⟩, ⟨b0, ty_lex_scanner, .is (sv s n)⟩]) (fun q => fun _ => True) (fun q => q ≤ 2 ∧ (q < 2 → tryL (dr s n) 2 = false) ∧ (q < 1 → tryL (dr s n) 1 = false)) (fun q => q) 2 [0, 2, 4] (.cons rfl (.cons rfl (.cons rfl .nil))) rfl (fun _ => trivial) ⟨by omega, fun h => absurd h (by omega), fun h => absurd h (by omega)⟩ fun q ⟨hq, h2, h1⟩ => ?_
  try dsimp only
  try dsimp only at hq
  try dsimp only at h2
  try dsimp only at h1
  repeat refine J.seq ?_
  refine J.plain ?_
  refine JO.t (ob_move rfl) rfl ?_
  refine JO.t (ob_gtr rfl rfl) rfl ?_
  refine JO.nil ?_
  repeat (first | refine JX.next ?_ | refine JX.normal_block ?_)
  refine J.sel [0, 2, 4, 6] (.cons rfl (.cons rfl (.cons rfl (.cons rfl .nil)))) ?_
  repeat refine J.seq ?_
  refine J.cond rfl (fun ht6 => ?_) (fun ht6 => ?_)
  ·
    try simp only [decide_eq_true_eq, decide_eq_false_iff_not] at ht6
    refine J.skip ?_
    repeat (first | refine JX.next ?_ | refine JX.normal_block ?_)
    repeat refine J.seq ?_
    refine J.block ?_
    repeat refine J.seq ?_
    refine J.reg0 hmx (by kernel_rfl) (by kernel_rfl) ?_
    refine RT.t (ob_move rfl) ?_
    refine RT.t (ob_nilCheck rfl) ?_
    refine RT.t (ob_fieldAddr fo_lex_scanner_1 rfl) ?_
    refine RT.t (ob_ld1 sz_int rfl rfl) ?_
    refine RT.t (ob_move rfl) ?_
    refine RT.t (ob_addc (cc := ((n + q : Nat) : Int)) rfl rfl (by omega) (by omega) (by omega)) ?_
    refine RT.t (ob_move rfl) ?_
    refine RT.t (ob_nilCheck rfl) ?_
    refine RT.t (ob_fieldAddr fo_lex_scanner_0 rfl) ?_
    refine RT.t (ob_ld1 sz_string rfl rfl) ?_
    refine RT.t (ob_slen un_string rfl) ?_
    refine RT.t (ob_leq rfl rfl) ?_
    refine RT.t (ob_move rfl) ?_
    refine RT.g rfl rfl rfl (fun hg => ob_move (.inl rfl)) ?_
    refine RT.g rfl rfl rfl (fun hg => ob_nilCheck (.inr ⟨_, rfl, fun h => h⟩)) ?_
    refine RT.g rfl rfl rfl (fun hg => ob_fieldAddr fo_lex_scanner_0 (.inr ⟨_, rfl, fun h => h⟩)) ?_
    refine RT.g rfl rfl rfl (fun hg => ob_ld1 sz_string (.inr ⟨_, rfl, fun h => h⟩) rfl) ?_
    refine RT.g rfl rfl rfl (fun hg => ob_move (.inl rfl)) ?_
    refine RT.g rfl rfl rfl (fun hg => ob_nilCheck (.inr ⟨_, rfl, fun h => h⟩)) ?_
    refine RT.g rfl rfl rfl (fun hg => ob_fieldAddr fo_lex_scanner_1 (.inr ⟨_, rfl, fun h => h⟩)) ?_
    refine RT.g rfl rfl rfl (fun hg => ob_ld1 sz_int (.inr ⟨_, rfl, fun h => h⟩) rfl) ?_
    refine RT.g rfl rfl rfl (fun hg => ob_move (.inl rfl)) ?_
    refine RT.g rfl rfl rfl (fun hg => ob_nilCheck (.inr ⟨_, rfl, fun h => h⟩)) ?_
    refine RT.g rfl rfl rfl (fun hg => ob_fieldAddr fo_lex_scanner_1 (.inr ⟨_, rfl, fun h => h⟩)) ?_
    refine RT.g rfl rfl rfl (fun hg => ob_ld1 sz_int (.inr ⟨_, rfl, fun h => h⟩) rfl) ?_
    refine RT.g rfl rfl rfl (fun hg => ob_move (.inl rfl)) ?_
    refine RT.g rfl rfl rfl (fun hg => ob_addc (cc := ((n + q : Nat) : Int)) (.inr ⟨_, rfl, fun h => h⟩) (.inr ⟨_, rfl, fun h => h⟩) (by omega) (by omega) (by omega)) ?_
    refine RT.g rfl rfl rfl (fun hg => ob_sslice un_string (.inr ⟨_, rfl, fun h => h⟩) (.inr ⟨_, rfl, fun h => h⟩) (.inr ⟨_, rfl, fun h => h⟩) (by omega) (by omega) (by have h := hg; simp only [decide_eq_true_eq] at h; omega)) ?_
    refine RT.g rfl rfl rfl (fun hg => ob_sadd (.inl rfl) (.inr ⟨_, rfl, fun h => h⟩) (sz_pad1 (by have h1 := ext_size s n q; show (s.extract n (n + q)).size ≤ 2048; omega))) ?_
    refine RT.g rfl rfl rfl (fun hg => ob_sadd (.inr ⟨_, rfl, fun h => h⟩) (.inl rfl) (sz_pad2 (by have h1 := ext_size s n q; show (s.extract n (n + q)).size ≤ 2048; omega))) ?_
    refine RT.g rfl rfl rfl (fun hg => ob_callF (.inl rfl) (c_strings_Contains sgB ((sp1 ++ s.extract n (n + q)) ++ sp1) (by decide)) (by simp) (.one (.inl rfl) (.one (.inr ⟨_, rfl, fun h => h⟩) .nil))) ?_
    refine RT.t (ob_pickAnd rfl rfl rfl id) ?_
    refine RT.nil ?_
    refine FinS.nil0 ?_
    repeat (first | refine JX.next ?_ | refine JX.normal_block ?_)
    refine J.sel [0, 2, 4, 40] (.cons rfl (.cons rfl (.cons rfl (.cons rfl .nil)))) ?_
    repeat refine J.seq ?_
    refine J.cond rfl (fun ht40 => ?_) (fun ht40 => ?_)
    ·
      try simp only [decide_eq_true_eq, decide_eq_false_iff_not] at ht40
      have ht1 : tryL (dr s n) q = true := (try_eq hn q).trans ht40
      have hsg : signL (dr s n) = ((⟨5, bl ((dr s n).take q), 0⟩, 0), q) := by
        unfold signL
        rcases (show q = 1 ∨ q = 2 by omega) with rfl | rfl
        · rw [if_neg (by rw [h2 (by omega)]; simp), if_pos ht1]
        · rw [if_pos ht1]
      have hfit : n + q ≤ s.size := by have h := ht40; simp only [Bool.and_eq_true, decide_eq_true_eq] at h; omega
      repeat refine J.seq ?_
      refine J.plain ?_
      refine JO.t (ob_move rfl) rfl ?_
      refine JO.t (ob_nilCheck rfl) rfl ?_
      refine JO.t (ob_fieldAddr fo_lex_scanner_1 rfl) rfl ?_
      refine JO.t (ob_ld1 sz_int rfl rfl) rfl ?_
      refine JO.t (ob_move rfl) rfl ?_
      refine JO.t (ob_addc (cc := ((n + q : Nat) : Int)) rfl rfl (by omega) (by omega) (by omega)) rfl ?_
      refine JO.t (ob_nilCheck rfl) rfl ?_
      refine JO.t (ob_fieldAddr fo_lex_scanner_1 rfl) rfl ?_
      refine JO.m (obm_storeF (cs' := [_, _]) rfl rfl (by repeat (first | exact .here | apply Upd.there)) rfl rfl rfl rfl ss_int) (by rfl) ?_
      refine JO.nil ?_
      repeat (first | refine JX.next ?_ | refine JX.normal_block ?_)
      refine J.sel [0, 2, 4] (.cons rfl (.cons rfl (.cons rfl .nil))) ?_
      repeat refine J.seq ?_
      refine J.front b2 (by repeat (first | exact .here | apply Front.there)) ?_
      refine J.reg1 hmx (by kernel_rfl) (by kernel_rfl) ?_
      refine RT.t (ob_move rfl) ?_
      refine RT.t (ob_nilCheck rfl) ?_
      refine RT.t (ob_fieldAddr fo_lex_scanner_0 rfl) ?_
      refine RT.t (ob_ld1 sz_string rfl rfl) ?_
      refine RT.t (ob_move rfl) ?_
      refine RT.t (ob_nilCheck rfl) ?_
      refine RT.t (ob_fieldAddr fo_lex_scanner_1 rfl) ?_
      refine RT.t (ob_ld1 sz_int rfl rfl) ?_
      refine RT.t (ob_move rfl) ?_
      refine RT.t (ob_subc (cc := (n : Int)) rfl rfl (by omega) (by omega) (by omega)) ?_
      refine RT.t (ob_move rfl) ?_
      refine RT.t (ob_nilCheck rfl) ?_
      refine RT.t (ob_fieldAddr fo_lex_scanner_1 rfl) ?_
      refine RT.t (ob_ld1 sz_int rfl rfl) ?_
      refine RT.t (ob_sslice un_string rfl rfl rfl (by omega) (by omega) (by omega)) ?_
      refine RT.t (ob_build (cs := [_, _, _]) sh_api_Token (.cons rfl (.cons rfl .nil)) rfl rfl) ?_
      refine RT.m rfl (obm_store rfl rfl (by repeat (first | exact .here | apply Upd.there)) (by first | exact cnt_is rfl rfl | exact cnt_ex) (by first | exact cnt_is rfl rfl | exact cnt_ex | exact cnt_aggO) ss_api_Token) (by rfl) ?_
      refine RT.t (ob_assign rfl) ?_
      refine RT.nil ?_
      refine FinS.nil1 ?_
      repeat (first | refine JX.next ?_ | refine JX.normal_block ?_)
      refine J.sel [2, 3] (.cons rfl (.cons rfl .nil)) ?_
      repeat refine J.seq ?_
      refine J.ret ?_
      repeat (first | refine JX.ret_pass ?_ | refine JX.ret_block ?_)
      exact JX.retMC1is rfl HasOwn.mem rfl sz_api_Token HasOwn.mem rfl rfl (by rw [hsg]; show Value.agg #[.int .i64 5, .string (s.extract n (n + q)), .int .i64 0] = _; rw [ext_eq]) (by rw [hsg]) (by rw [hsg])
    ·
      try simp only [decide_eq_true_eq, decide_eq_false_iff_not] at ht40
      refine J.skip ?_
      repeat (first | refine JX.next ?_ | refine JX.normal_block ?_)
      have ht2 : tryL (dr s n) q = false := (try_eq hn q).trans ht40
      repeat refine J.seq ?_
      refine J.plain ?_
      refine JO.t (ob_move rfl) rfl ?_
      refine JO.t (ob_subc (cc := ((q - 1 : Nat) : Int)) rfl rfl (by omega) (by omega) (by omega)) rfl ?_
      refine JO.t (ob_assign rfl) rfl ?_
      refine JO.nil ?_
      repeat refine JX.normal_block ?_
      refine JX.roundG (x := q) (q - 1) ?_ ?_ [0, 2, 4] ?_ ?_ ?_ ?_
      · exact ⟨by omega, fun h => (by rcases (show q = 1 ∨ q = 2 by omega) with rfl | rfl; exact h2 (by omega); exact ht2), fun h => (by have : q = 1 := (by omega); subst this; exact ht2)⟩
      · exact (by omega)
      · exact (.cons rfl (.cons rfl (.cons rfl .nil)))
      · repeat (first | exact .all | exact .nil | refine Has.own (by repeat (first | exact .here | apply Tl.past | apply Tl.there)) ?_ | refine Has.cons (by repeat (first | exact .here | apply Pk.past | apply Pk.there)) ?_)
      · exact fun G hG => by repeat (first | exact hG | refine List.mem_cons_of_mem _ ?_)
      · exact fun _ _ _ => fun _ _ => trivial
  ·
    try simp only [decide_eq_true_eq, decide_eq_false_iff_not] at ht6
    repeat refine J.seq ?_
    refine J.exit ?_
    repeat (first | refine JX.hit ?_ | refine JX.miss rfl ?_ | refine JX.exit_pass ?_)
    repeat (first | refine JX.next ?_ | refine JX.normal_block ?_)
    have hsg : signL (dr s n) = ((t3D, 30), 0) := by unfold signL; rw [if_neg (by rw [h2 (by omega)]; simp), if_neg (by rw [h1 (by omega)]; simp)]
    repeat refine J.seq ?_
    refine J.plain ?_
    refine JO.t (ob_build (cs := [_, _, _]) sh_api_Token .nil rfl rfl) rfl ?_
    refine JO.m (obm_store rfl rfl (by repeat (first | exact .here | apply Upd.there)) (by first | exact cnt_is rfl rfl | exact cnt_ex) (by first | exact cnt_is rfl rfl | exact cnt_ex | exact cnt_aggO) ss_api_Token) (by rfl) ?_
    refine JO.t (ob_assign rfl) rfl ?_
    refine JO.nil ?_
    repeat (first | refine JX.next ?_ | refine JX.normal_block ?_)
    refine J.sel [2, 3] (.cons rfl (.cons rfl .nil)) ?_
    repeat refine J.seq ?_
    refine J.ret ?_
    repeat (first | refine JX.ret_pass ?_ | refine JX.ret_block ?_)
    exact JX.retMC1is rfl HasOwn.mem rfl sz_api_Token HasOwn.mem rfl rfl (by rw [hsg]; rfl) (by rw [hsg]) (by rw [hsg]; rfl)
end Go.Proofs.YtjjgckmdfblmgaaDoor
