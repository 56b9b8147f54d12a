/- The document's scanner: words and texts. No condition. -/
import Derived.Test.YtjjgckmdfblmgaaDoorXRI
import Derived.Test.YtjjgckmdfblmgaaDoorXG4
set_option maxRecDepth 20000
namespace Go.Proofs.YtjjgckmdfblmgaaDoor
open Go Go.Vc
theorem c_up (w : ByteArray) (hs : w.size ≤ 2048) : CallTy Tryd.prog f_ref09_upper [.is (.string w), .is (.int .u8 97), .is (.int .u8 122), .is (.int .i64 (-32))] (.is (.string (bl (Lib.toUpperA w.data.toList)))) := by
  have h := c_ref09_upper w 97 122 (-32) hs
  rwa [show w.data.toList.map (upF 97 122 (-32)) = Lib.toUpperA w.data.toList from List.map_congr_left fun b _ => up_upper b] at h
theorem c_low (w : ByteArray) (hs : w.size ≤ 2048) : CallTy Tryd.prog f_ref09_upper [.is (.string w), .is (.int .u8 65), .is (.int .u8 90), .is (.int .i64 32)] (.is (.string (bl (Lib.toLowerA w.data.toList)))) := by
  have h := c_ref09_upper w 65 90 32 hs
  rwa [show w.data.toList.map (upF 65 90 32) = Lib.toLowerA w.data.toList from List.map_congr_left fun b _ => up_lower b] at h
theorem quo_two' {s : ByteArray} {i : Nat} {acc : List UInt8} (hi : i < s.size) (hb : (((by_ s i).toNat : Int) != 39) = false) (hc : (decide (((i + 1 : Nat) : Int) < (s.size : Int)) && (((by_ s (i + 1)).toNat : Int) == 39)) = true) :
    quoF (dr s i) acc = (quoF (dr s (i + 2)) (acc ++ [39])).map fun r => (r.1, r.2 + 2) := by
  rw [Bool.and_eq_true, decide_eq_true_eq, q39] at hc
  exact quo_two (by omega) acc (beq39 hb) hc.2
theorem quo_out' {s : ByteArray} {i n : Nat} {acc : List UInt8} (hi : i < s.size) (hb : (((by_ s i).toNat : Int) != 39) = false) (hc : (decide (((i + 1 : Nat) : Int) < (s.size : Int)) && (((by_ s (i + 1)).toNat : Int) == 39)) = false)
    (hr : (quoF (dr s i) acc).map (fun r => (r.1, i + r.2)) = quoP s n) : quoP s n = some (acc, i + 1) := by
  rw [q39] at hc
  rw [← hr, quo_out hi acc (beq39 hb) hc]
  rfl
theorem quo_end {s : ByteArray} {i n : Nat} {acc : List UInt8} (hi : s.size ≤ i) (hr : (quoF (dr s i) acc).map (fun r => (r.1, i + r.2)) = quoP s n) : quoP s n = none := by
  rw [← hr, dr_nil hi]
  rfl
theorem word_hit {w : ByteArray} {i : Nat} (hw : ∀ b ∈ w.data.toList, wordB b = true) (hi : i < wordsB.length) (h : seq (wordsB.getD i ⟨#[]⟩) (bl (Lib.toUpperA w.data.toList)) = true) : wordL w.data.toList = (⟨1, bl (Lib.toUpperA w.data.toList), 0⟩, 0) := by
  unfold wordL
  rw [kw_words (upper_nosp hw), if_pos (any_hit (p := fun s => seq s (bl (Lib.toUpperA w.data.toList))) ⟨#[]⟩ hi h)]
theorem word_miss {w : ByteArray} {i : Nat} (hw : ∀ b ∈ w.data.toList, wordB b = true) (hi : wordsB.length ≤ i) (h : (wordsB.take i).any (fun s => seq s (bl (Lib.toUpperA w.data.toList))) = false) : wordL w.data.toList = if decide (32 < (w.size : Int)) then (t3D, 30) else (⟨2, bl (Lib.toLowerA w.data.toList), 0⟩, 0) := by
  unfold wordL
  rw [List.take_of_length_le hi] at h
  rw [kw_words (upper_nosp hw), h, len_bytes]
  rfl
theorem c_ref09_word (w : ByteArray) (hw : ∀ b ∈ w.data.toList, wordB b = true) (hs : w.size ≤ 2048) : CallTy Tryd.prog f_ref09_word [.is (.string w)] (.tup2 (.is (tv (wordL w.data.toList).1)) (.is (.int .i64 (wordL w.data.toList).2))) :=
  CallTy.of (fn := Tryd.f16) Tryd.func16 (n := 31) rfl rfl rfl (fun _ _ => by kernel_rfl) fun E W => by
  repeat refine J.seq ?_
  refine J.plain ?_
  refine JO.alloc zo_api_Token rfl fun b2 => ?_
  refine JO.t (ob_assign rfl) rfl ?_
  refine JO.nil ?_
  repeat (first | refine JX.next ?_ | refine JX.normal_block ?_)
  refine J.sel [0, 2] (.cons rfl (.cons rfl .nil)) ?_
  repeat refine J.seq ?_
  refine J.plain ?_
  refine JO.t (ob_move rfl) rfl ?_
  refine JO.t (ob_call rfl (c_up w hs) (.one rfl (.one rfl (.one rfl (.one rfl .nil))))) rfl ?_
  refine JO.t (ob_assign rfl) rfl ?_
  refine JO.nil ?_
  repeat (first | refine JX.next ?_ | refine JX.normal_block ?_)
  refine J.sel [0, 2, 4] (.cons rfl (.cons rfl (.cons rfl .nil))) ?_
  repeat refine J.seq ?_
  refine J.plain ?_
  refine JO.t (ob_call rfl (c_ref09_Words) .nil) rfl ?_
  refine JO.t (ob_assign rfl) rfl ?_
  refine JO.nil ?_
  repeat (first | refine JX.next ?_ | refine JX.normal_block ?_)
  refine J.sel [0, 2, 4, 5] (.cons rfl (.cons rfl (.cons rfl (.cons rfl .nil)))) ?_
  refine J.openSl (s := 5) rfl (fun a len cap b o hlen ha => ?_)
  subst hlen
  have w44 : wordsB.length = 44 := rfl
  repeat refine J.seq ?_
  refine J.plain ?_
  refine JO.t (ob_assign rfl) rfl ?_
  refine JO.nil ?_
  repeat (first | refine JX.next ?_ | refine JX.normal_block ?_)
  refine J.sel [0, 2, 4, 5, 6] (.cons rfl (.cons rfl (.cons rfl (.cons rfl (.cons rfl .nil))))) ?_
  repeat refine J.seq ?_
  refine J.block ?_
  repeat refine J.seq ?_
  refine J.loopG (α := Nat) (fun i => [(0, .is (.string w)), (2, .is (.pointer (some ⟨b2, 0, none⟩))), (4, .is (.string (bl (Lib.toUpperA w.data.toList)))), (5, .is (.slice a wordsB.length cap)), (6, .is (.int .i64 (i : Nat)))]) (fun i => [⟨b2, ty_api_Token, .is (tv t3D)⟩]) (fun i => fun _ => True) (fun i => i ≤ wordsB.length ∧ (wordsB.take i).any (fun s => seq s (bl (Lib.toUpperA w.data.toList))) = false) (fun i => wordsB.length - i) 0 [0, 2, 4, 5, 6] (.cons rfl (.cons rfl (.cons rfl (.cons rfl (.cons rfl .nil))))) rfl (fun _ => trivial) ⟨by omega, rfl⟩ fun i ⟨hi, hr⟩ => ?_
  try dsimp only
  try dsimp only at hi
  try dsimp only at hr
  repeat refine J.seq ?_
  refine J.plain ?_
  refine JO.t (ob_move rfl) rfl ?_
  refine JO.t (ob_move rfl) rfl ?_
  refine JO.t (ob_len un_sl_string rfl) rfl ?_
  refine JO.t (ob_lss rfl rfl) rfl ?_
  refine JO.nil ?_
  repeat (first | refine JX.next ?_ | refine JX.normal_block ?_)
  refine J.sel [0, 2, 4, 5, 6, 13] (.cons rfl (.cons rfl (.cons rfl (.cons rfl (.cons rfl (.cons rfl .nil)))))) ?_
  repeat refine J.seq ?_
  refine J.cond rfl (fun ht13 => ?_) (fun ht13 => ?_)
  ·
    try simp only [decide_eq_true_eq, decide_eq_false_iff_not] at ht13
    refine J.skip ?_
    repeat (first | refine JX.next ?_ | refine JX.normal_block ?_)
    repeat refine J.seq ?_
    refine J.block ?_
    repeat refine J.seq ?_
    refine J.plain ?_
    refine JO.t (ob_move rfl) rfl ?_
    refine JO.t (ob_move rfl) rfl ?_
    refine JO.t (ob_indexAddr el_sl_string rfl (ha (by omega)) rfl (by omega) (by omega)) rfl ?_
    refine JO.t (ob_loadG1 (enc := strC) (sz := 1) (len := wordsB.length) (i := i) (j := 0) (y := wordsB.getD i ⟨#[]⟩) sz_string rfl (by repeat (first | exact List.mem_cons_self | apply List.mem_cons_of_mem)) (ha (by omega)) (str_get (by omega)) (by simp) rfl) rfl ?_
    refine JO.t (ob_move rfl) rfl ?_
    refine JO.t (ob_seql rfl rfl) rfl ?_
    refine JO.nil ?_
    repeat (first | refine JX.next ?_ | refine JX.normal_block ?_)
    refine J.sel [0, 2, 4, 5, 6, 21] (.cons rfl (.cons rfl (.cons rfl (.cons rfl (.cons rfl (.cons rfl .nil)))))) ?_
    repeat refine J.seq ?_
    refine J.cond rfl (fun ht21 => ?_) (fun ht21 => ?_)
    ·
      try simp only [decide_eq_true_eq, decide_eq_false_iff_not] at ht21
      have hx := word_hit hw (i := i) (by omega) ht21
      repeat refine J.seq ?_
      refine J.plain ?_
      refine JO.t (ob_move rfl) rfl ?_
      refine JO.t (ob_build (cs := [_, _, _]) sh_api_Token (.cons rfl (.cons rfl .nil)) rfl rfl) rfl ?_
      refine JO.m (obm_store rfl rfl (by repeat (first | exact .here | apply Upd.there)) (by first | exact cnt_is rfl rfl | exact cnt_ex) (by first | exact cnt_is rfl rfl | exact cnt_ex | exact cnt_aggO) ss_api_Token) (by rfl) ?_
      refine JO.t (ob_assign rfl) rfl ?_
      refine JO.nil ?_
      repeat (first | refine JX.next ?_ | refine JX.normal_block ?_)
      refine J.sel [2, 3] (.cons rfl (.cons rfl .nil)) ?_
      repeat refine J.seq ?_
      refine J.ret ?_
      repeat (first | refine JX.ret_pass ?_ | refine JX.ret_block ?_)
      exact JX.retC1is rfl rfl sz_api_Token HasOwn.mem rfl rfl (by rw [hx]) (by rw [hx])
    ·
      try simp only [decide_eq_true_eq, decide_eq_false_iff_not] at ht21
      refine J.skip ?_
      repeat (first | refine JX.next ?_ | refine JX.normal_block ?_)
      repeat refine J.seq ?_
      refine J.plain ?_
      refine JO.t (ob_move rfl) rfl ?_
      refine JO.t (ob_addc (cc := ((i + 1 : Nat) : Int)) rfl rfl (by omega) (by omega) (by omega)) rfl ?_
      refine JO.t (ob_assign rfl) rfl ?_
      refine JO.nil ?_
      repeat refine JX.normal_block ?_
      refine JX.roundG (x := i) (i + 1) ?_ ?_ [0, 2, 4, 5, 6] ?_ ?_ ?_ ?_
      · exact ⟨by omega, by rw [any_take _ ⟨#[]⟩ (by omega), hr, ht21]; rfl⟩
      · exact (by omega)
      · exact (.cons rfl (.cons rfl (.cons rfl (.cons rfl (.cons rfl .nil)))))
      · repeat (first | exact .all | exact .nil | refine Has.own (by repeat (first | exact .here | apply Tl.past | apply Tl.there)) ?_ | refine Has.cons (by repeat (first | exact .here | apply Pk.past | apply Pk.there)) ?_)
      · exact fun G hG => by repeat (first | exact hG | refine List.mem_cons_of_mem _ ?_)
      · exact fun _ _ _ => fun _ _ => trivial
  ·
    try simp only [decide_eq_true_eq, decide_eq_false_iff_not] at ht13
    repeat refine J.seq ?_
    refine J.exit ?_
    repeat (first | refine JX.hit ?_ | refine JX.miss rfl ?_ | refine JX.exit_pass ?_)
    repeat (first | refine JX.next ?_ | refine JX.normal_block ?_)
    have hx := word_miss hw (i := i) (by omega) hr
    repeat refine J.seq ?_
    refine J.plain ?_
    refine JO.t (ob_move rfl) rfl ?_
    refine JO.t (ob_slen un_string rfl) rfl ?_
    refine JO.t (ob_gtr rfl rfl) rfl ?_
    refine JO.nil ?_
    repeat (first | refine JX.next ?_ | refine JX.normal_block ?_)
    refine J.sel [0, 2, 26] (.cons rfl (.cons rfl (.cons rfl .nil))) ?_
    repeat refine J.seq ?_
    refine J.cond rfl (fun ht26 => ?_) (fun ht26 => ?_)
    ·
      try simp only [decide_eq_true_eq, decide_eq_false_iff_not] at ht26
      repeat refine J.seq ?_
      refine J.plain ?_
      refine JO.t (ob_build (cs := [_, _, _]) sh_api_Token .nil rfl rfl) rfl ?_
      refine JO.m (obm_store rfl rfl (by repeat (first | exact .here | apply Upd.there)) (by first | exact cnt_is rfl rfl | exact cnt_ex) (by first | exact cnt_is rfl rfl | exact cnt_ex | exact cnt_aggO) ss_api_Token) (by rfl) ?_
      refine JO.t (ob_assign rfl) rfl ?_
      refine JO.nil ?_
      repeat (first | refine JX.next ?_ | refine JX.normal_block ?_)
      refine J.sel [2, 3] (.cons rfl (.cons rfl .nil)) ?_
      repeat refine J.seq ?_
      refine J.ret ?_
      repeat (first | refine JX.ret_pass ?_ | refine JX.ret_block ?_)
      exact JX.retC1is rfl rfl sz_api_Token HasOwn.mem rfl rfl (by rw [hx, if_pos (decide_eq_true ht26)]; rfl) (by rw [hx, if_pos (decide_eq_true ht26)])
    ·
      try simp only [decide_eq_true_eq, decide_eq_false_iff_not] at ht26
      refine J.skip ?_
      repeat (first | refine JX.next ?_ | refine JX.normal_block ?_)
      repeat refine J.seq ?_
      refine J.plain ?_
      refine JO.t (ob_move rfl) rfl ?_
      refine JO.t (ob_call rfl (c_low w hs) (.one rfl (.one rfl (.one rfl (.one rfl .nil))))) rfl ?_
      refine JO.t (ob_build (cs := [_, _, _]) sh_api_Token (.cons rfl (.cons rfl .nil)) rfl rfl) rfl ?_
      refine JO.m (obm_store rfl rfl (by repeat (first | exact .here | apply Upd.there)) (by first | exact cnt_is rfl rfl | exact cnt_ex) (by first | exact cnt_is rfl rfl | exact cnt_ex | exact cnt_aggO) ss_api_Token) (by rfl) ?_
      refine JO.t (ob_assign rfl) rfl ?_
      refine JO.nil ?_
      repeat (first | refine JX.next ?_ | refine JX.normal_block ?_)
      refine J.sel [2, 3] (.cons rfl (.cons rfl .nil)) ?_
      repeat refine J.seq ?_
      refine J.ret ?_
      repeat (first | refine JX.ret_pass ?_ | refine JX.ret_block ?_)
      exact JX.retC1is rfl rfl sz_api_Token HasOwn.mem rfl rfl (by rw [hx, if_neg (by rw [decide_eq_false ht26]; simp)]) (by rw [hx, if_neg (by rw [decide_eq_false ht26]; simp)])
theorem c_ref09_quoted (s : ByteArray) (n : Nat) (hn : n < s.size) (hs : s.size ≤ 2048) : CallTy Tryd.prog f_ref09_quoted [.is (.string s), .is (.int .i64 (n : Nat))] (.tup2 (.is (.string (quoS (quoP s n)))) (.is (.int .i64 (quoE (quoP s n))))) :=
  CallTy.of (fn := Tryd.f18) Tryd.func18 (n := 47) rfl rfl rfl (fun _ _ => by kernel_rfl) fun E W => by
  repeat refine J.seq ?_
  refine J.plain ?_
  refine JO.t (ob_assign rfl) rfl ?_
  refine JO.t (ob_assign rfl) rfl ?_
  refine JO.nil ?_
  repeat (first | refine JX.next ?_ | refine JX.normal_block ?_)
  refine J.sel [0, 1] (.cons rfl (.cons rfl .nil)) ?_
  repeat refine J.seq ?_
  refine J.plain ?_
  refine JO.t (ob_assign rfl) rfl ?_
  refine JO.nil ?_
  repeat (first | refine JX.next ?_ | refine JX.normal_block ?_)
  refine J.sel [0, 1, 6] (.cons rfl (.cons rfl (.cons rfl .nil))) ?_
  repeat refine J.seq ?_
  refine J.plain ?_
  refine JO.t (ob_move rfl) rfl ?_
  refine JO.t (ob_addc (cc := ((n + 1 : Nat) : Int)) rfl rfl (by omega) (by omega) (by omega)) rfl ?_
  refine JO.t (ob_assign rfl) rfl ?_
  refine JO.nil ?_
  repeat (first | refine JX.next ?_ | refine JX.normal_block ?_)
  refine J.sel [0, 6, 7] (.cons rfl (.cons rfl (.cons rfl .nil))) ?_
  repeat refine J.seq ?_
  refine J.block ?_
  repeat refine J.seq ?_
  refine J.loopG (α := Nat × List UInt8 × Option (Nat × List Value) × Nat) (fun z => [(0, .is (.string s)), (6, .is (sliceO z.2.2.1 z.2.1.length z.2.2.2)), (7, .is (.int .i64 (z.1 : Nat)))]) (fun z => ownO z.2.2.1 ty_uint8 []) (fun z => fun _ => True) (fun z => z.1 ≤ s.size ∧ (quoF (dr s z.1) z.2.1).map (fun r => (r.1, z.1 + r.2)) = quoP s n ∧ Grows bC 1 z.2.1 z.2.2.1 z.2.2.2 ∧ z.2.1.length ≤ z.1) (fun z => s.size - z.1) (n + 1, [], none, 0) [0, 6, 7] (.cons rfl (.cons rfl (.cons rfl .nil))) rfl (fun _ => trivial) ⟨by omega, rfl, rfl, by simp⟩ fun ⟨i, acc, st, cp⟩ ⟨hi, hx, hG, hal⟩ => ?_
  try dsimp only
  try dsimp only at acc
  try dsimp only at st
  try dsimp only at cp
  try dsimp only at hi
  try dsimp only at hx
  try dsimp only at hG
  try dsimp only at hal
  repeat refine J.seq ?_
  refine J.plain ?_
  refine JO.t (ob_move rfl) rfl ?_
  refine JO.t (ob_move rfl) rfl ?_
  refine JO.t (ob_slen un_string rfl) rfl ?_
  refine JO.t (ob_lss rfl rfl) rfl ?_
  refine JO.nil ?_
  repeat (first | refine JX.next ?_ | refine JX.normal_block ?_)
  refine J.sel [0, 6, 7, 13] (.cons rfl (.cons rfl (.cons rfl (.cons rfl .nil)))) ?_
  repeat refine J.seq ?_
  refine J.cond rfl (fun ht13 => ?_) (fun ht13 => ?_)
  ·
    try simp only [decide_eq_true_eq, decide_eq_false_iff_not] at ht13
    refine J.skip ?_
    repeat (first | refine JX.next ?_ | refine JX.normal_block ?_)
    repeat refine J.seq ?_
    refine J.block ?_
    repeat refine J.seq ?_
    refine J.plain ?_
    refine JO.t (ob_move rfl) rfl ?_
    refine JO.t (ob_move rfl) rfl ?_
    refine JO.t (ob_sindex un_string rfl rfl (by omega) (by omega)) rfl ?_
    refine JO.t (ob_neq rfl rfl) rfl ?_
    refine JO.nil ?_
    repeat (first | refine JX.next ?_ | refine JX.normal_block ?_)
    refine J.sel [0, 6, 7, 19] (.cons rfl (.cons rfl (.cons rfl (.cons rfl .nil)))) ?_
    repeat refine J.seq ?_
    refine J.cond rfl (fun ht19 => ?_) (fun ht19 => ?_)
    ·
      try simp only [decide_eq_true_eq, decide_eq_false_iff_not] at ht19
      repeat refine J.seq ?_
      refine J.plain ?_
      refine JO.t (ob_move rfl) rfl ?_
      refine JO.t (ob_move rfl) rfl ?_
      refine JO.t (ob_move rfl) rfl ?_
      refine JO.t (ob_sindex un_string rfl rfl (by omega) (by omega)) rfl ?_
      refine JO.t (ob_buildSlice (cs := [_]) sl_sl_uint8 (by omega) (by omega) (.cons rfl .nil) rfl rfl rfl) rfl ?_
      refine JO.apP [by_ s i] ap_sl_uint8 bC_len (by repeat (first | exact .here | apply Cx.past | apply Cx.there)) hG rfl rfl (fun L => src_new un_sl_uint8 rfl rfl) (by simp) (by simp; omega) (by simp; omega) rfl (fun st1 cp1 hG1 => ?_)
      try dsimp only
      refine JO.t (ob_assign rfl) rfl ?_
      refine JO.nil ?_
      repeat (first | refine JX.next ?_ | refine JX.normal_block ?_)
      refine J.sel [0, 6, 7] (.cons rfl (.cons rfl (.cons rfl .nil))) ?_
      repeat refine J.seq ?_
      refine J.exit ?_
      repeat (first | refine JX.hit ?_ | refine JX.miss rfl ?_ | refine JX.exit_pass ?_)
      repeat (first | refine JX.next ?_ | refine JX.normal_block ?_)
      repeat refine J.seq ?_
      refine J.plain ?_
      refine JO.t (ob_move rfl) rfl ?_
      refine JO.t (ob_addc (cc := ((i + 1 : Nat) : Int)) rfl rfl (by omega) (by omega) (by omega)) rfl ?_
      refine JO.t (ob_assign rfl) rfl ?_
      refine JO.nil ?_
      repeat refine JX.normal_block ?_
      refine JX.roundG (x := ⟨i, acc, st, cp⟩) (i + 1, acc ++ [by_ s i], st1, cp1) ?_ ?_ [0, 6, 7] ?_ ?_ ?_ ?_
      · exact ⟨by omega, quo_next (quo_go (by omega) acc (bne39 ht19)) hx, hG1, by simp; omega⟩
      · exact (by simp only; omega)
      · exact (.cons rfl (.cons rfl (.cons rfl .nil)))
      · repeat (first | exact .all | exact .nil | refine Has.own (by repeat (first | exact .here | apply Tl.past | apply Tl.there)) ?_ | refine Has.cons (by repeat (first | exact .here | apply Pk.past | apply Pk.there)) ?_)
      · exact fun G hG => by repeat (first | exact hG | refine List.mem_cons_of_mem _ ?_)
      · exact fun _ _ _ => fun _ _ => trivial
    ·
      try simp only [decide_eq_true_eq, decide_eq_false_iff_not] at ht19
      refine J.skip ?_
      repeat (first | refine JX.next ?_ | refine JX.normal_block ?_)
      repeat refine J.seq ?_
      refine J.reg0 hmx (by kernel_rfl) (by kernel_rfl) ?_
      refine RT.t (ob_move rfl) ?_
      refine RT.t (ob_addc (cc := ((i + 1 : Nat) : Int)) rfl rfl (by omega) (by omega) (by omega)) ?_
      refine RT.t (ob_move rfl) ?_
      refine RT.t (ob_slen un_string rfl) ?_
      refine RT.t (ob_lss rfl rfl) ?_
      refine RT.t (ob_move rfl) ?_
      refine RT.g rfl rfl rfl (fun hg => ob_move (.inl rfl)) ?_
      refine RT.g rfl rfl rfl (fun hg => ob_move (.inl rfl)) ?_
      refine RT.g rfl rfl rfl (fun hg => ob_addc (cc := ((i + 1 : Nat) : Int)) (.inr ⟨_, rfl, fun h => h⟩) (.inl rfl) (by omega) (by omega) (by omega)) ?_
      refine RT.g rfl rfl rfl (fun hg => ob_sindex un_string (.inr ⟨_, rfl, fun h => h⟩) (.inr ⟨_, rfl, fun h => h⟩) (by have h := hg; simp only [decide_eq_true_eq] at h; omega) (by have h := hg; simp only [decide_eq_true_eq] at h; omega)) ?_
      refine RT.g rfl rfl rfl (fun hg => ob_eql (.inr ⟨_, rfl, fun h => h⟩) (.inl rfl)) ?_
      refine RT.t (ob_pickAnd rfl rfl rfl id) ?_
      refine RT.nil ?_
      refine FinS.nil0 ?_
      repeat (first | refine JX.next ?_ | refine JX.normal_block ?_)
      refine J.sel [0, 6, 7, 37] (.cons rfl (.cons rfl (.cons rfl (.cons rfl .nil)))) ?_
      repeat refine J.seq ?_
      refine J.cond rfl (fun ht37 => ?_) (fun ht37 => ?_)
      ·
        try simp only [decide_eq_true_eq, decide_eq_false_iff_not] at ht37
        repeat refine J.seq ?_
        refine J.plain ?_
        refine JO.t (ob_move rfl) rfl ?_
        refine JO.t (ob_buildSlice (cs := [_]) sl_sl_uint8 (by omega) (by omega) (.cons rfl .nil) rfl rfl rfl) rfl ?_
        refine JO.apP [39] ap_sl_uint8 bC_len (by repeat (first | exact .here | apply Cx.past | apply Cx.there)) hG rfl rfl (fun L => src_new un_sl_uint8 rfl rfl) (by simp) (by simp; omega) (by simp; omega) rfl (fun st1 cp1 hG1 => ?_)
        try dsimp only
        refine JO.t (ob_assign rfl) rfl ?_
        refine JO.nil ?_
        repeat (first | refine JX.next ?_ | refine JX.normal_block ?_)
        refine J.sel [0, 6, 7] (.cons rfl (.cons rfl (.cons rfl .nil))) ?_
        repeat refine J.seq ?_
        refine J.plain ?_
        refine JO.t (ob_move rfl) rfl ?_
        refine JO.t (ob_addc (cc := ((i + 1 : Nat) : Int)) rfl rfl (by omega) (by omega) (by omega)) rfl ?_
        refine JO.t (ob_assign rfl) rfl ?_
        refine JO.nil ?_
        repeat (first | refine JX.next ?_ | refine JX.normal_block ?_)
        refine J.sel [0, 6, 7] (.cons rfl (.cons rfl (.cons rfl .nil))) ?_
        repeat refine J.seq ?_
        refine J.exit ?_
        repeat (first | refine JX.hit ?_ | refine JX.miss rfl ?_ | refine JX.exit_pass ?_)
        repeat (first | refine JX.next ?_ | refine JX.normal_block ?_)
        repeat refine J.seq ?_
        refine J.plain ?_
        refine JO.t (ob_move rfl) rfl ?_
        refine JO.t (ob_addc (cc := ((i + 2 : Nat) : Int)) rfl rfl (by omega) (by omega) (by omega)) rfl ?_
        refine JO.t (ob_assign rfl) rfl ?_
        refine JO.nil ?_
        repeat refine JX.normal_block ?_
        refine JX.roundG (x := ⟨i, acc, st, cp⟩) (i + 2, acc ++ [39], st1, cp1) ?_ ?_ [0, 6, 7] ?_ ?_ ?_ ?_
        · exact ⟨by have h := (Bool.and_eq_true _ _ ▸ ht37 : _ ∧ _).1; simp only [decide_eq_true_eq] at h; dsimp only; omega, quo_next (quo_two' (by omega) ht19 ht37) hx, hG1, by simp; omega⟩
        · exact (by simp only; omega)
        · exact (.cons rfl (.cons rfl (.cons rfl .nil)))
        · repeat (first | exact .all | exact .nil | refine Has.own (by repeat (first | exact .here | apply Tl.past | apply Tl.there)) ?_ | refine Has.cons (by repeat (first | exact .here | apply Pk.past | apply Pk.there)) ?_)
        · exact fun G hG => by repeat (first | exact hG | refine List.mem_cons_of_mem _ ?_)
        · exact fun _ _ _ => fun _ _ => trivial
      ·
        try simp only [decide_eq_true_eq, decide_eq_false_iff_not] at ht37
        refine J.skip ?_
        repeat (first | refine JX.next ?_ | refine JX.normal_block ?_)
        have hq := quo_out' (by omega) ht19 ht37 hx
        refine J.freezeO bC_len hG (e := ty_uint8) (by repeat (first | exact .here | apply Tl.past | apply Tl.there)) (fun _ h => h) rfl rfl ?_
        obtain ⟨cap2, hso⟩ := sliceO_ad hG
        rw [hso]
        repeat refine J.seq ?_
        refine J.plain ?_
        refine JO.t (ob_move rfl) rfl ?_
        refine JO.t (ob_str un_sl_uint8 un_uint8 un_string rfl (by repeat (first | exact List.mem_cons_self | apply List.mem_cons_of_mem))) rfl ?_
        refine JO.t (ob_move rfl) rfl ?_
        refine JO.t (ob_addc (cc := ((i + 1 : Nat) : Int)) rfl rfl (by omega) (by omega) (by omega)) rfl ?_
        refine JO.t (ob_assign rfl) rfl ?_
        refine JO.t (ob_assign rfl) rfl ?_
        refine JO.nil ?_
        repeat (first | refine JX.next ?_ | refine JX.normal_block ?_)
        refine J.sel [4, 5] (.cons rfl (.cons rfl .nil)) ?_
        repeat refine J.seq ?_
        refine J.ret ?_
        repeat (first | refine JX.ret_pass ?_ | refine JX.ret_block ?_)
        exact JX.ret2is rfl rfl rfl (by rw [hq]; rfl) (by rw [hq]; rfl)
  ·
    try simp only [decide_eq_true_eq, decide_eq_false_iff_not] at ht13
    repeat refine J.seq ?_
    refine J.exit ?_
    repeat (first | refine JX.hit ?_ | refine JX.miss rfl ?_ | refine JX.exit_pass ?_)
    repeat (first | refine JX.next ?_ | refine JX.normal_block ?_)
    have hq := quo_end (by omega) hx
    repeat refine J.seq ?_
    refine J.plain ?_
    refine JO.t (ob_assign rfl) rfl ?_
    refine JO.t (ob_assign rfl) rfl ?_
    refine JO.nil ?_
    repeat (first | refine JX.next ?_ | refine JX.normal_block ?_)
    refine J.sel [4, 5] (.cons rfl (.cons rfl .nil)) ?_
    repeat refine J.seq ?_
    refine J.ret ?_
    repeat (first | refine JX.ret_pass ?_ | refine JX.ret_block ?_)
    exact JX.ret2is rfl rfl rfl (by rw [hq]; rfl) (by rw [hq]; rfl)
end Go.Proofs.YtjjgckmdfblmgaaDoor
