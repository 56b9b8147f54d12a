/- The scanner: texts. No condition. -/
import Derived.Test.YtjjgckmdfblmgaaDoorXB
import Derived.Test.YtjjgckmdfblmgaaDoorXG3
set_option maxRecDepth 20000
namespace Go.Proofs.YtjjgckmdfblmgaaDoor
open Go Go.Vc
theorem q39 (b : UInt8) : ((b.toNat : Int) == 39) = (b == 39) := by
  have h1 : (39 : UInt8).toNat = 39 := rfl
  refine Bool.eq_iff_iff.2 ⟨fun h => ?_, fun h => ?_⟩
  · have h : (b.toNat : Int) = 39 := by simpa using h
    have : b = 39 := UInt8.toNat_inj.1 (by rw [h1]; omega)
    simp [this]
  · have h : b = 39 := by simpa using h
    subst h
    rfl
theorem text_end {s : ByteArray} {i : Nat} (h : s.size ≤ i) (acc : List UInt8) : textL (dr s i) acc = ((t3D, 30), 0) := by rw [dr_nil h]; rfl
theorem textL_step (b : UInt8) (l acc : List UInt8) (hb : (b == 39) = false) : textL (b :: l) acc = ((textL l (acc ++ [b])).1, (textL l (acc ++ [b])).2 + 1) := by
  cases l with
  | nil => simp [textL, hb]
  | cons c l => rw [textL, if_neg (by rw [hb]; simp)]
theorem text_go {s : ByteArray} {i : Nat} (h : i < s.size) (acc : List UInt8) (hb : (by_ s i == 39) = false) : textL (dr s i) acc = ((textL (dr s (i + 1)) (acc ++ [by_ s i])).1, (textL (dr s (i + 1)) (acc ++ [by_ s i])).2 + 1) := by
  rw [dr_cons h, textL_step _ _ _ hb]
theorem text_two {s : ByteArray} {i : Nat} (h : i + 1 < s.size) (acc : List UInt8) (hb : (by_ s i == 39) = true) (hc : (by_ s (i + 1) == 39) = true) :
    textL (dr s i) acc = ((textL (dr s (i + 1 + 1)) (acc ++ [by_ s (i + 1)])).1, (textL (dr s (i + 1 + 1)) (acc ++ [by_ s (i + 1)])).2 + 2) := by
  rw [dr_cons (by omega : i < s.size), dr_cons h, textL, if_pos hb, if_neg (by simp [bne, hc])]
theorem text_out {s : ByteArray} {i : Nat} (h : i < s.size) (acc : List UInt8) (hb : (by_ s i == 39) = true) (hc : (((i + 1 : Nat) : Int) == (s.size : Int) || !(by_ s (i + 1) == 39)) = true) : textL (dr s i) acc = (endT acc, 1) := by
  by_cases h1 : i + 1 < s.size
  · have hc : (by_ s (i + 1) == 39) = false := by
      rw [beq_eq_false_iff_ne.2 (by omega), Bool.false_or] at hc
      simpa using hc
    rw [dr_cons h, dr_cons h1, textL, if_pos hb, if_pos (by simp [bne, hc])]
  · rw [dr_cons h, dr_nil (by omega), textL, if_pos hb]
theorem c_p_lex_scanner_text (s : ByteArray) (n : Nat) (hn : n < s.size) (hs : s.size ≤ 2048) : CallM Tryd.prog f_p_lex_scanner_text ty_lex_scanner (sv s n) [GF] [] (sv s (n + 1 + (textL (dr s (n + 1)) []).2)) (.tup2 (.is (tv (textL (dr s (n + 1)) []).1.1)) (.is (.int .i64 (textL (dr s (n + 1)) []).1.2))) :=
CallM.of (fn := Tryd.f30) Tryd.func30 (n := 88) rfl rfl rfl (fun _ _ => by kernel_rfl) fun E W b0 => by
  repeat refine J.seq ?_
  refine J.plain ?_
  refine JO.alloc zo_api_Token rfl fun b2 => ?_
  refine JO.t (ob_assign rfl) rfl ?_
  refine JO.nil ?_
  repeat (first | refine JX.next ?_ | refine JX.normal_block ?_)
  refine J.sel [0, 2] (.cons rfl (.cons rfl .nil)) ?_
  repeat refine J.seq ?_
  refine J.plain ?_
  refine JO.t (ob_assign rfl) rfl ?_
  refine JO.nil ?_
  repeat (first | refine JX.next ?_ | refine JX.normal_block ?_)
  refine J.sel [0, 2, 4] (.cons rfl (.cons rfl (.cons rfl .nil))) ?_
  repeat refine J.seq ?_
  refine J.plain ?_
  refine JO.t (ob_move rfl) rfl ?_
  refine JO.t (ob_nilCheck rfl) rfl ?_
  refine JO.t (ob_fieldAddr fo_lex_scanner_1 rfl) rfl ?_
  refine JO.t (ob_ld1 sz_int rfl rfl) rfl ?_
  refine JO.t (ob_addc (cc := ((n + 1 : Nat) : Int)) rfl rfl (by omega) (by omega) (by omega)) rfl ?_
  refine JO.t (ob_nilCheck rfl) rfl ?_
  refine JO.t (ob_fieldAddr fo_lex_scanner_1 rfl) rfl ?_
  refine JO.m (obm_storeF (cs' := [_, _]) rfl rfl (by repeat (first | exact .here | apply Upd.there)) rfl rfl rfl rfl ss_int) (by rfl) ?_
  refine JO.nil ?_
  repeat (first | refine JX.next ?_ | refine JX.normal_block ?_)
  refine J.sel [0, 2, 4] (.cons rfl (.cons rfl (.cons rfl .nil))) ?_
  repeat refine J.seq ?_
  refine J.block ?_
  repeat refine J.seq ?_
  refine J.loopG (α := Nat × List UInt8 × Option (Nat × List Value) × Nat) (fun z => [(0, .is (.pointer (some ⟨b0, 0, none⟩))), (2, .is (.pointer (some ⟨b2, 0, none⟩))), (4, .is (sliceO z.2.2.1 z.2.1.length z.2.2.2))]) (fun z => ⟨b2, ty_api_Token, .is (tv t3D)⟩ :: ⟨b0, ty_lex_scanner, .is (sv s z.1)⟩ :: ownO z.2.2.1 ty_uint8 []) (fun z => fun _ => True) (fun z => z.1 ≤ s.size ∧ ((textL (dr s z.1) z.2.1).1 = (textL (dr s (n + 1)) []).1 ∧ z.1 + (textL (dr s z.1) z.2.1).2 = n + 1 + (textL (dr s (n + 1)) []).2) ∧ Grows bC 1 z.2.1 z.2.2.1 z.2.2.2 ∧ z.2.1.length ≤ z.1) (fun z => s.size - z.1) (n + 1, [], none, 0) [0, 2, 4] (.cons rfl (.cons rfl (.cons rfl .nil))) rfl (fun _ => trivial) ⟨by omega, ⟨rfl, rfl⟩, rfl, by simp⟩ fun ⟨i, acc, st, cp⟩ ⟨hi, ⟨hr1, hr2⟩, hG, hal⟩ => ?_
  try dsimp only
  try dsimp only at acc
  try dsimp only at st
  try dsimp only at cp
  try dsimp only at hi
  try dsimp only at hr1
  try dsimp only at hr2
  try dsimp only at hG
  try dsimp only at hal
  repeat refine J.seq ?_
  refine J.reg0 hmx (by kernel_rfl) (by kernel_rfl) ?_
  refine RT.t (ob_move rfl) ?_
  refine RT.t (ob_nilCheck rfl) ?_
  refine RT.t (ob_fieldAddr fo_lex_scanner_1 rfl) ?_
  refine RT.t (ob_ld1 sz_int rfl rfl) ?_
  refine RT.t (ob_move rfl) ?_
  refine RT.t (ob_nilCheck rfl) ?_
  refine RT.t (ob_fieldAddr fo_lex_scanner_0 rfl) ?_
  refine RT.t (ob_ld1 sz_string rfl rfl) ?_
  refine RT.t (ob_slen un_string rfl) ?_
  refine RT.t (ob_lss rfl rfl) ?_
  refine RT.nil ?_
  refine FinS.nil0 ?_
  repeat (first | refine JX.next ?_ | refine JX.normal_block ?_)
  refine J.sel [0, 2, 4, 21] (.cons rfl (.cons rfl (.cons rfl (.cons rfl .nil)))) ?_
  repeat refine J.seq ?_
  refine J.cond rfl (fun ht21 => ?_) (fun ht21 => ?_)
  ·
    try simp only [decide_eq_true_eq, decide_eq_false_iff_not] at ht21
    refine J.skip ?_
    repeat (first | refine JX.next ?_ | refine JX.normal_block ?_)
    repeat refine J.seq ?_
    refine J.block ?_
    repeat refine J.seq ?_
    refine J.reg0 hmx (by kernel_rfl) (by kernel_rfl) ?_
    refine RT.t (ob_move rfl) ?_
    refine RT.t (ob_nilCheck rfl) ?_
    refine RT.t (ob_fieldAddr fo_lex_scanner_0 rfl) ?_
    refine RT.t (ob_ld1 sz_string rfl rfl) ?_
    refine RT.t (ob_move rfl) ?_
    refine RT.t (ob_nilCheck rfl) ?_
    refine RT.t (ob_fieldAddr fo_lex_scanner_1 rfl) ?_
    refine RT.t (ob_ld1 sz_int rfl rfl) ?_
    refine RT.t (ob_sindex un_string rfl rfl (by omega) (by omega)) ?_
    refine RT.t (ob_eql rfl rfl) ?_
    refine RT.nil ?_
    refine FinS.nil0 ?_
    repeat (first | refine JX.next ?_ | refine JX.normal_block ?_)
    refine J.sel [0, 2, 4, 38] (.cons rfl (.cons rfl (.cons rfl (.cons rfl .nil)))) ?_
    repeat refine J.seq ?_
    refine J.cond rfl (fun ht38 => ?_) (fun ht38 => ?_)
    ·
      try simp only [decide_eq_true_eq, decide_eq_false_iff_not] at ht38
      have hb39 : (by_ s i == 39) = true := (by rw [← q39]; first | exact ht38 | simpa using ht38)
      repeat refine J.seq ?_
      refine J.plain ?_
      refine JO.t (ob_move rfl) rfl ?_
      refine JO.t (ob_nilCheck rfl) rfl ?_
      refine JO.t (ob_fieldAddr fo_lex_scanner_1 rfl) rfl ?_
      refine JO.t (ob_ld1 sz_int rfl rfl) rfl ?_
      refine JO.t (ob_addc (cc := ((i + 1 : Nat) : Int)) rfl rfl (by omega) (by omega) (by omega)) rfl ?_
      refine JO.t (ob_nilCheck rfl) rfl ?_
      refine JO.t (ob_fieldAddr fo_lex_scanner_1 rfl) rfl ?_
      refine JO.m (obm_storeF (cs' := [_, _]) rfl rfl (by repeat (first | exact .here | apply Upd.there)) rfl rfl rfl rfl ss_int) (by rfl) ?_
      refine JO.nil ?_
      repeat (first | refine JX.next ?_ | refine JX.normal_block ?_)
      refine J.sel [0, 2, 4] (.cons rfl (.cons rfl (.cons rfl .nil))) ?_
      repeat refine J.seq ?_
      refine J.reg0 hmx (by kernel_rfl) (by kernel_rfl) ?_
      refine RT.t (ob_move rfl) ?_
      refine RT.t (ob_nilCheck rfl) ?_
      refine RT.t (ob_fieldAddr fo_lex_scanner_1 rfl) ?_
      refine RT.t (ob_ld1 sz_int rfl rfl) ?_
      refine RT.t (ob_move rfl) ?_
      refine RT.t (ob_nilCheck rfl) ?_
      refine RT.t (ob_fieldAddr fo_lex_scanner_0 rfl) ?_
      refine RT.t (ob_ld1 sz_string rfl rfl) ?_
      refine RT.t (ob_slen un_string rfl) ?_
      refine RT.t (ob_eql rfl rfl) ?_
      refine RT.t (ob_move rfl) ?_
      refine RT.g rfl rfl rfl (fun hg => ob_move (.inl rfl)) ?_
      refine RT.g rfl rfl rfl (fun hg => ob_nilCheck (.inr ⟨_, rfl, fun h => h⟩)) ?_
      refine RT.g rfl rfl rfl (fun hg => ob_fieldAddr fo_lex_scanner_0 (.inr ⟨_, rfl, fun h => h⟩)) ?_
      refine RT.g rfl rfl rfl (fun hg => ob_ld1 sz_string (.inr ⟨_, rfl, fun h => h⟩) rfl) ?_
      refine RT.g rfl rfl rfl (fun hg => ob_move (.inl rfl)) ?_
      refine RT.g rfl rfl rfl (fun hg => ob_nilCheck (.inr ⟨_, rfl, fun h => h⟩)) ?_
      refine RT.g rfl rfl rfl (fun hg => ob_fieldAddr fo_lex_scanner_1 (.inr ⟨_, rfl, fun h => h⟩)) ?_
      refine RT.g rfl rfl rfl (fun hg => ob_ld1 sz_int (.inr ⟨_, rfl, fun h => h⟩) rfl) ?_
      refine RT.g rfl rfl rfl (fun hg => ob_sindex un_string (.inr ⟨_, rfl, fun h => h⟩) (.inr ⟨_, rfl, fun h => h⟩) (by simp at hg; omega) (by simp at hg; omega)) ?_
      refine RT.g rfl rfl rfl (fun hg => ob_neq (.inr ⟨_, rfl, fun h => h⟩) (.inl rfl)) ?_
      refine RT.t (ob_pickOr rfl rfl rfl id) ?_
      refine RT.nil ?_
      refine FinS.nil0 ?_
      repeat (first | refine JX.next ?_ | refine JX.normal_block ?_)
      refine J.sel [0, 2, 4, 67] (.cons rfl (.cons rfl (.cons rfl (.cons rfl .nil)))) ?_
      repeat refine J.seq ?_
      refine J.cond rfl (fun ht67 => ?_) (fun ht67 => ?_)
      ·
        try simp only [decide_eq_true_eq, decide_eq_false_iff_not] at ht67
        have htx := text_out (by omega) acc hb39 (show (((i + 1 : Nat) : Int) == (s.size : Int) || !(by_ s (i + 1) == 39)) = true by rw [← q39]; exact ht67)
        rw [htx] at hr1 hr2
        refine J.freezeOM bC_len hG (e := ty_uint8) (by repeat (first | exact .here | apply Tl.past | apply Tl.there)) (fun q h => ⟨_, List.mem_cons_of_mem _ List.mem_cons_self, h.symm⟩) rfl rfl ?_
        obtain ⟨cap2, hso⟩ := sliceO_ad hG
        rw [hso]
        repeat refine J.seq ?_
        refine J.plain ?_
        refine JO.t (ob_move rfl) rfl ?_
        refine JO.t (ob_len un_sl_uint8 rfl) rfl ?_
        refine JO.t (ob_gtr rfl rfl) rfl ?_
        refine JO.nil ?_
        repeat (first | refine JX.next ?_ | refine JX.normal_block ?_)
        refine J.sel [2, 4, 70] (.cons rfl (.cons rfl (.cons rfl .nil))) ?_
        repeat refine J.seq ?_
        refine J.cond rfl (fun ht70 => ?_) (fun ht70 => ?_)
        ·
          try simp only [decide_eq_true_eq, decide_eq_false_iff_not] at ht70
          repeat refine J.seq ?_
          refine J.plain ?_
          refine JO.t (ob_build (cs := [_, _, _]) sh_api_Token .nil rfl rfl) rfl ?_
          refine JO.m (obm_store rfl rfl (by repeat (first | exact .here | apply Upd.there)) (by first | exact cnt_is rfl rfl | exact cnt_ex) (by first | exact cnt_is rfl rfl | exact cnt_ex | exact cnt_aggO) ss_api_Token) (by rfl) ?_
          refine JO.t (ob_assign rfl) rfl ?_
          refine JO.nil ?_
          repeat (first | refine JX.next ?_ | refine JX.normal_block ?_)
          refine J.sel [2, 3] (.cons rfl (.cons rfl .nil)) ?_
          repeat refine J.seq ?_
          refine J.ret ?_
          repeat (first | refine JX.ret_pass ?_ | refine JX.ret_block ?_)
          exact JX.retMC1is rfl HasOwn.mem rfl sz_api_Token HasOwn.mem rfl rfl (by rw [← hr1]; unfold endT; rw [if_pos (decide_eq_true ht70)]; rfl) (by rw [← hr1]; unfold endT; rw [if_pos (decide_eq_true ht70)]) (by rw [← hr2])
        ·
          try simp only [decide_eq_true_eq, decide_eq_false_iff_not] at ht70
          refine J.skip ?_
          repeat (first | refine JX.next ?_ | refine JX.normal_block ?_)
          repeat refine J.seq ?_
          refine J.plain ?_
          refine JO.t (ob_move rfl) rfl ?_
          refine JO.t (ob_str un_sl_uint8 un_uint8 un_string rfl (by repeat (first | exact List.mem_cons_self | apply List.mem_cons_of_mem))) rfl ?_
          refine JO.t (ob_build (cs := [_, _, _]) sh_api_Token (.cons rfl (.cons rfl .nil)) rfl rfl) rfl ?_
          refine JO.m (obm_store rfl rfl (by repeat (first | exact .here | apply Upd.there)) (by first | exact cnt_is rfl rfl | exact cnt_ex) (by first | exact cnt_is rfl rfl | exact cnt_ex | exact cnt_aggO) ss_api_Token) (by rfl) ?_
          refine JO.t (ob_assign rfl) rfl ?_
          refine JO.nil ?_
          repeat (first | refine JX.next ?_ | refine JX.normal_block ?_)
          refine J.sel [2, 3] (.cons rfl (.cons rfl .nil)) ?_
          repeat refine J.seq ?_
          refine J.ret ?_
          repeat (first | refine JX.ret_pass ?_ | refine JX.ret_block ?_)
          exact JX.retMC1is rfl HasOwn.mem rfl sz_api_Token HasOwn.mem rfl rfl (by rw [← hr1]; unfold endT; rw [if_neg (by rw [decide_eq_false ht70]; simp)]) (by rw [← hr1]; unfold endT; rw [if_neg (by rw [decide_eq_false ht70]; simp)]) (by rw [← hr2])
      ·
        try simp only [decide_eq_true_eq, decide_eq_false_iff_not] at ht67
        refine J.skip ?_
        repeat (first | refine JX.next ?_ | refine JX.normal_block ?_)
        have hlt2 : i + 1 < s.size := (by have h := ht67; simp only [Bool.or_eq_false_iff, beq_eq_false_iff_ne] at h; omega)
        have hc39 : (by_ s (i + 1) == 39) = true := (by have h := (Bool.or_eq_false_iff.1 ht67).2; rw [← q39]; exact (show (sb s (i + 1) == 39) = true by simpa using h))
        repeat refine J.seq ?_
        refine J.regS 11 hmx (by kernel_rfl) (by kernel_rfl) ?_
        refine RT.t (ob_move rfl) ?_
        refine RT.t (ob_move rfl) ?_
        refine RT.t (ob_nilCheck rfl) ?_
        refine RT.t (ob_fieldAddr fo_lex_scanner_0 rfl) ?_
        refine RT.t (ob_ld1 sz_string rfl rfl) ?_
        refine RT.t (ob_move rfl) ?_
        refine RT.t (ob_nilCheck rfl) ?_
        refine RT.t (ob_fieldAddr fo_lex_scanner_1 rfl) ?_
        refine RT.t (ob_ld1 sz_int rfl rfl) ?_
        refine RT.t (ob_sindex un_string rfl rfl (by omega) (by omega)) ?_
        refine RT.t (ob_buildSlice (cs := [_]) sl_sl_uint8 (by omega) (by omega) (.cons rfl .nil) rfl rfl rfl) ?_
        refine RT.nil ?_
        refine FinS.tail0 ?_
        refine JO.apP [by_ s (i + 1)] ap_sl_uint8 bC_len (by repeat (first | exact .here | apply Cx.past | apply Cx.there)) hG rfl rfl (fun L => src_new un_sl_uint8 rfl rfl) (by simp) (by simp; omega) (by simp; omega) rfl (fun st1 cp1 hG1 => ?_)
        try dsimp only
        refine JO.t (ob_assign rfl) rfl ?_
        refine JO.nil ?_
        repeat (first | refine JX.next ?_ | refine JX.normal_block ?_)
        refine J.sel [0, 2, 4] (.cons rfl (.cons rfl (.cons rfl .nil))) ?_
        repeat refine J.seq ?_
        refine J.plain ?_
        refine JO.t (ob_move rfl) rfl ?_
        refine JO.t (ob_nilCheck rfl) rfl ?_
        refine JO.t (ob_fieldAddr fo_lex_scanner_1 rfl) rfl ?_
        refine JO.t (ob_ld1 sz_int rfl rfl) rfl ?_
        refine JO.t (ob_addc (cc := ((i + 1 + 1 : Nat) : Int)) rfl rfl (by omega) (by omega) (by omega)) rfl ?_
        refine JO.t (ob_nilCheck rfl) rfl ?_
        refine JO.t (ob_fieldAddr fo_lex_scanner_1 rfl) rfl ?_
        refine JO.m (obm_storeF (cs' := [_, _]) rfl rfl (by repeat (first | exact .here | apply Upd.there)) rfl rfl rfl rfl ss_int) (by rfl) ?_
        refine JO.nil ?_
        repeat refine JX.normal_block ?_
        refine JX.roundG (x := ⟨i, acc, st, cp⟩) (i + 1 + 1, acc ++ [by_ s (i + 1)], st1, cp1) ?_ ?_ [0, 2, 4] ?_ ?_ ?_ ?_
        · exact ⟨by omega, by have h := text_two hlt2 acc hb39 hc39; rw [h] at hr1 hr2; exact ⟨hr1, (by dsimp only; omega)⟩, hG1, by simp; omega⟩
        · exact (by simp only; omega)
        · exact (.cons rfl (.cons rfl (.cons rfl .nil)))
        · repeat (first | exact .all | exact .nil | refine Has.own (by repeat (first | exact .here | apply Tl.past | apply Tl.there)) ?_ | refine Has.cons (by repeat (first | exact .here | apply Pk.past | apply Pk.there)) ?_)
        · exact fun G hG => by repeat (first | exact hG | refine List.mem_cons_of_mem _ ?_)
        · exact fun _ _ _ => fun _ _ => trivial
    ·
      try simp only [decide_eq_true_eq, decide_eq_false_iff_not] at ht38
      refine J.skip ?_
      repeat (first | refine JX.next ?_ | refine JX.normal_block ?_)
      have hb39 : (by_ s i == 39) = false := (by rw [← q39]; first | exact ht38 | simpa using ht38)
      repeat refine J.seq ?_
      refine J.regS 11 hmx (by kernel_rfl) (by kernel_rfl) ?_
      refine RT.t (ob_move rfl) ?_
      refine RT.t (ob_move rfl) ?_
      refine RT.t (ob_nilCheck rfl) ?_
      refine RT.t (ob_fieldAddr fo_lex_scanner_0 rfl) ?_
      refine RT.t (ob_ld1 sz_string rfl rfl) ?_
      refine RT.t (ob_move rfl) ?_
      refine RT.t (ob_nilCheck rfl) ?_
      refine RT.t (ob_fieldAddr fo_lex_scanner_1 rfl) ?_
      refine RT.t (ob_ld1 sz_int rfl rfl) ?_
      refine RT.t (ob_sindex un_string rfl rfl (by omega) (by omega)) ?_
      refine RT.t (ob_buildSlice (cs := [_]) sl_sl_uint8 (by omega) (by omega) (.cons rfl .nil) rfl rfl rfl) ?_
      refine RT.nil ?_
      refine FinS.tail0 ?_
      refine JO.apP [by_ s i] ap_sl_uint8 bC_len (by repeat (first | exact .here | apply Cx.past | apply Cx.there)) hG rfl rfl (fun L => src_new un_sl_uint8 rfl rfl) (by simp) (by simp; omega) (by simp; omega) rfl (fun st1 cp1 hG1 => ?_)
      try dsimp only
      refine JO.t (ob_assign rfl) rfl ?_
      refine JO.nil ?_
      repeat (first | refine JX.next ?_ | refine JX.normal_block ?_)
      refine J.sel [0, 2, 4] (.cons rfl (.cons rfl (.cons rfl .nil))) ?_
      repeat refine J.seq ?_
      refine J.plain ?_
      refine JO.t (ob_move rfl) rfl ?_
      refine JO.t (ob_nilCheck rfl) rfl ?_
      refine JO.t (ob_fieldAddr fo_lex_scanner_1 rfl) rfl ?_
      refine JO.t (ob_ld1 sz_int rfl rfl) rfl ?_
      refine JO.t (ob_addc (cc := ((i + 1 : Nat) : Int)) rfl rfl (by omega) (by omega) (by omega)) rfl ?_
      refine JO.t (ob_nilCheck rfl) rfl ?_
      refine JO.t (ob_fieldAddr fo_lex_scanner_1 rfl) rfl ?_
      refine JO.m (obm_storeF (cs' := [_, _]) rfl rfl (by repeat (first | exact .here | apply Upd.there)) rfl rfl rfl rfl ss_int) (by rfl) ?_
      refine JO.nil ?_
      repeat refine JX.normal_block ?_
      refine JX.roundG (x := ⟨i, acc, st, cp⟩) (i + 1, acc ++ [by_ s i], st1, cp1) ?_ ?_ [0, 2, 4] ?_ ?_ ?_ ?_
      · exact ⟨by omega, by have h := text_go (by omega) acc hb39; rw [h] at hr1 hr2; exact ⟨hr1, (by dsimp only; omega)⟩, hG1, by simp; omega⟩
      · exact (by simp only; omega)
      · exact (.cons rfl (.cons rfl (.cons rfl .nil)))
      · repeat (first | exact .all | exact .nil | refine Has.own (by repeat (first | exact .here | apply Tl.past | apply Tl.there)) ?_ | refine Has.cons (by repeat (first | exact .here | apply Pk.past | apply Pk.there)) ?_)
      · exact fun G hG => by repeat (first | exact hG | refine List.mem_cons_of_mem _ ?_)
      · exact fun _ _ _ => fun _ _ => trivial
  ·
    try simp only [decide_eq_true_eq, decide_eq_false_iff_not] at ht21
    repeat refine J.seq ?_
    refine J.exit ?_
    repeat (first | refine JX.hit ?_ | refine JX.miss rfl ?_ | refine JX.exit_pass ?_)
    repeat (first | refine JX.next ?_ | refine JX.normal_block ?_)
    rw [text_end (by omega) acc] at hr1 hr2
    repeat refine J.seq ?_
    refine J.plain ?_
    refine JO.t (ob_build (cs := [_, _, _]) sh_api_Token .nil rfl rfl) rfl ?_
    refine JO.m (obm_store rfl rfl (by repeat (first | exact .here | apply Upd.there)) (by first | exact cnt_is rfl rfl | exact cnt_ex) (by first | exact cnt_is rfl rfl | exact cnt_ex | exact cnt_aggO) ss_api_Token) (by rfl) ?_
    refine JO.t (ob_assign rfl) rfl ?_
    refine JO.nil ?_
    repeat (first | refine JX.next ?_ | refine JX.normal_block ?_)
    refine J.sel [2, 3] (.cons rfl (.cons rfl .nil)) ?_
    repeat refine J.seq ?_
    refine J.ret ?_
    repeat (first | refine JX.ret_pass ?_ | refine JX.ret_block ?_)
    exact JX.retMC1is rfl HasOwn.mem rfl sz_api_Token HasOwn.mem rfl rfl (by rw [← hr1]; rfl) (by rw [← hr1]) (by rw [← hr2]; rfl)
end Go.Proofs.YtjjgckmdfblmgaaDoor
