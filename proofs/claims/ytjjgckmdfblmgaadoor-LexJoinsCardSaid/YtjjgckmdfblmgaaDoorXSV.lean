/- value.Ok, value.Show. No condition. -/
import Derived.Test.YtjjgckmdfblmgaaDoorXSK
import Derived.Test.YtjjgckmdfblmgaaDoorXD
import Derived.Test.YtjjgckmdfblmgaaDoorXG4
set_option maxRecDepth 20000
namespace Go.Proofs.YtjjgckmdfblmgaaDoor
open Go Go.Vc
def okV (v : V3) : Bool := if v.k == 0 then (v.n == 0) && seq v.s ⟨#[]⟩ else if v.k == 1 then seq v.s ⟨#[]⟩ else if v.k == 2 then (v.n.fdiv 2 == 0) && seq v.s ⟨#[]⟩ else ((v.k == 3) && (v.n == 0)) && decide ((v.s.size : Int) ≤ 64)
abbrev qu1 : ByteArray := ⟨#[39]⟩
def showV (v : V3) : ByteArray := if !okV v then ⟨#[]⟩ else if v.k == 1 then ⟨(Lib.itoa v.n).toArray⟩ else if v.k == 2 then ⟨(Lib.toUpperA (Lib.formatBool (v.n == 1))).toArray⟩ else if v.k == 3 then (qu1 ++ ⟨(repL 39 [39, 39] v.s.data.toList).toArray⟩) ++ qu1 else ⟨#[78, 85, 76, 76]⟩
theorem ok_text {v : V3} (h : okV v = true) (h3 : (v.k == 3) = true) : v.s.size ≤ 64 := by
  have e : v.k = 3 := by simpa using h3
  unfold okV at h
  rw [e] at h
  simp at h
  omega
theorem fb_ascii (b : Bool) : ∀ (j : Nat) (c : UInt8), (⟨(Lib.formatBool b).toArray⟩ : ByteArray).data.toList[j]? = some c → c.toNat < 128 := fun j c h => by
  have hm := List.mem_of_getElem? h
  have hall : ∀ b : Bool, ∀ c ∈ (⟨(Lib.formatBool b).toArray⟩ : ByteArray).data.toList, c.toNat < 128 := by decide +kernel
  exact hall b c hm
theorem fb_size (b : Bool) : (⟨(Lib.formatBool b).toArray⟩ : ByteArray).size ≤ 140737488355328 := by
  have : ∀ b : Bool, (⟨(Lib.formatBool b).toArray⟩ : ByteArray).size ≤ 5 := by decide +kernel
  have := this b
  omega
theorem rep_size (c : UInt8) (s : ByteArray) (h : s.size ≤ 64) {new : List UInt8} (hn : new.length ≤ 2) : (⟨(repL c new s.data.toList).toArray⟩ : ByteArray).size ≤ 128 := by
  have h1 := repL_len c hn s.data.toList
  rw [len_bytes] at h1
  show (bl _).size ≤ 128
  rw [bl_size]
  omega
theorem c_value_Ok (v : V3) : CallTy Tryd.prog f_value_Ok [.is (.agg #[.int .i64 v.k, .int .i64 v.n, .string v.s])] (.is (.bool (okV v))) :=
  CallTy.of (fn := Tryd.f20) Tryd.func20 (n := 45) rfl rfl rfl (fun _ _ => by kernel_rfl) fun E W => by
  repeat refine J.seq ?_
  refine J.plain ?_
  refine JO.box rfl rfl fun b1 => ?_
  refine JO.t (ob_assign rfl) rfl ?_
  refine JO.nil ?_
  repeat (first | refine JX.next ?_ | refine JX.normal_block ?_)
  refine J.sel [1] (.cons rfl .nil) ?_
  repeat refine J.seq ?_
  refine J.plain ?_
  refine JO.t (ob_fieldAddr fo_api_Value_0 rfl) rfl ?_
  refine JO.t (ob_ld1 sz_int rfl rfl) rfl ?_
  refine JO.nil ?_
  repeat (first | refine JX.next ?_ | refine JX.normal_block ?_)
  refine J.sel [1, 4] (.cons rfl (.cons rfl .nil)) ?_
  repeat refine J.seq ?_
  refine J.block ?_
  repeat refine J.seq ?_
  refine J.plain ?_
  refine JO.t (ob_eql rfl rfl) rfl ?_
  refine JO.t (ob_assign rfl) rfl ?_
  refine JO.nil ?_
  repeat (first | refine JX.next ?_ | refine JX.normal_block ?_)
  refine J.sel [1, 4, 5] (.cons rfl (.cons rfl (.cons rfl .nil))) ?_
  repeat refine J.seq ?_
  refine J.cond rfl (fun ht5 => ?_) (fun ht5 => ?_)
  ·
    try simp only [decide_eq_true_eq, decide_eq_false_iff_not] at ht5
    repeat refine J.seq ?_
    refine J.reg0 hmx (by kernel_rfl) (by kernel_rfl) ?_
    refine RT.t (ob_fieldAddr fo_api_Value_1 rfl) ?_
    refine RT.t (ob_ld1 sz_int64 rfl rfl) ?_
    refine RT.t (ob_eql rfl rfl) ?_
    refine RT.t (ob_move rfl) ?_
    refine RT.g rfl rfl rfl (fun hg => ob_fieldAddr fo_api_Value_2 (.inl rfl)) ?_
    refine RT.g rfl rfl rfl (fun hg => ob_ld1 sz_string (.inr ⟨_, rfl, fun h => h⟩) rfl) ?_
    refine RT.g rfl rfl rfl (fun hg => ob_seql (.inr ⟨_, rfl, fun h => h⟩) (.inl rfl)) ?_
    refine RT.t (ob_pickAnd rfl rfl rfl id) ?_
    refine RT.t (ob_assign rfl) ?_
    refine RT.nil ?_
    refine FinS.nil0 ?_
    repeat (first | refine JX.next ?_ | refine JX.normal_block ?_)
    refine J.sel [2] (.cons rfl .nil) ?_
    repeat refine J.seq ?_
    refine J.ret ?_
    repeat (first | refine JX.ret_pass ?_ | refine JX.ret_block ?_)
    exact JX.ret1is rfl rfl (by unfold okV; rw [if_pos ht5])
  ·
    try simp only [decide_eq_true_eq, decide_eq_false_iff_not] at ht5
    repeat refine J.seq ?_
    refine J.plain ?_
    refine JO.t (ob_eql rfl rfl) rfl ?_
    refine JO.t (ob_assign rfl) rfl ?_
    refine JO.nil ?_
    repeat (first | refine JX.next ?_ | refine JX.normal_block ?_)
    refine J.sel [1, 4, 15] (.cons rfl (.cons rfl (.cons rfl .nil))) ?_
    repeat refine J.seq ?_
    refine J.cond rfl (fun ht15 => ?_) (fun ht15 => ?_)
    ·
      try simp only [decide_eq_true_eq, decide_eq_false_iff_not] at ht15
      repeat refine J.seq ?_
      refine J.plain ?_
      refine JO.t (ob_fieldAddr fo_api_Value_2 rfl) rfl ?_
      refine JO.t (ob_ld1 sz_string rfl rfl) rfl ?_
      refine JO.t (ob_seql rfl rfl) rfl ?_
      refine JO.t (ob_assign rfl) rfl ?_
      refine JO.nil ?_
      repeat (first | refine JX.next ?_ | refine JX.normal_block ?_)
      refine J.sel [2] (.cons rfl .nil) ?_
      repeat refine J.seq ?_
      refine J.ret ?_
      repeat (first | refine JX.ret_pass ?_ | refine JX.ret_block ?_)
      exact JX.ret1is rfl rfl (by unfold okV; rw [if_neg (by rw [ht5]; simp), if_pos ht15])
    ·
      try simp only [decide_eq_true_eq, decide_eq_false_iff_not] at ht15
      repeat refine J.seq ?_
      refine J.plain ?_
      refine JO.t (ob_eql rfl rfl) rfl ?_
      refine JO.t (ob_assign rfl) rfl ?_
      refine JO.nil ?_
      repeat (first | refine JX.next ?_ | refine JX.normal_block ?_)
      refine J.sel [1, 20] (.cons rfl (.cons rfl .nil)) ?_
      repeat refine J.seq ?_
      refine J.cond rfl (fun ht20 => ?_) (fun ht20 => ?_)
      ·
        try simp only [decide_eq_true_eq, decide_eq_false_iff_not] at ht20
        repeat refine J.seq ?_
        refine J.reg0 hmx (by kernel_rfl) (by kernel_rfl) ?_
        refine RT.t (ob_fieldAddr fo_api_Value_1 rfl) ?_
        refine RT.t (ob_ld1 sz_int64 rfl rfl) ?_
        refine RT.t (ob_shr rfl rfl rfl) ?_
        refine RT.t (ob_eql rfl rfl) ?_
        refine RT.t (ob_move rfl) ?_
        refine RT.g rfl rfl rfl (fun hg => ob_fieldAddr fo_api_Value_2 (.inl rfl)) ?_
        refine RT.g rfl rfl rfl (fun hg => ob_ld1 sz_string (.inr ⟨_, rfl, fun h => h⟩) rfl) ?_
        refine RT.g rfl rfl rfl (fun hg => ob_seql (.inr ⟨_, rfl, fun h => h⟩) (.inl rfl)) ?_
        refine RT.t (ob_pickAnd rfl rfl rfl id) ?_
        refine RT.t (ob_assign rfl) ?_
        refine RT.nil ?_
        refine FinS.nil0 ?_
        repeat (first | refine JX.next ?_ | refine JX.normal_block ?_)
        refine J.sel [2] (.cons rfl .nil) ?_
        repeat refine J.seq ?_
        refine J.ret ?_
        repeat (first | refine JX.ret_pass ?_ | refine JX.ret_block ?_)
        exact JX.ret1is rfl rfl (by unfold okV; rw [if_neg (by rw [ht5]; simp), if_neg (by rw [ht15]; simp), if_pos ht20]; rfl)
      ·
        try simp only [decide_eq_true_eq, decide_eq_false_iff_not] at ht20
        refine J.skip ?_
        repeat (first | refine JX.next ?_ | refine JX.normal_block ?_)
        repeat refine J.seq ?_
        refine J.reg0 hmx (by kernel_rfl) (by kernel_rfl) ?_
        refine RT.t (ob_fieldAddr fo_api_Value_0 rfl) ?_
        refine RT.t (ob_ld1 sz_int rfl rfl) ?_
        refine RT.t (ob_eql rfl rfl) ?_
        refine RT.t (ob_move rfl) ?_
        refine RT.g rfl rfl rfl (fun hg => ob_fieldAddr fo_api_Value_1 (.inl rfl)) ?_
        refine RT.g rfl rfl rfl (fun hg => ob_ld1 sz_int64 (.inr ⟨_, rfl, fun h => h⟩) rfl) ?_
        refine RT.g rfl rfl rfl (fun hg => ob_eql (.inr ⟨_, rfl, fun h => h⟩) (.inl rfl)) ?_
        refine RT.t (ob_pickAnd rfl rfl rfl id) ?_
        refine RT.t (ob_move rfl) ?_
        refine RT.g rfl rfl rfl (fun hg => ob_fieldAddr fo_api_Value_2 (.inl rfl)) ?_
        refine RT.g rfl rfl rfl (fun hg => ob_ld1 sz_string (.inr ⟨_, rfl, fun h => h⟩) rfl) ?_
        refine RT.g rfl rfl rfl (fun hg => ob_slen un_string (.inr ⟨_, rfl, fun h => h⟩)) ?_
        refine RT.g rfl rfl rfl (fun hg => ob_leq (.inr ⟨_, rfl, fun h => h⟩) (.inl rfl)) ?_
        refine RT.t (ob_pickAnd rfl rfl rfl id) ?_
        refine RT.t (ob_assign rfl) ?_
        refine RT.nil ?_
        refine FinS.nil0 ?_
        repeat (first | refine JX.next ?_ | refine JX.normal_block ?_)
        refine J.sel [2] (.cons rfl .nil) ?_
        repeat refine J.seq ?_
        refine J.ret ?_
        repeat (first | refine JX.ret_pass ?_ | refine JX.ret_block ?_)
        exact JX.ret1is rfl rfl (by unfold okV; rw [if_neg (by rw [ht5]; simp), if_neg (by rw [ht15]; simp), if_neg (by rw [ht20]; simp)])
theorem c_value_Show (v : V3) (h0 : -9223372036854775808 ≤ v.n) (h1 : v.n ≤ 9223372036854775807) : CallF Tryd.prog f_value_Show [GF, TF] [.is (.agg #[.int .i64 v.k, .int .i64 v.n, .string v.s])] (.is (.string (showV v))) :=
CallF.of (fn := Tryd.f12) Tryd.func12 (n := 32) rfl rfl rfl (fun _ _ => by kernel_rfl) fun E W => by
  repeat refine J.seq ?_
  refine J.plain ?_
  refine JO.box rfl rfl fun b1 => ?_
  refine JO.t (ob_assign rfl) rfl ?_
  refine JO.nil ?_
  repeat (first | refine JX.next ?_ | refine JX.normal_block ?_)
  refine J.sel [1] (.cons rfl .nil) ?_
  repeat refine J.seq ?_
  refine J.block ?_
  repeat refine J.seq ?_
  refine J.plain ?_
  refine JO.t (ob_ldN (cs := [_, _, _]) sz_api_Value rfl rfl rfl) rfl ?_
  refine JO.t (ob_call rfl (c_value_Ok v) (.one rfl .nil)) rfl ?_
  refine JO.t (ob_not rfl) rfl ?_
  refine JO.t (ob_assign rfl) rfl ?_
  refine JO.nil ?_
  repeat (first | refine JX.next ?_ | refine JX.normal_block ?_)
  refine J.sel [1, 3] (.cons rfl (.cons rfl .nil)) ?_
  repeat refine J.seq ?_
  refine J.cond rfl (fun ht3 => ?_) (fun ht3 => ?_)
  ·
    try simp only [decide_eq_true_eq, decide_eq_false_iff_not] at ht3
    repeat refine J.seq ?_
    refine J.plain ?_
    refine JO.t (ob_assign rfl) rfl ?_
    refine JO.nil ?_
    repeat (first | refine JX.next ?_ | refine JX.normal_block ?_)
    refine J.sel [2] (.cons rfl .nil) ?_
    repeat refine J.seq ?_
    refine J.ret ?_
    repeat (first | refine JX.ret_pass ?_ | refine JX.ret_block ?_)
    exact JX.ret1is rfl rfl (by unfold showV; rw [if_pos ht3])
  ·
    try simp only [decide_eq_true_eq, decide_eq_false_iff_not] at ht3
    repeat refine J.seq ?_
    refine J.plain ?_
    refine JO.t (ob_fieldAddr fo_api_Value_0 rfl) rfl ?_
    refine JO.t (ob_ld1 sz_int rfl rfl) rfl ?_
    refine JO.t (ob_eql rfl rfl) rfl ?_
    refine JO.t (ob_assign rfl) rfl ?_
    refine JO.nil ?_
    repeat (first | refine JX.next ?_ | refine JX.normal_block ?_)
    refine J.sel [1, 7] (.cons rfl (.cons rfl .nil)) ?_
    repeat refine J.seq ?_
    refine J.cond rfl (fun ht7 => ?_) (fun ht7 => ?_)
    ·
      try simp only [decide_eq_true_eq, decide_eq_false_iff_not] at ht7
      repeat refine J.seq ?_
      refine J.plain ?_
      refine JO.t (ob_fieldAddr fo_api_Value_1 rfl) rfl ?_
      refine JO.t (ob_ld1 sz_int64 rfl rfl) rfl ?_
      refine JO.t (ob_callF rfl (c_strconv_FormatInt v.n h0 h1) (by simp) (.one rfl (.one rfl .nil))) rfl ?_
      refine JO.t (ob_assign rfl) rfl ?_
      refine JO.nil ?_
      repeat (first | refine JX.next ?_ | refine JX.normal_block ?_)
      refine J.sel [2] (.cons rfl .nil) ?_
      repeat refine J.seq ?_
      refine J.ret ?_
      repeat (first | refine JX.ret_pass ?_ | refine JX.ret_block ?_)
      exact JX.ret1is rfl rfl (by unfold showV; rw [if_neg (by rw [ht3]; simp), if_pos ht7])
    ·
      try simp only [decide_eq_true_eq, decide_eq_false_iff_not] at ht7
      repeat refine J.seq ?_
      refine J.plain ?_
      refine JO.t (ob_fieldAddr fo_api_Value_0 rfl) rfl ?_
      refine JO.t (ob_ld1 sz_int rfl rfl) rfl ?_
      refine JO.t (ob_eql rfl rfl) rfl ?_
      refine JO.t (ob_assign rfl) rfl ?_
      refine JO.nil ?_
      repeat (first | refine JX.next ?_ | refine JX.normal_block ?_)
      refine J.sel [1, 14] (.cons rfl (.cons rfl .nil)) ?_
      repeat refine J.seq ?_
      refine J.cond rfl (fun ht14 => ?_) (fun ht14 => ?_)
      ·
        try simp only [decide_eq_true_eq, decide_eq_false_iff_not] at ht14
        repeat refine J.seq ?_
        refine J.plain ?_
        refine JO.t (ob_fieldAddr fo_api_Value_1 rfl) rfl ?_
        refine JO.t (ob_ld1 sz_int64 rfl rfl) rfl ?_
        refine JO.t (ob_eql rfl rfl) rfl ?_
        refine JO.t (ob_call rfl (c_strconv_FormatBool (v.n == 1)) (.one rfl .nil)) rfl ?_
        refine JO.t (ob_call rfl (c_strings_ToUpper ⟨(Lib.formatBool (v.n == 1)).toArray⟩ (fb_size _) (fb_ascii _)) (.one rfl .nil)) rfl ?_
        refine JO.t (ob_assign rfl) rfl ?_
        refine JO.nil ?_
        repeat (first | refine JX.next ?_ | refine JX.normal_block ?_)
        refine J.sel [2] (.cons rfl .nil) ?_
        repeat refine J.seq ?_
        refine J.ret ?_
        repeat (first | refine JX.ret_pass ?_ | refine JX.ret_block ?_)
        exact JX.ret1is rfl rfl (by unfold showV; rw [if_neg (by rw [ht3]; simp), if_neg (by rw [ht7]; simp), if_pos ht14])
      ·
        try simp only [decide_eq_true_eq, decide_eq_false_iff_not] at ht14
        repeat refine J.seq ?_
        refine J.plain ?_
        refine JO.t (ob_fieldAddr fo_api_Value_0 rfl) rfl ?_
        refine JO.t (ob_ld1 sz_int rfl rfl) rfl ?_
        refine JO.t (ob_eql rfl rfl) rfl ?_
        refine JO.t (ob_assign rfl) rfl ?_
        refine JO.nil ?_
        repeat (first | refine JX.next ?_ | refine JX.normal_block ?_)
        refine J.sel [1, 23] (.cons rfl (.cons rfl .nil)) ?_
        repeat refine J.seq ?_
        refine J.cond rfl (fun ht23 => ?_) (fun ht23 => ?_)
        ·
          try simp only [decide_eq_true_eq, decide_eq_false_iff_not] at ht23
          have h64 := ok_text (by simpa using ht3) ht23
          have hrs := rep_size 39 v.s h64 (new := [39, 39]) (by decide)
          repeat refine J.seq ?_
          refine J.plain ?_
          refine JO.t (ob_fieldAddr fo_api_Value_2 rfl) rfl ?_
          refine JO.t (ob_ld1 sz_string rfl rfl) rfl ?_
          refine JO.t (ob_callF rfl (c_strings_ReplaceAll v.s 39 ⟨#[39, 39]⟩ (by omega) (by decide) (by decide)) (by simp) (.one rfl (.one rfl (.one rfl .nil)))) rfl ?_
          refine JO.t (ob_sadd rfl rfl (by have : qu1.size = 1 := rfl; show qu1.size + (⟨(repL 39 [39, 39] v.s.data.toList).toArray⟩ : ByteArray).size ≤ 9223372036854775807; omega)) rfl ?_
          refine JO.t (ob_sadd rfl rfl (by have : qu1.size = 1 := rfl; show (qu1 ++ ⟨(repL 39 [39, 39] v.s.data.toList).toArray⟩).size + qu1.size ≤ 9223372036854775807; rw [ByteArray.size_append]; omega)) rfl ?_
          refine JO.t (ob_assign rfl) rfl ?_
          refine JO.nil ?_
          repeat (first | refine JX.next ?_ | refine JX.normal_block ?_)
          refine J.sel [2] (.cons rfl .nil) ?_
          repeat refine J.seq ?_
          refine J.ret ?_
          repeat (first | refine JX.ret_pass ?_ | refine JX.ret_block ?_)
          exact JX.ret1is rfl rfl (by unfold showV; rw [if_neg (by rw [ht3]; simp), if_neg (by rw [ht7]; simp), if_neg (by rw [ht14]; simp), if_pos ht23])
        ·
          try simp only [decide_eq_true_eq, decide_eq_false_iff_not] at ht23
          refine J.skip ?_
          repeat (first | refine JX.next ?_ | refine JX.normal_block ?_)
          repeat refine J.seq ?_
          refine J.plain ?_
          refine JO.t (ob_assign rfl) rfl ?_
          refine JO.nil ?_
          repeat (first | refine JX.next ?_ | refine JX.normal_block ?_)
          refine J.sel [2] (.cons rfl .nil) ?_
          repeat refine J.seq ?_
          refine J.ret ?_
          repeat (first | refine JX.ret_pass ?_ | refine JX.ret_block ?_)
          exact JX.ret1is rfl rfl (by unfold showV; rw [if_neg (by rw [ht3]; simp), if_neg (by rw [ht7]; simp), if_neg (by rw [ht14]; simp), if_neg (by rw [ht23]; simp)])
end Go.Proofs.YtjjgckmdfblmgaaDoor
