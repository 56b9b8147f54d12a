/- value: literals; what the document fixes; statements on order, keys, literals. No condition. -/
import Derived.Test.YtlccnpmhmdoapaaDoorXF
import Derived.Test.YtlccnpmhmdoapaaDoorXE
import Derived.Test.YtlccnpmhmdoapaaDoorXG4
set_option maxRecDepth 20000
namespace Go.Proofs.YtlccnpmhmdoapaaDoor
open Go Go.Vc
open Go.Vl
theorem veq_api_Value : VEq Tryd.prog ty_api_Value ty_int ty_int64 ty_string := ⟨by kernel_rfl, by kernel_rfl, by kernel_rfl, by kernel_rfl, by kernel_rfl, by kernel_rfl, by kernel_rfl⟩
theorem ok_text {v : V3} (h : okV v = true) (h3 : (v.k == 3) = true) : v.s.size ≤ 64 := ok_s3 h
theorem fb_ascii (b : Bool) : ∀ (j : Nat) (c : UInt8), (⟨(Lib.formatBool b).toArray⟩ : ByteArray).data.toList[j]? = some c → c.toNat < 128 := fun j c h => by
  have hm := List.mem_of_getElem? h
  have hall : ∀ b : Bool, ∀ c ∈ (⟨(Lib.formatBool b).toArray⟩ : ByteArray).data.toList, c.toNat < 128 := by decide +kernel
  exact hall b c hm
theorem fb_size (b : Bool) : (⟨(Lib.formatBool b).toArray⟩ : ByteArray).size ≤ 140737488355328 := by
  have : ∀ b : Bool, (⟨(Lib.formatBool b).toArray⟩ : ByteArray).size ≤ 5 := by decide +kernel
  have := this b
  omega
theorem rep_size (c : UInt8) (s : ByteArray) (h : s.size ≤ 64) {new : List UInt8} (hn : new.length ≤ 2) : (⟨(repL c new s.data.toList).toArray⟩ : ByteArray).size ≤ 128 := by
  have h1 := repL_len c hn s.data.toList
  rw [len_sz] at h1
  show (bl _).size ≤ 128
  rw [bl_size]
  omega
abbrev aw1 : ByteArray := ⟨#[1, 128, 0, 0, 0, 0, 0, 0, 5]⟩
theorem key_aw : keyR ⟨1, 5, e0⟩ = ([1, 128, 0, 0, 0, 0, 0, 0, 5], 0) := by kernel_rfl
theorem get_aw : getL [2, 2, 1, 3, 1, 97] = ([⟨2, 1, e0⟩, ⟨3, 0, bl [97]⟩], 0) := by kernel_rfl
theorem show_aw : showV ⟨3, 0, ⟨#[105, 116, 39, 115]⟩⟩ = ⟨#[39, 105, 116, 39, 39, 115, 39]⟩ := by kernel_rfl
theorem cmp_aw : cmpV ⟨0, 0, e0⟩ ⟨1, 0, e0⟩ = -1 := by kernel_rfl
theorem c_key_aw : CallF Tryd.prog f_value_Key [GF] [.is (.agg #[.int .i64 1, .int .i64 5, .string e0])] (.tup2 (.rep (SlC bC 1 [1, 128, 0, 0, 0, 0, 0, 0, 5])) (.is (.int .i64 0))) := by
  have h := c_value_Key ⟨1, 5, e0⟩ ⟨by decide, by decide⟩
  rw [key_aw] at h
  exact h
theorem c_get_aw : CallTy Tryd.prog f_value_Get [.rep (SlC bC 1 [2, 2, 1, 3, 1, 97])] (.tup2 (.rep (SlC V3.cells 3 [⟨2, 1, e0⟩, ⟨3, 0, bl [97]⟩])) (.is (.int .i64 0))) := by
  have h := c_value_Get [2, 2, 1, 3, 1, 97]
  rw [get_aw] at h
  exact h
theorem bool_eq {a b : Bool} (h : a = true ↔ b = true) : (a == b) = true := by
  cases a <;> cases b <;> simp_all
theorem cmp_rng (a b : V3) : -1 ≤ cmpV a b ∧ cmpV a b ≤ 1 := by
  rcases tri_V a b with h | h | h
  · rw [cmp_lt h]; omega
  · rw [h, cmp_eq]; omega
  · rw [cmp_gt h]; omega
theorem order_law (a b c : V3) : ((((cmpV b a == IntKind.i64.wrap (0 - cmpV a b)) && ((cmpV a b == 0) == veq a.k a.n a.s b.k b.n b.s)) && !((decide (cmpV a b ≤ 0) && decide (cmpV b c ≤ 0)) && decide (0 < cmpV a c))) && !((decide (0 ≤ cmpV a b) && decide (0 ≤ cmpV b c)) && decide (cmpV a c < 0))) = true := by
  have r1 := cmp_rng a b
  have h1 : (cmpV b a == IntKind.i64.wrap (0 - cmpV a b)) = true := by rw [wrap64_eq (by omega) (by omega), cmp_neg a b]; simp
  have h2 : ((cmpV a b == 0) == veq a.k a.n a.s b.k b.n b.s) = true := bool_eq (by rw [veq_iff, beq_iff_eq, cmp_zero])
  have h3 : ((decide (cmpV a b ≤ 0) && decide (cmpV b c ≤ 0)) && decide (0 < cmpV a c)) = false := by
    cases h : ((decide (cmpV a b ≤ 0) && decide (cmpV b c ≤ 0)) && decide (0 < cmpV a c))
    · rfl
    · simp only [Bool.and_eq_true, decide_eq_true_eq] at h
      have := cmp_trans h.1.1 h.1.2
      omega
  have h4 : ((decide (0 ≤ cmpV a b) && decide (0 ≤ cmpV b c)) && decide (cmpV a c < 0)) = false := by
    cases h : ((decide (0 ≤ cmpV a b) && decide (0 ≤ cmpV b c)) && decide (cmpV a c < 0))
    · rfl
    · simp only [Bool.and_eq_true, decide_eq_true_eq] at h
      have n1 := cmp_neg a b
      have n2 := cmp_neg b c
      have n3 := cmp_neg a c
      have := cmp_trans (a := c) (b := b) (c := a) (by omega) (by omega)
      omega
  rw [h1, h2, h3, h4]
  rfl
theorem shows_law {v w : V3} (hv : okV v = true) (hw : okV w = true) : ((seq (showV v) (showV w) == veq v.k v.n v.s w.k w.n w.s) && !seq (showV v) ⟨#[]⟩) = true := by
  have h1 : (seq (showV v) (showV w) == veq v.k v.n v.s w.k w.n w.s) = true := bool_eq (by
    rw [veq_iff, seq_iff]
    exact ⟨fun h => show_inj (ok_cases hv) (ok_cases hw) (by rw [h]), fun h => by rw [h]⟩)
  have h2 : seq (showV v) ⟨#[]⟩ = false := by
    cases h : seq (showV v) ⟨#[]⟩
    · rfl
    · rw [seq_iff] at h
      exact absurd (show (showV v).data.toList = [] by rw [h]) (show_ne (ok_cases hv))
  rw [h1, h2]
  rfl
theorem shows_no {v : V3} : (okV v || seq (showV v) ⟨#[]⟩) = true := by
  cases h : okV v
  · have : showV v = ⟨#[]⟩ := by unfold showV; rw [h]; rfl
    rw [this, seq_self]
    rfl
  · rfl
theorem apart_law {v w : V3} (hv : okV v = true) (hw : okV w = true) (rv : I64 v.n) (rw_ : I64 w.n) {n : Nat} (hn : n = min (keyL v).length (keyL w).length) : (seq (bl ((keyL v).take n)) (bl ((keyL w).take n)) == veq v.k v.n v.s w.k w.n w.s) = true := bool_eq (by
  rw [veq_iff, seq_lists, bl_list, bl_list, beq_iff_eq]
  constructor
  · intro h
    rcases Nat.le_total (keyL v).length (keyL w).length with hl | hl
    · have e : n = (keyL v).length := by rw [hn]; exact Nat.min_eq_left hl
      rw [e, List.take_length] at h
      exact key_pre (ok_cases hv) (ok_cases hw) rv rw_ (by rw [h]; exact List.take_prefix _ _)
    · have e : n = (keyL w).length := by rw [hn]; exact Nat.min_eq_right hl
      rw [e, List.take_length] at h
      exact (key_pre (ok_cases hw) (ok_cases hv) rw_ rv (by rw [← h]; exact List.take_prefix _ _)).symm
  · rintro rfl
    rfl)
theorem or_false2 {a b : Bool} (h : (a || b) = false) : a = false ∧ b = false := by simpa using h
theorem keyR_eq {v : V3} (h : (keyR v).2 = 0) : okV v = true ∧ (keyR v).1 = keyL v := by
  unfold keyR at h ⊢
  cases e : okV v
  · rw [e] at h; cases h
  · exact ⟨rfl, rfl⟩
section
variable {P : Program} {L : List Own} {Φ : List (World → Prop)} {H : Know} {dst : Option Nat} {ty : TypeId} {pos : String} {after : Array Edge} {g : Option (Nat × Bool)}
theorem ob_minv {t t' : TypeId} {x y : Operand} {a b v : Int} (hx : H x (.is (.int .i64 a))) (hy : H y (.is (.int .i64 b))) (h : min a b = v) : Ob P L Φ H ⟨dst, .call { callee := .builtin .min, args := #[x, y], argTypes := #[t, t'] }, ty, pos, after, g⟩ (.is (.int .i64 v)) := by
  refine ob_is fun E w ρ hp => ?_
  have e1 : ρ x = .int .i64 a := hp.x x _ (by simp [Op.operands, Call.operands]) hx
  have e2 : ρ y = .int .i64 b := hp.x y _ (by simp [Op.operands, Call.operands]) hy
  have e : (if b < a then b else a) = v := by split <;> omega
  simp [execOp, resolve, invoke, builtin, e1, e2, run_min_int2, e]
end
theorem c_value_Show (v : V3) (h0 : -9223372036854775808 ≤ v.n) (h1 : v.n ≤ 9223372036854775807) : CallF Tryd.prog f_value_Show [GF, TF] [.is (.agg #[.int .i64 v.k, .int .i64 v.n, .string v.s])] (.is (.string (showV v))) :=
CallF.of (fn := Tryd.f19) Tryd.func19 (n := 32) rfl rfl rfl (fun _ _ => by kernel_rfl) fun E W => by
  repeat refine J.seq ?_
  refine J.plain ?_
  refine JO.box rfl rfl fun b1 => ?_
  refine JO.t (ob_assign rfl) rfl ?_
  refine JO.nil ?_
  repeat (first | refine JX.next ?_ | refine JX.normal_block ?_)
  refine J.sel [1] (.cons rfl .nil) ?_
  repeat refine J.seq ?_
  refine J.block ?_
  repeat refine J.seq ?_
  refine J.plain ?_
  refine JO.t (ob_ldN (cs := [_, _, _]) sz_api_Value rfl rfl rfl) rfl ?_
  refine JO.t (ob_call rfl (c_value_Ok v) (.one rfl .nil)) rfl ?_
  refine JO.t (ob_not rfl) rfl ?_
  refine JO.t (ob_assign rfl) rfl ?_
  refine JO.nil ?_
  repeat (first | refine JX.next ?_ | refine JX.normal_block ?_)
  refine J.sel [1, 3] (.cons rfl (.cons rfl .nil)) ?_
  repeat refine J.seq ?_
  refine J.cond rfl (fun ht3 => ?_) (fun ht3 => ?_)
  ·
    try simp only [decide_eq_true_eq, decide_eq_false_iff_not] at ht3
    repeat refine J.seq ?_
    refine J.plain ?_
    refine JO.t (ob_assign rfl) rfl ?_
    refine JO.nil ?_
    repeat (first | refine JX.next ?_ | refine JX.normal_block ?_)
    refine J.sel [2] (.cons rfl .nil) ?_
    repeat refine J.seq ?_
    refine J.ret ?_
    repeat (first | refine JX.ret_pass ?_ | refine JX.ret_block ?_)
    exact JX.ret1is rfl rfl (by unfold showV; rw [if_pos ht3])
  ·
    try simp only [decide_eq_true_eq, decide_eq_false_iff_not] at ht3
    repeat refine J.seq ?_
    refine J.plain ?_
    refine JO.t (ob_fieldAddr fo_api_Value_0 rfl) rfl ?_
    refine JO.t (ob_ld1 sz_int rfl rfl) rfl ?_
    refine JO.t (ob_eql rfl rfl) rfl ?_
    refine JO.t (ob_assign rfl) rfl ?_
    refine JO.nil ?_
    repeat (first | refine JX.next ?_ | refine JX.normal_block ?_)
    refine J.sel [1, 7] (.cons rfl (.cons rfl .nil)) ?_
    repeat refine J.seq ?_
    refine J.cond rfl (fun ht7 => ?_) (fun ht7 => ?_)
    ·
      try simp only [decide_eq_true_eq, decide_eq_false_iff_not] at ht7
      repeat refine J.seq ?_
      refine J.plain ?_
      refine JO.t (ob_fieldAddr fo_api_Value_1 rfl) rfl ?_
      refine JO.t (ob_ld1 sz_int64 rfl rfl) rfl ?_
      refine JO.t (ob_callF rfl (c_strconv_FormatInt v.n h0 h1) (by simp) (.one rfl (.one rfl .nil))) rfl ?_
      refine JO.t (ob_assign rfl) rfl ?_
      refine JO.nil ?_
      repeat (first | refine JX.next ?_ | refine JX.normal_block ?_)
      refine J.sel [2] (.cons rfl .nil) ?_
      repeat refine J.seq ?_
      refine J.ret ?_
      repeat (first | refine JX.ret_pass ?_ | refine JX.ret_block ?_)
      exact JX.ret1is rfl rfl (by unfold showV; rw [if_neg (by rw [ht3]; simp), if_pos ht7])
    ·
      try simp only [decide_eq_true_eq, decide_eq_false_iff_not] at ht7
      repeat refine J.seq ?_
      refine J.plain ?_
      refine JO.t (ob_fieldAddr fo_api_Value_0 rfl) rfl ?_
      refine JO.t (ob_ld1 sz_int rfl rfl) rfl ?_
      refine JO.t (ob_eql rfl rfl) rfl ?_
      refine JO.t (ob_assign rfl) rfl ?_
      refine JO.nil ?_
      repeat (first | refine JX.next ?_ | refine JX.normal_block ?_)
      refine J.sel [1, 14] (.cons rfl (.cons rfl .nil)) ?_
      repeat refine J.seq ?_
      refine J.cond rfl (fun ht14 => ?_) (fun ht14 => ?_)
      ·
        try simp only [decide_eq_true_eq, decide_eq_false_iff_not] at ht14
        repeat refine J.seq ?_
        refine J.plain ?_
        refine JO.t (ob_fieldAddr fo_api_Value_1 rfl) rfl ?_
        refine JO.t (ob_ld1 sz_int64 rfl rfl) rfl ?_
        refine JO.t (ob_eql rfl rfl) rfl ?_
        refine JO.t (ob_call rfl (c_strconv_FormatBool (v.n == 1)) (.one rfl .nil)) rfl ?_
        refine JO.t (ob_call rfl (c_strings_ToUpper ⟨(Lib.formatBool (v.n == 1)).toArray⟩ (fb_size _) (fb_ascii _)) (.one rfl .nil)) rfl ?_
        refine JO.t (ob_assign rfl) rfl ?_
        refine JO.nil ?_
        repeat (first | refine JX.next ?_ | refine JX.normal_block ?_)
        refine J.sel [2] (.cons rfl .nil) ?_
        repeat refine J.seq ?_
        refine J.ret ?_
        repeat (first | refine JX.ret_pass ?_ | refine JX.ret_block ?_)
        exact JX.ret1is rfl rfl (by unfold showV; rw [if_neg (by rw [ht3]; simp), if_neg (by rw [ht7]; simp), if_pos ht14])
      ·
        try simp only [decide_eq_true_eq, decide_eq_false_iff_not] at ht14
        repeat refine J.seq ?_
        refine J.plain ?_
        refine JO.t (ob_fieldAddr fo_api_Value_0 rfl) rfl ?_
        refine JO.t (ob_ld1 sz_int rfl rfl) rfl ?_
        refine JO.t (ob_eql rfl rfl) rfl ?_
        refine JO.t (ob_assign rfl) rfl ?_
        refine JO.nil ?_
        repeat (first | refine JX.next ?_ | refine JX.normal_block ?_)
        refine J.sel [1, 23] (.cons rfl (.cons rfl .nil)) ?_
        repeat refine J.seq ?_
        refine J.cond rfl (fun ht23 => ?_) (fun ht23 => ?_)
        ·
          try simp only [decide_eq_true_eq, decide_eq_false_iff_not] at ht23
          have h64 := ok_text (by simpa using ht3) ht23
          have hrs := rep_size 39 v.s h64 (new := [39, 39]) (by decide)
          repeat refine J.seq ?_
          refine J.plain ?_
          refine JO.t (ob_fieldAddr fo_api_Value_2 rfl) rfl ?_
          refine JO.t (ob_ld1 sz_string rfl rfl) rfl ?_
          refine JO.t (ob_callF rfl (c_rep1 v.s 39 ⟨#[39, 39]⟩ (by omega) (by decide) (by decide)) (by simp) (.one rfl (.one rfl (.one rfl .nil)))) rfl ?_
          refine JO.t (ob_sadd rfl rfl (by have : qu1.size = 1 := rfl; show qu1.size + (⟨(repL 39 [39, 39] v.s.data.toList).toArray⟩ : ByteArray).size ≤ 9223372036854775807; omega)) rfl ?_
          refine JO.t (ob_sadd rfl rfl (by have : qu1.size = 1 := rfl; show (qu1 ++ ⟨(repL 39 [39, 39] v.s.data.toList).toArray⟩).size + qu1.size ≤ 9223372036854775807; rw [ByteArray.size_append]; omega)) rfl ?_
          refine JO.t (ob_assign rfl) rfl ?_
          refine JO.nil ?_
          repeat (first | refine JX.next ?_ | refine JX.normal_block ?_)
          refine J.sel [2] (.cons rfl .nil) ?_
          repeat refine J.seq ?_
          refine J.ret ?_
          repeat (first | refine JX.ret_pass ?_ | refine JX.ret_block ?_)
          exact JX.ret1is rfl rfl (by unfold showV; rw [if_neg (by rw [ht3]; simp), if_neg (by rw [ht7]; simp), if_neg (by rw [ht14]; simp), if_pos ht23])
        ·
          try simp only [decide_eq_true_eq, decide_eq_false_iff_not] at ht23
          refine J.skip ?_
          repeat (first | refine JX.next ?_ | refine JX.normal_block ?_)
          repeat refine J.seq ?_
          refine J.plain ?_
          refine JO.t (ob_assign rfl) rfl ?_
          refine JO.nil ?_
          repeat (first | refine JX.next ?_ | refine JX.normal_block ?_)
          refine J.sel [2] (.cons rfl .nil) ?_
          repeat refine J.seq ?_
          refine J.ret ?_
          repeat (first | refine JX.ret_pass ?_ | refine JX.ret_block ?_)
          exact JX.ret1is rfl rfl (by unfold showV; rw [if_neg (by rw [ht3]; simp), if_neg (by rw [ht7]; simp), if_neg (by rw [ht14]; simp), if_neg (by rw [ht23]; simp)])
theorem c_law01_awake  : CallF Tryd.prog f_law01_awake [GF, TF] [] (.is (.bool true)) :=
CallF.of (fn := Tryd.f12) Tryd.func12 (n := 49) rfl rfl rfl (fun _ _ => by kernel_rfl) fun E W => by
  repeat refine J.seq ?_
  refine J.plain ?_
  refine JO.t (ob_assign rfl) rfl ?_
  refine JO.nil ?_
  repeat (first | refine JX.next ?_ | refine JX.normal_block ?_)
  refine J.sel [] .nil ?_
  repeat refine J.seq ?_
  refine J.plain ?_
  refine JO.t (ob_build (cs := [_, _, _]) sh_api_Value (.cons rfl (.cons rfl .nil)) rfl rfl) rfl ?_
  refine JO.t (ob_callF rfl (c_key_aw) (by simp) (.one rfl .nil)) rfl ?_
  refine JO.t (ob_move rfl) rfl ?_
  refine JO.t (ob_extract0 rfl) rfl ?_
  refine JO.t (ob_extract1 rfl) rfl ?_
  refine JO.t (ob_assign rfl) rfl ?_
  refine JO.t (ob_assign rfl) rfl ?_
  refine JO.nil ?_
  repeat (first | refine JX.next ?_ | refine JX.normal_block ?_)
  refine J.sel [1, 2] (.cons rfl (.cons rfl .nil)) ?_
  repeat refine J.seq ?_
  refine J.plain ?_
  refine JO.t (ob_buildSlice (cs := [_, _, _, _, _, _]) sl_sl_uint8 (by omega) (by omega) (.cons rfl (.cons rfl (.cons rfl (.cons rfl (.cons rfl (.cons rfl .nil)))))) rfl rfl rfl) rfl ?_
  refine JO.t (ob_call rfl (c_get_aw) (.sub rfl (Sub.newSlC bC_len (by decide) rfl (by decide)) .nil)) rfl ?_
  refine JO.t (ob_move rfl) rfl ?_
  refine JO.t (ob_extract0 rfl) rfl ?_
  refine JO.t (ob_extract1 rfl) rfl ?_
  refine JO.t (ob_assign rfl) rfl ?_
  refine JO.t (ob_assign rfl) rfl ?_
  refine JO.nil ?_
  repeat (first | refine JX.next ?_ | refine JX.normal_block ?_)
  refine J.sel [1, 2, 3, 4] (.cons rfl (.cons rfl (.cons rfl (.cons rfl .nil)))) ?_
  refine J.openSlC (s := 1) rfl (fun a1 n1 c1 q1 o1 hl1 ha1 hc1 => ?_)
  subst hl1
  refine J.openSlC (s := 3) rfl (fun a n c q o hl ha hc => ?_)
  subst hl
  repeat refine J.seq ?_
  refine J.reg0 hmx (by kernel_rfl) (by kernel_rfl) ?_
  refine RT.t (ob_move rfl) ?_
  refine RT.t (ob_str un_sl_uint8 un_uint8 un_string rfl (by repeat (first | exact List.mem_cons_self | apply List.mem_cons_of_mem))) ?_
  refine RT.t (ob_seql rfl rfl) ?_
  refine RT.t (ob_move rfl) ?_
  refine RT.g rfl rfl rfl (fun hg => ob_move (.inl rfl)) ?_
  refine RT.g rfl rfl rfl (fun hg => ob_eql (.inr ⟨_, rfl, fun h => h⟩) (.inl rfl)) ?_
  refine RT.t (ob_pickAnd rfl rfl rfl id) ?_
  refine RT.t (ob_move rfl) ?_
  refine RT.g rfl rfl rfl (fun hg => ob_move (.inl rfl)) ?_
  refine RT.g rfl rfl rfl (fun hg => ob_eql (.inr ⟨_, rfl, fun h => h⟩) (.inl rfl)) ?_
  refine RT.t (ob_pickAnd rfl rfl rfl id) ?_
  refine RT.t (ob_move rfl) ?_
  refine RT.g rfl rfl rfl (fun hg => ob_move (.inl rfl)) ?_
  refine RT.g rfl rfl rfl (fun hg => ob_len un_sl_api_Value (.inr ⟨_, rfl, fun h => h⟩)) ?_
  refine RT.g rfl rfl rfl (fun hg => ob_eql (.inr ⟨_, rfl, fun h => h⟩) (.inl rfl)) ?_
  refine RT.t (ob_pickAnd rfl rfl rfl id) ?_
  refine RT.t (ob_move rfl) ?_
  refine RT.g rfl rfl rfl (fun hg => ob_move (.inl rfl)) ?_
  refine RT.g rfl rfl rfl (fun hg => ob_indexAddr el_sl_api_Value (.inr ⟨_, rfl, fun h => h⟩) (ha (by decide)) (.inl rfl) (by omega) (by decide)) ?_
  refine RT.g rfl rfl rfl (fun hg => ob_fieldAddr fo_api_Value_2 (.inr ⟨_, rfl, fun h => h⟩)) ?_
  refine RT.g rfl rfl rfl (fun hg => ob_loadG1 (enc := V3.cells) (sz := 3) (len := 2) (i := 1) (j := 2) (y := ⟨3, 0, bl [97]⟩) sz_string (.inr ⟨_, rfl, fun h => h⟩) (by repeat (first | exact List.mem_cons_self | apply List.mem_cons_of_mem)) (ha (by decide)) (by rfl) (by rfl) rfl) ?_
  refine RT.g rfl rfl rfl (fun hg => ob_seql (.inr ⟨_, rfl, fun h => h⟩) (.inl rfl)) ?_
  refine RT.t (ob_pickAnd rfl rfl rfl id) ?_
  refine RT.t (ob_move rfl) ?_
  refine RT.g rfl rfl rfl (fun hg => ob_build (cs := [_, _, _]) sh_api_Value (.cons (.inl rfl) (.cons (.inl rfl) .nil)) rfl rfl) ?_
  refine RT.g rfl rfl rfl (fun hg => ob_callF (.inl rfl) (c_value_Show ⟨3, 0, ⟨#[105, 116, 39, 115]⟩⟩ (by decide) (by decide)) (by simp) (.one (.inr ⟨_, rfl, fun h => h⟩) .nil)) ?_
  refine RT.g rfl rfl rfl (fun hg => ob_seql (.inr ⟨_, rfl, fun h => h⟩) (.inl rfl)) ?_
  refine RT.t (ob_pickAnd rfl rfl rfl id) ?_
  refine RT.t (ob_move rfl) ?_
  refine RT.g rfl rfl rfl (fun hg => ob_build (cs := [_, _, _]) sh_api_Value .nil rfl rfl) ?_
  refine RT.g rfl rfl rfl (fun hg => ob_build (cs := [_, _, _]) sh_api_Value (.cons (.inl rfl) .nil) rfl rfl) ?_
  refine RT.g rfl rfl rfl (fun hg => ob_call (.inl rfl) (c_value_Compare ⟨0, 0, e0⟩ ⟨1, 0, e0⟩) (.one (.inr ⟨_, rfl, fun h => h⟩) (.one (.inr ⟨_, rfl, fun h => h⟩) .nil))) ?_
  refine RT.g rfl rfl rfl (fun hg => ob_eql (.inr ⟨_, rfl, fun h => h⟩) (.inl rfl)) ?_
  refine RT.t (ob_pickAnd rfl rfl rfl id) ?_
  refine RT.t (ob_assign rfl) ?_
  refine RT.nil ?_
  refine FinS.nil0 ?_
  repeat (first | refine JX.next ?_ | refine JX.normal_block ?_)
  refine J.sel [0] (.cons rfl .nil) ?_
  repeat refine J.seq ?_
  refine J.ret ?_
  repeat (first | refine JX.ret_pass ?_ | refine JX.ret_block ?_)
  exact JX.ret1is rfl rfl (by rw [show_aw, cmp_aw]; kernel_rfl)
theorem c_law01_ValueOrder (a b c : V3) : CallF Tryd.prog f_law01_ValueOrder [GF, TF] [.is (.agg #[.int .i64 a.k, .int .i64 a.n, .string a.s]), .is (.agg #[.int .i64 b.k, .int .i64 b.n, .string b.s]), .is (.agg #[.int .i64 c.k, .int .i64 c.n, .string c.s])] (.is (.bool true)) :=
CallF.of (fn := Tryd.f4) Tryd.func4 (n := 61) rfl rfl rfl (fun _ _ => by kernel_rfl) fun E W => by
  repeat refine J.seq ?_
  refine J.plain ?_
  refine JO.box rfl rfl fun b3 => ?_
  refine JO.box rfl rfl fun b4 => ?_
  refine JO.box rfl rfl fun b5 => ?_
  refine JO.t (ob_assign rfl) rfl ?_
  refine JO.nil ?_
  repeat (first | refine JX.next ?_ | refine JX.normal_block ?_)
  refine J.sel [3, 4, 5] (.cons rfl (.cons rfl (.cons rfl .nil))) ?_
  repeat refine J.seq ?_
  refine J.plain ?_
  refine JO.t (ob_callF rfl (c_law01_awake) (by simp) .nil) rfl ?_
  refine JO.t (ob_not rfl) rfl ?_
  refine JO.nil ?_
  repeat (first | refine JX.next ?_ | refine JX.normal_block ?_)
  refine J.sel [3, 4, 5, 10] (.cons rfl (.cons rfl (.cons rfl (.cons rfl .nil)))) ?_
  repeat refine J.seq ?_
  refine J.cond rfl (fun ht10 => ?_) (fun ht10 => ?_)
  ·
    try simp only [decide_eq_true_eq, decide_eq_false_iff_not] at ht10
    repeat refine J.seq ?_
    refine J.plain ?_
    refine JO.t (ob_assign rfl) rfl ?_
    refine JO.nil ?_
    repeat (first | refine JX.next ?_ | refine JX.normal_block ?_)
    refine J.sel [6] (.cons rfl .nil) ?_
    repeat refine J.seq ?_
    refine J.ret ?_
    repeat (first | refine JX.ret_pass ?_ | refine JX.ret_block ?_)
    exact JX.ret1is rfl rfl (by simp at ht10)
  ·
    try simp only [decide_eq_true_eq, decide_eq_false_iff_not] at ht10
    refine J.skip ?_
    repeat (first | refine JX.next ?_ | refine JX.normal_block ?_)
    repeat refine J.seq ?_
    refine J.plain ?_
    refine JO.t (ob_ldN (cs := [_, _, _]) sz_api_Value rfl rfl rfl) rfl ?_
    refine JO.t (ob_ldN (cs := [_, _, _]) sz_api_Value rfl rfl rfl) rfl ?_
    refine JO.t (ob_call rfl (c_value_Compare a b) (.one rfl (.one rfl .nil))) rfl ?_
    refine JO.t (ob_assign rfl) rfl ?_
    refine JO.nil ?_
    repeat (first | refine JX.next ?_ | refine JX.normal_block ?_)
    refine J.sel [3, 4, 5, 7] (.cons rfl (.cons rfl (.cons rfl (.cons rfl .nil)))) ?_
    repeat refine J.seq ?_
    refine J.plain ?_
    refine JO.t (ob_ldN (cs := [_, _, _]) sz_api_Value rfl rfl rfl) rfl ?_
    refine JO.t (ob_ldN (cs := [_, _, _]) sz_api_Value rfl rfl rfl) rfl ?_
    refine JO.t (ob_call rfl (c_value_Compare b c) (.one rfl (.one rfl .nil))) rfl ?_
    refine JO.t (ob_assign rfl) rfl ?_
    refine JO.nil ?_
    repeat (first | refine JX.next ?_ | refine JX.normal_block ?_)
    refine J.sel [3, 4, 5, 7, 8] (.cons rfl (.cons rfl (.cons rfl (.cons rfl (.cons rfl .nil))))) ?_
    repeat refine J.seq ?_
    refine J.reg0 hmx (by kernel_rfl) (by kernel_rfl) ?_
    refine RT.t (ob_ldN (cs := [_, _, _]) sz_api_Value rfl rfl rfl) ?_
    refine RT.t (ob_ldN (cs := [_, _, _]) sz_api_Value rfl rfl rfl) ?_
    refine RT.t (ob_call rfl (c_value_Compare b a) (.one rfl (.one rfl .nil))) ?_
    refine RT.t (ob_move rfl) ?_
    refine RT.t (ob_neg rfl) ?_
    refine RT.t (ob_eql rfl rfl) ?_
    refine RT.t (ob_move rfl) ?_
    refine RT.g rfl rfl rfl (fun hg => ob_move (.inl rfl)) ?_
    refine RT.g rfl rfl rfl (fun hg => ob_eql (.inr ⟨_, rfl, fun h => h⟩) (.inl rfl)) ?_
    refine RT.g rfl rfl rfl (fun hg => ob_ldN (cs := [_, _, _]) sz_api_Value (.inl rfl) rfl rfl) ?_
    refine RT.g rfl rfl rfl (fun hg => ob_ldN (cs := [_, _, _]) sz_api_Value (.inl rfl) rfl rfl) ?_
    refine RT.g rfl rfl rfl (fun hg => ob_veq veq_api_Value (.inr ⟨_, rfl, fun h => h⟩) (.inr ⟨_, rfl, fun h => h⟩)) ?_
    refine RT.g rfl rfl rfl (fun hg => ob_beql un_bool (.inr ⟨_, rfl, fun h => h⟩) (.inr ⟨_, rfl, fun h => h⟩)) ?_
    refine RT.t (ob_pickAnd rfl rfl rfl id) ?_
    refine RT.t (ob_move rfl) ?_
    refine RT.g rfl rfl rfl (fun hg => ob_move (.inl rfl)) ?_
    refine RT.g rfl rfl rfl (fun hg => ob_leq (.inr ⟨_, rfl, fun h => h⟩) (.inl rfl)) ?_
    refine RT.g rfl rfl rfl (fun hg => ob_move (.inr ⟨_, rfl, fun h => h⟩)) ?_
    refine RT.gg rfl rfl rfl (fun hg => (ob_move (.inl rfl))) ?_
    refine RT.gg rfl rfl rfl (fun hg => (ob_leq (.inr ⟨_, rfl, fun h => h⟩) (.inl rfl))) ?_
    refine RT.g rfl rfl rfl (fun hg => ob_pickAnd (.inr ⟨_, rfl, fun h => h⟩) (.inl rfl) (.inl rfl) (fun h => ⟨hg, h⟩)) ?_
    refine RT.g rfl rfl rfl (fun hg => ob_move (.inr ⟨_, rfl, fun h => h⟩)) ?_
    refine RT.gg rfl rfl rfl (fun hg => (ob_ldN (cs := [_, _, _]) sz_api_Value (.inl rfl) rfl rfl)) ?_
    refine RT.gg rfl rfl rfl (fun hg => (ob_ldN (cs := [_, _, _]) sz_api_Value (.inl rfl) rfl rfl)) ?_
    refine RT.gg rfl rfl rfl (fun hg => (ob_call (.inl rfl) (c_value_Compare a c) (.one (.inr ⟨_, rfl, fun h => h⟩) (.one (.inr ⟨_, rfl, fun h => h⟩) .nil)))) ?_
    refine RT.gg rfl rfl rfl (fun hg => (ob_gtr (.inr ⟨_, rfl, fun h => h⟩) (.inl rfl))) ?_
    refine RT.g rfl rfl rfl (fun hg => ob_pickAnd (.inr ⟨_, rfl, fun h => h⟩) (.inl rfl) (.inl rfl) (fun h => ⟨hg, h⟩)) ?_
    refine RT.g rfl rfl rfl (fun hg => ob_not (.inr ⟨_, rfl, fun h => h⟩)) ?_
    refine RT.t (ob_pickAnd rfl rfl rfl id) ?_
    refine RT.t (ob_move rfl) ?_
    refine RT.g rfl rfl rfl (fun hg => ob_move (.inl rfl)) ?_
    refine RT.g rfl rfl rfl (fun hg => ob_geq (.inr ⟨_, rfl, fun h => h⟩) (.inl rfl)) ?_
    refine RT.g rfl rfl rfl (fun hg => ob_move (.inr ⟨_, rfl, fun h => h⟩)) ?_
    refine RT.gg rfl rfl rfl (fun hg => (ob_move (.inl rfl))) ?_
    refine RT.gg rfl rfl rfl (fun hg => (ob_geq (.inr ⟨_, rfl, fun h => h⟩) (.inl rfl))) ?_
    refine RT.g rfl rfl rfl (fun hg => ob_pickAnd (.inr ⟨_, rfl, fun h => h⟩) (.inl rfl) (.inl rfl) (fun h => ⟨hg, h⟩)) ?_
    refine RT.g rfl rfl rfl (fun hg => ob_move (.inr ⟨_, rfl, fun h => h⟩)) ?_
    refine RT.gg rfl rfl rfl (fun hg => (ob_ldN (cs := [_, _, _]) sz_api_Value (.inl rfl) rfl rfl)) ?_
    refine RT.gg rfl rfl rfl (fun hg => (ob_ldN (cs := [_, _, _]) sz_api_Value (.inl rfl) rfl rfl)) ?_
    refine RT.gg rfl rfl rfl (fun hg => (ob_call (.inl rfl) (c_value_Compare a c) (.one (.inr ⟨_, rfl, fun h => h⟩) (.one (.inr ⟨_, rfl, fun h => h⟩) .nil)))) ?_
    refine RT.gg rfl rfl rfl (fun hg => (ob_lss (.inr ⟨_, rfl, fun h => h⟩) (.inl rfl))) ?_
    refine RT.g rfl rfl rfl (fun hg => ob_pickAnd (.inr ⟨_, rfl, fun h => h⟩) (.inl rfl) (.inl rfl) (fun h => ⟨hg, h⟩)) ?_
    refine RT.g rfl rfl rfl (fun hg => ob_not (.inr ⟨_, rfl, fun h => h⟩)) ?_
    refine RT.t (ob_pickAnd rfl rfl rfl id) ?_
    refine RT.t (ob_assign rfl) ?_
    refine RT.nil ?_
    refine FinS.nil0 ?_
    repeat (first | refine JX.next ?_ | refine JX.normal_block ?_)
    refine J.sel [6] (.cons rfl .nil) ?_
    repeat refine J.seq ?_
    refine J.ret ?_
    repeat (first | refine JX.ret_pass ?_ | refine JX.ret_block ?_)
    exact JX.ret1is rfl rfl (by rw [← order_law a b c])
theorem c_law01_ValueShows (v w : V3) (hv : I64 v.n) (hw : I64 w.n) : CallF Tryd.prog f_law01_ValueShows [GF, TF] [.is (.agg #[.int .i64 v.k, .int .i64 v.n, .string v.s]), .is (.agg #[.int .i64 w.k, .int .i64 w.n, .string w.s])] (.is (.bool true)) :=
CallF.of (fn := Tryd.f6) Tryd.func6 (n := 38) rfl rfl rfl (fun _ _ => by kernel_rfl) fun E W => by
  repeat refine J.seq ?_
  refine J.plain ?_
  refine JO.box rfl rfl fun b2 => ?_
  refine JO.box rfl rfl fun b3 => ?_
  refine JO.t (ob_assign rfl) rfl ?_
  refine JO.nil ?_
  repeat (first | refine JX.next ?_ | refine JX.normal_block ?_)
  refine J.sel [2, 3] (.cons rfl (.cons rfl .nil)) ?_
  repeat refine J.seq ?_
  refine J.plain ?_
  refine JO.t (ob_callF rfl (c_law01_awake) (by simp) .nil) rfl ?_
  refine JO.t (ob_not rfl) rfl ?_
  refine JO.nil ?_
  repeat (first | refine JX.next ?_ | refine JX.normal_block ?_)
  refine J.sel [2, 3, 8] (.cons rfl (.cons rfl (.cons rfl .nil))) ?_
  repeat refine J.seq ?_
  refine J.cond rfl (fun ht8 => ?_) (fun ht8 => ?_)
  ·
    try simp only [decide_eq_true_eq, decide_eq_false_iff_not] at ht8
    repeat refine J.seq ?_
    refine J.plain ?_
    refine JO.t (ob_assign rfl) rfl ?_
    refine JO.nil ?_
    repeat (first | refine JX.next ?_ | refine JX.normal_block ?_)
    refine J.sel [4] (.cons rfl .nil) ?_
    repeat refine J.seq ?_
    refine J.ret ?_
    repeat (first | refine JX.ret_pass ?_ | refine JX.ret_block ?_)
    exact JX.ret1is rfl rfl (by simp at ht8)
  ·
    try simp only [decide_eq_true_eq, decide_eq_false_iff_not] at ht8
    refine J.skip ?_
    repeat (first | refine JX.next ?_ | refine JX.normal_block ?_)
    repeat refine J.seq ?_
    refine J.plain ?_
    refine JO.t (ob_ldN (cs := [_, _, _]) sz_api_Value rfl rfl rfl) rfl ?_
    refine JO.t (ob_callF rfl (c_value_Show v (by exact hv.1) (by have := hv.2; omega)) (by simp) (.one rfl .nil)) rfl ?_
    refine JO.t (ob_assign rfl) rfl ?_
    refine JO.nil ?_
    repeat (first | refine JX.next ?_ | refine JX.normal_block ?_)
    refine J.sel [2, 3, 5] (.cons rfl (.cons rfl (.cons rfl .nil))) ?_
    repeat refine J.seq ?_
    refine J.plain ?_
    refine JO.t (ob_ldN (cs := [_, _, _]) sz_api_Value rfl rfl rfl) rfl ?_
    refine JO.t (ob_callF rfl (c_value_Show w (by exact hw.1) (by have := hw.2; omega)) (by simp) (.one rfl .nil)) rfl ?_
    refine JO.t (ob_assign rfl) rfl ?_
    refine JO.nil ?_
    repeat (first | refine JX.next ?_ | refine JX.normal_block ?_)
    refine J.sel [2, 3, 5, 6] (.cons rfl (.cons rfl (.cons rfl (.cons rfl .nil)))) ?_
    repeat refine J.seq ?_
    refine J.reg0 hmx (by kernel_rfl) (by kernel_rfl) ?_
    refine RT.t (ob_ldN (cs := [_, _, _]) sz_api_Value rfl rfl rfl) ?_
    refine RT.t (ob_call rfl (c_value_Ok v) (.one rfl .nil)) ?_
    refine RT.t (ob_not rfl) ?_
    refine RT.t (ob_move rfl) ?_
    refine RT.g rfl rfl rfl (fun hg => ob_ldN (cs := [_, _, _]) sz_api_Value (.inl rfl) rfl rfl) ?_
    refine RT.g rfl rfl rfl (fun hg => ob_call (.inl rfl) (c_value_Ok w) (.one (.inr ⟨_, rfl, fun h => h⟩) .nil)) ?_
    refine RT.g rfl rfl rfl (fun hg => ob_not (.inr ⟨_, rfl, fun h => h⟩)) ?_
    refine RT.t (ob_pickOr rfl rfl rfl id) ?_
    refine RT.nil ?_
    refine FinS.nil0 ?_
    repeat (first | refine JX.next ?_ | refine JX.normal_block ?_)
    refine J.sel [2, 3, 5, 6, 20] (.cons rfl (.cons rfl (.cons rfl (.cons rfl (.cons rfl .nil))))) ?_
    repeat refine J.seq ?_
    refine J.cond rfl (fun ht20 => ?_) (fun ht20 => ?_)
    ·
      try simp only [decide_eq_true_eq, decide_eq_false_iff_not] at ht20
      repeat refine J.seq ?_
      refine J.reg0 hmx (by kernel_rfl) (by kernel_rfl) ?_
      refine RT.t (ob_ldN (cs := [_, _, _]) sz_api_Value rfl rfl rfl) ?_
      refine RT.t (ob_call rfl (c_value_Ok v) (.one rfl .nil)) ?_
      refine RT.t (ob_move rfl) ?_
      refine RT.g rfl rfl rfl (fun hg => ob_move (.inl rfl)) ?_
      refine RT.g rfl rfl rfl (fun hg => ob_seql (.inr ⟨_, rfl, fun h => h⟩) (.inl rfl)) ?_
      refine RT.t (ob_pickOr rfl rfl rfl id) ?_
      refine RT.t (ob_assign rfl) ?_
      refine RT.nil ?_
      refine FinS.nil0 ?_
      repeat (first | refine JX.next ?_ | refine JX.normal_block ?_)
      refine J.sel [4] (.cons rfl .nil) ?_
      repeat refine J.seq ?_
      refine J.ret ?_
      repeat (first | refine JX.ret_pass ?_ | refine JX.ret_block ?_)
      exact JX.ret1is rfl rfl (by rw [shows_no])
    ·
      try simp only [decide_eq_true_eq, decide_eq_false_iff_not] at ht20
      refine J.skip ?_
      repeat (first | refine JX.next ?_ | refine JX.normal_block ?_)
      repeat refine J.seq ?_
      refine J.reg0 hmx (by kernel_rfl) (by kernel_rfl) ?_
      refine RT.t (ob_move rfl) ?_
      refine RT.t (ob_move rfl) ?_
      refine RT.t (ob_seql rfl rfl) ?_
      refine RT.t (ob_ldN (cs := [_, _, _]) sz_api_Value rfl rfl rfl) ?_
      refine RT.t (ob_ldN (cs := [_, _, _]) sz_api_Value rfl rfl rfl) ?_
      refine RT.t (ob_veq veq_api_Value rfl rfl) ?_
      refine RT.t (ob_beql un_bool rfl rfl) ?_
      refine RT.t (ob_move rfl) ?_
      refine RT.g rfl rfl rfl (fun hg => ob_move (.inl rfl)) ?_
      refine RT.g rfl rfl rfl (fun hg => ob_sneq (.inr ⟨_, rfl, fun h => h⟩) (.inl rfl)) ?_
      refine RT.t (ob_pickAnd rfl rfl rfl id) ?_
      refine RT.t (ob_assign rfl) ?_
      refine RT.nil ?_
      refine FinS.nil0 ?_
      repeat (first | refine JX.next ?_ | refine JX.normal_block ?_)
      refine J.sel [4] (.cons rfl .nil) ?_
      repeat refine J.seq ?_
      refine J.ret ?_
      repeat (first | refine JX.ret_pass ?_ | refine JX.ret_block ?_)
      exact JX.ret1is rfl rfl (by rw [← shows_law (v := v) (w := w) (by cases h : okV v; rw [h] at ht20; cases ht20; rfl) (by cases h : okV v; rw [h] at ht20; cases ht20; rw [h] at ht20; simpa using ht20)])
theorem c_law01_ValueApart (v w : V3) (hv : I64 v.n) (hw : I64 w.n) : CallF Tryd.prog f_law01_ValueApart [GF, TF] [.is (.agg #[.int .i64 v.k, .int .i64 v.n, .string v.s]), .is (.agg #[.int .i64 w.k, .int .i64 w.n, .string w.s])] (.is (.bool true)) :=
CallF.of (fn := Tryd.f5) Tryd.func5 (n := 56) rfl rfl rfl (fun _ _ => by kernel_rfl) fun E W => by
  repeat refine J.seq ?_
  refine J.plain ?_
  refine JO.box rfl rfl fun b2 => ?_
  refine JO.box rfl rfl fun b3 => ?_
  refine JO.t (ob_assign rfl) rfl ?_
  refine JO.nil ?_
  repeat (first | refine JX.next ?_ | refine JX.normal_block ?_)
  refine J.sel [2, 3] (.cons rfl (.cons rfl .nil)) ?_
  repeat refine J.seq ?_
  refine J.plain ?_
  refine JO.t (ob_callF rfl (c_law01_awake) (by simp) .nil) rfl ?_
  refine JO.t (ob_not rfl) rfl ?_
  refine JO.nil ?_
  repeat (first | refine JX.next ?_ | refine JX.normal_block ?_)
  refine J.sel [2, 3, 11] (.cons rfl (.cons rfl (.cons rfl .nil))) ?_
  repeat refine J.seq ?_
  refine J.cond rfl (fun ht11 => ?_) (fun ht11 => ?_)
  ·
    try simp only [decide_eq_true_eq, decide_eq_false_iff_not] at ht11
    repeat refine J.seq ?_
    refine J.plain ?_
    refine JO.t (ob_assign rfl) rfl ?_
    refine JO.nil ?_
    repeat (first | refine JX.next ?_ | refine JX.normal_block ?_)
    refine J.sel [4] (.cons rfl .nil) ?_
    repeat refine J.seq ?_
    refine J.ret ?_
    repeat (first | refine JX.ret_pass ?_ | refine JX.ret_block ?_)
    exact JX.ret1is rfl rfl (by simp at ht11)
  ·
    try simp only [decide_eq_true_eq, decide_eq_false_iff_not] at ht11
    refine J.skip ?_
    repeat (first | refine JX.next ?_ | refine JX.normal_block ?_)
    repeat refine J.seq ?_
    refine J.plain ?_
    refine JO.t (ob_ldN (cs := [_, _, _]) sz_api_Value rfl rfl rfl) rfl ?_
    refine JO.t (ob_callF rfl (c_value_Key v hv) (by simp) (.one rfl .nil)) rfl ?_
    refine JO.t (ob_move rfl) rfl ?_
    refine JO.t (ob_extract0 rfl) rfl ?_
    refine JO.t (ob_extract1 rfl) rfl ?_
    refine JO.t (ob_assign rfl) rfl ?_
    refine JO.t (ob_assign rfl) rfl ?_
    refine JO.nil ?_
    repeat (first | refine JX.next ?_ | refine JX.normal_block ?_)
    refine J.sel [2, 3, 5, 6] (.cons rfl (.cons rfl (.cons rfl (.cons rfl .nil)))) ?_
    repeat refine J.seq ?_
    refine J.plain ?_
    refine JO.t (ob_ldN (cs := [_, _, _]) sz_api_Value rfl rfl rfl) rfl ?_
    refine JO.t (ob_callF rfl (c_value_Key w hw) (by simp) (.one rfl .nil)) rfl ?_
    refine JO.t (ob_move rfl) rfl ?_
    refine JO.t (ob_extract0 rfl) rfl ?_
    refine JO.t (ob_extract1 rfl) rfl ?_
    refine JO.t (ob_assign rfl) rfl ?_
    refine JO.t (ob_assign rfl) rfl ?_
    refine JO.nil ?_
    repeat (first | refine JX.next ?_ | refine JX.normal_block ?_)
    refine J.sel [2, 3, 5, 6, 7, 8] (.cons rfl (.cons rfl (.cons rfl (.cons rfl (.cons rfl (.cons rfl .nil)))))) ?_
    repeat refine J.seq ?_
    refine J.reg0 hmx (by kernel_rfl) (by kernel_rfl) ?_
    refine RT.t (ob_move rfl) ?_
    refine RT.t (ob_neq rfl rfl) ?_
    refine RT.t (ob_move rfl) ?_
    refine RT.g rfl rfl rfl (fun hg => ob_move (.inl rfl)) ?_
    refine RT.g rfl rfl rfl (fun hg => ob_neq (.inr ⟨_, rfl, fun h => h⟩) (.inl rfl)) ?_
    refine RT.t (ob_pickOr rfl rfl rfl id) ?_
    refine RT.nil ?_
    refine FinS.nil0 ?_
    repeat (first | refine JX.next ?_ | refine JX.normal_block ?_)
    refine J.sel [2, 3, 5, 7, 27] (.cons rfl (.cons rfl (.cons rfl (.cons rfl (.cons rfl .nil))))) ?_
    repeat refine J.seq ?_
    refine J.cond rfl (fun ht27 => ?_) (fun ht27 => ?_)
    ·
      try simp only [decide_eq_true_eq, decide_eq_false_iff_not] at ht27
      repeat refine J.seq ?_
      refine J.plain ?_
      refine JO.t (ob_assign rfl) rfl ?_
      refine JO.nil ?_
      repeat (first | refine JX.next ?_ | refine JX.normal_block ?_)
      refine J.sel [4] (.cons rfl .nil) ?_
      repeat refine J.seq ?_
      refine J.ret ?_
      repeat (first | refine JX.ret_pass ?_ | refine JX.ret_block ?_)
      exact JX.ret1is rfl rfl (by rfl)
    ·
      try simp only [decide_eq_true_eq, decide_eq_false_iff_not] at ht27
      refine J.skip ?_
      repeat (first | refine JX.next ?_ | refine JX.normal_block ?_)
      have hq := or_false2 ht27
      have okv := keyR_eq (by simpa using hq.1)
      have okw := keyR_eq (by simpa using hq.2)
      have klv := key_len (ok_cases okv.1)
      have klw := key_len (ok_cases okw.1)
      refine J.openSlC (s := 5) rfl (fun a1 n1 c1 q1 o1 hl1 ha1 hc1 => ?_)
      refine J.openSlC (s := 7) rfl (fun a2 n2 c2 q2 o2 hl2 ha2 hc2 => ?_)
      rw [okv.2] at hl1
      rw [okw.2] at hl2
      refine J.subΦ (Φ' := RowG bC 1 (keyL w) a2 n2 :: RowG bC 1 (keyL v) a1 n1 :: [GF, TF]) (fun F hF => by rw [okv.2, okw.2]; exact hF) ?_
      subst hl1 hl2
      obtain ⟨n, hn⟩ : ∃ n : Nat, n = min (keyL v).length (keyL w).length := ⟨_, rfl⟩
      have hn1 : n ≤ (keyL v).length := by omega
      have hn2 : n ≤ (keyL w).length := by omega
      refine J.fact (RowG bC 1 ((keyL v).take n) a1 n) (fun E w_ hF _ => fun w1 hk => rowG_take (hF (RowG bC 1 (keyL v) a1 (keyL v).length) (by repeat (first | exact List.mem_cons_self | apply List.mem_cons_of_mem)) w1 hk) hn1) ?_
      refine J.fact (RowG bC 1 ((keyL w).take n) a2 n) (fun E w_ hF _ => fun w1 hk => rowG_take (hF (RowG bC 1 (keyL w) a2 (keyL w).length) (by repeat (first | exact List.mem_cons_self | apply List.mem_cons_of_mem)) w1 hk) hn2) ?_
      repeat refine J.seq ?_
      refine J.plain ?_
      refine JO.t (ob_move rfl) rfl ?_
      refine JO.t (ob_len un_sl_uint8 rfl) rfl ?_
      refine JO.t (ob_move rfl) rfl ?_
      refine JO.t (ob_len un_sl_uint8 rfl) rfl ?_
      refine JO.t (ob_minv (v := ((n : Nat) : Int)) rfl rfl (by omega)) rfl ?_
      refine JO.t (ob_assign rfl) rfl ?_
      refine JO.nil ?_
      repeat (first | refine JX.next ?_ | refine JX.normal_block ?_)
      refine J.sel [2, 3, 5, 7, 9] (.cons rfl (.cons rfl (.cons rfl (.cons rfl (.cons rfl .nil))))) ?_
      repeat refine J.seq ?_
      refine J.reg0 hmx (by kernel_rfl) (by kernel_rfl) ?_
      refine RT.t (ob_move rfl) ?_
      refine RT.t (ob_len un_sl_uint8 rfl) ?_
      refine RT.t (ob_leq rfl rfl) ?_
      refine RT.t (ob_move rfl) ?_
      refine RT.g rfl rfl rfl (fun hg => ob_move (.inl rfl)) ?_
      refine RT.g rfl rfl rfl (fun hg => ob_len un_sl_uint8 (.inr ⟨_, rfl, fun h => h⟩)) ?_
      refine RT.g rfl rfl rfl (fun hg => ob_leq (.inr ⟨_, rfl, fun h => h⟩) (.inl rfl)) ?_
      refine RT.t (ob_pickAnd rfl rfl rfl id) ?_
      refine RT.t (ob_move rfl) ?_
      refine RT.g rfl rfl rfl (fun hg => ob_move (.inl rfl)) ?_
      refine RT.g rfl rfl rfl (fun hg => ob_move (.inl rfl)) ?_
      refine RT.g rfl rfl rfl (fun hg => ob_sliceHi un_sl_uint8 el_sl_uint8 (.inr ⟨_, rfl, fun h => h⟩) (.inr ⟨_, rfl, fun h => h⟩) (by omega) (by omega)) ?_
      refine RT.g rfl rfl rfl (fun hg => ob_str un_sl_uint8 un_uint8 un_string (.inr ⟨_, rfl, fun h => h⟩) (by repeat (first | exact List.mem_cons_self | apply List.mem_cons_of_mem))) ?_
      refine RT.g rfl rfl rfl (fun hg => ob_move (.inl rfl)) ?_
      refine RT.g rfl rfl rfl (fun hg => ob_move (.inl rfl)) ?_
      refine RT.g rfl rfl rfl (fun hg => ob_sliceHi un_sl_uint8 el_sl_uint8 (.inr ⟨_, rfl, fun h => h⟩) (.inr ⟨_, rfl, fun h => h⟩) (by omega) (by omega)) ?_
      refine RT.g rfl rfl rfl (fun hg => ob_str un_sl_uint8 un_uint8 un_string (.inr ⟨_, rfl, fun h => h⟩) (by repeat (first | exact List.mem_cons_self | apply List.mem_cons_of_mem))) ?_
      refine RT.g rfl rfl rfl (fun hg => ob_seql (.inr ⟨_, rfl, fun h => h⟩) (.inr ⟨_, rfl, fun h => h⟩)) ?_
      refine RT.g rfl rfl rfl (fun hg => ob_ldN (cs := [_, _, _]) sz_api_Value (.inl rfl) rfl rfl) ?_
      refine RT.g rfl rfl rfl (fun hg => ob_ldN (cs := [_, _, _]) sz_api_Value (.inl rfl) rfl rfl) ?_
      refine RT.g rfl rfl rfl (fun hg => ob_veq veq_api_Value (.inr ⟨_, rfl, fun h => h⟩) (.inr ⟨_, rfl, fun h => h⟩)) ?_
      refine RT.g rfl rfl rfl (fun hg => ob_beql un_bool (.inr ⟨_, rfl, fun h => h⟩) (.inr ⟨_, rfl, fun h => h⟩)) ?_
      refine RT.t (ob_pickAnd rfl rfl rfl id) ?_
      refine RT.t (ob_assign rfl) ?_
      refine RT.nil ?_
      refine FinS.nil0 ?_
      repeat (first | refine JX.next ?_ | refine JX.normal_block ?_)
      refine J.sel [4] (.cons rfl .nil) ?_
      repeat refine J.seq ?_
      refine J.ret ?_
      repeat (first | refine JX.ret_pass ?_ | refine JX.ret_block ?_)
      exact JX.ret1is rfl rfl (by rw [apart_law okv.1 okw.1 hv hw hn, decide_eq_true (by omega), decide_eq_true (by omega)]; rfl)
end Go.Proofs.YtlccnpmhmdoapaaDoor
