/- value: keys, tuples. No condition. -/
import Derived.Test.YtlccnpmhmdoapaaDoorXA
import Derived.Test.YtlccnpmhmdoapaaDoorXG4
set_option maxRecDepth 20000
namespace Go.Proofs.YtlccnpmhmdoapaaDoor
open Go Go.Vc
open Go.Vl
def keyR (v : V3) : List UInt8 × Int := if okV v then (keyL v, 0) else ([], 1)
theorem keyR_ok {v : V3} (h : okV v = true) {l : List UInt8} (hl : l = keyL v) : keyR v = (l, 0) := by unfold keyR; rw [if_pos h, hl]
theorem keyR_no {v : V3} (h : okV v = false) : keyR v = ([], 1) := by unfold keyR; rw [if_neg (by rw [h]; simp)]
theorem ok_k {v : V3} (h : okV v = true) : 0 ≤ v.k ∧ v.k ≤ 3 := by
  cases ok_cases h with
  | null e => rw [e]; exact ⟨by decide, by decide⟩
  | int n e => rw [e]; exact ⟨by show (0 : Int) ≤ 1; decide, by show (1 : Int) ≤ 3; decide⟩
  | bool b e => rw [e]; exact ⟨by show (0 : Int) ≤ 2; decide, by show (2 : Int) ≤ 3; decide⟩
  | text s hs e => rw [e]; exact ⟨by show (0 : Int) ≤ 3; decide, by show (3 : Int) ≤ 3; decide⟩
theorem byte_wrap {n : Int} (h0 : 0 ≤ n) (h1 : n ≤ 255) : IntKind.u8.wrap n = ((UInt8.ofNat n.toNat).toNat : Int) := by
  rw [wrap_u8, show (UInt8.ofNat n.toNat).toNat = n.toNat from UInt8.toNat_ofNat_of_lt' (by show n.toNat < 256; omega)]
  omega
theorem ok_n2 {v : V3} (h : okV v = true) (h2 : (v.k == 2) = true) : 0 ≤ v.n ∧ v.n ≤ 255 := by
  have h2 : v.k = 2 := by simpa using h2
  cases ok_cases h with
  | null e => rw [e] at h2; cases h2
  | int n e => rw [e] at h2; cases h2
  | bool b e => rw [e]; cases b <;> exact ⟨by decide, by decide⟩
  | text s hs e => rw [e] at h2; cases h2
theorem ok_s3 {v : V3} (h : okV v = true) : v.s.size ≤ 64 := by
  cases ok_cases h with
  | null e => rw [e]; decide
  | int n e => rw [e]; exact Nat.zero_le _
  | bool b e => rw [e]; exact Nat.zero_le _
  | text s hs e => rw [e]; exact hs
theorem uns_wrap (n : Int) : IntKind.u64.wrap n = ((unsN n : Nat) : Int) := by
  rw [wrap_u64]
  unfold unsN
  omega
theorem bias_xor {n : Int} (h : I64 n) : IntKind.u64.wrap ((BitVec.ofInt 64 ((unsN n : Nat) : Int) ^^^ BitVec.ofInt 64 9223372036854775808).toNat : Int) = ((biasN n : Nat) : Int) := by
  have hu := uns_lt n
  rw [p256] at hu
  have := xor64 (a := unsN n) (b := 9223372036854775808) (by simpa using hu) (by decide)
  rw [show (9223372036854775808 : Int) = ((9223372036854775808 : Nat) : Int) by rfl, this, xor_half hu]
  unfold I64 at h
  unfold unsN biasN
  omega
theorem kp {v : V3} {k : Int} (h : (v.k == k) = true) : v.k = k := by simpa using h
theorem kn {v : V3} {k : Int} (h : (v.k == k) = false) : ¬ (v.k == k) = true := by rw [h]; simp
theorem put_ok {vs : List V3} (hl : vs.length ≤ 255) (h : ∀ v ∈ vs, okV v = true) {l : List UInt8} (e : l = UInt8.ofNat vs.length :: vs.flatMap putV) : putLs vs = (l, 0) := by
  unfold putLs
  rw [if_neg (by simp; omega), if_pos (List.all_eq_true.2 h), e]
theorem put_no {vs : List V3} (hl : vs.length ≤ 255) {v : V3} (hv : v ∈ vs) (h : okV v = false) : putLs vs = ([], 1) := by
  unfold putLs
  rw [if_neg (by simp; omega), if_neg (fun h2 => by rw [List.all_eq_true.1 h2 v hv] at h; cases h)]
theorem put_many {vs : List V3} (hl : 255 < vs.length) : putLs vs = ([], 3) := by
  unfold putLs
  rw [if_pos (by simp; omega)]
theorem v3_get {l : List V3} {i : Nat} (h : i < l.length) : l[i]? = some (l.getD i v3D) := by simp [List.getElem?_eq_getElem h]
theorem v3_mem {l : List V3} {i : Nat} (h : i < l.length) : l.getD i v3D ∈ l := by
  rw [List.getD_eq_getElem?_getD, List.getElem?_eq_getElem h]
  exact List.getElem_mem h
theorem v3_len (v : V3) : v.cells.length = 3 := rfl
theorem v3_one (x : V3) : ∀ u ∈ x.cells, u.oneCell' = true := fun u hu => by
  simp only [V3.cells, List.mem_cons, List.not_mem_nil, or_false] at hu
  rcases hu with rfl | rfl | rfl <;> rfl
theorem put_snoc {l : List V3} {i : Nat} (h : i < l.length) : (l.take (i + 1)).flatMap putV = (l.take i).flatMap putV ++ putV (l.getD i v3D) := by
  rw [List.take_add_one, List.flatMap_append, v3_get h]
  simp
theorem putV_len {v : V3} (h : okV v = true) : (putV v).length ≤ 66 := by
  cases ok_cases h with
  | null e => rw [e]; decide
  | int n e => rw [e, put_int, List.length_cons, leN_len]; decide
  | bool b e => rw [e, put_bool]; simp
  | text s hs e => rw [e, put_text]; simp; omega
theorem put_cons {xs : List UInt8} {n : UInt8} {l : List V3} {i : Nat} (h : i < l.length) (hx : xs = n :: (l.take i).flatMap putV) {ys : List UInt8} (hy : ys = xs ++ putV (l.getD i v3D)) : ys = n :: (l.take (i + 1)).flatMap putV := by
  rw [hy, hx, put_snoc h, List.cons_append]
theorem all_next {l : List V3} {i : Nat} (h : i < l.length) (ha : ∀ v ∈ l.take i, okV v = true) (hv : okV (l.getD i v3D) = true) : ∀ v ∈ l.take (i + 1), okV v = true := fun v hm => by
  rw [List.take_add_one, v3_get h] at hm
  rcases List.mem_append.1 hm with hm | hm
  · exact ha v hm
  · have : v = l.getD i v3D := by simpa using hm
    rw [this]; exact hv
theorem c_value_Key (v : V3) (hr : I64 v.n) : CallF Tryd.prog f_value_Key [GF] [.is (.agg #[.int .i64 v.k, .int .i64 v.n, .string v.s])] (.tup2 (.rep (SlC bC 1 (keyR v).1)) (.is (.int .i64 (keyR v).2))) :=
CallF.of (fn := Tryd.f13) Tryd.func13 (n := 42) rfl rfl rfl (fun _ _ => by kernel_rfl) fun E W => by
  repeat refine J.seq ?_
  refine J.plain ?_
  refine JO.box rfl rfl fun b1 => ?_
  refine JO.t (ob_assign rfl) rfl ?_
  refine JO.t (ob_assign rfl) rfl ?_
  refine JO.nil ?_
  repeat (first | refine JX.next ?_ | refine JX.normal_block ?_)
  refine J.sel [1] (.cons rfl .nil) ?_
  repeat refine J.seq ?_
  refine J.plain ?_
  refine JO.t (ob_ldN (cs := [_, _, _]) sz_api_Value rfl rfl rfl) rfl ?_
  refine JO.t (ob_call rfl (c_value_Ok v) (.one rfl .nil)) rfl ?_
  refine JO.t (ob_not rfl) rfl ?_
  refine JO.nil ?_
  repeat (first | refine JX.next ?_ | refine JX.normal_block ?_)
  refine J.sel [1, 7] (.cons rfl (.cons rfl .nil)) ?_
  repeat refine J.seq ?_
  refine J.cond rfl (fun ht7 => ?_) (fun ht7 => ?_)
  ·
    try simp only [decide_eq_true_eq, decide_eq_false_iff_not] at ht7
    have hx := keyR_no (v := v) (by simpa using ht7)
    repeat refine J.seq ?_
    refine J.plain ?_
    refine JO.t (ob_assign rfl) rfl ?_
    refine JO.t (ob_assign rfl) rfl ?_
    refine JO.nil ?_
    repeat (first | refine JX.next ?_ | refine JX.normal_block ?_)
    refine J.sel [2, 3] (.cons rfl (.cons rfl .nil)) ?_
    repeat refine J.seq ?_
    refine J.ret ?_
    repeat (first | refine JX.ret_pass ?_ | refine JX.ret_block ?_)
    exact JX.ret2sub rfl rfl rfl (by rw [hx]; exact Sub.slNilC) rfl (Sub.isEq (by rw [hx]))
  ·
    try simp only [decide_eq_true_eq, decide_eq_false_iff_not] at ht7
    refine J.skip ?_
    repeat (first | refine JX.next ?_ | refine JX.normal_block ?_)
    have hok : okV v = true := by simpa using ht7
    have hk := ok_k hok
    have hs64 := ok_s3 hok
    have hesc := esc_len v.s.data.toList
    rw [len_sz] at hesc
    have h8 := beN_len 8 (biasN v.n)
    repeat refine J.seq ?_
    refine J.plain ?_
    refine JO.t (ob_fieldAddr fo_api_Value_0 rfl) rfl ?_
    refine JO.t (ob_ld1 sz_int rfl rfl) rfl ?_
    refine JO.t (ob_convIIe ⟨_, un_int⟩ un_uint8 rfl (byte_wrap hk.1 (by omega))) rfl ?_
    refine JO.buildOwn (cs := [_]) sl_sl_uint8 (by omega) (by omega) (.cons rfl .nil) rfl rfl rfl rfl (fun b11 => ?_)
    refine JO.t (ob_assign rfl) rfl ?_
    refine JO.nil ?_
    repeat (first | refine JX.next ?_ | refine JX.normal_block ?_)
    refine J.sel [1, 4] (.cons rfl (.cons rfl .nil)) ?_
    have hG : Grows bC 1 [UInt8.ofNat v.k.toNat] (some (b11, bC (UInt8.ofNat v.k.toNat))) 1 := ⟨rfl, Nat.le_refl _, rfl⟩
    repeat refine J.seq ?_
    refine J.plain ?_
    refine JO.t (ob_fieldAddr fo_api_Value_0 rfl) rfl ?_
    refine JO.t (ob_ld1 sz_int rfl rfl) rfl ?_
    refine JO.nil ?_
    repeat (first | refine JX.next ?_ | refine JX.normal_block ?_)
    refine J.sel [1, 4, 13] (.cons rfl (.cons rfl (.cons rfl .nil))) ?_
    repeat refine J.seq ?_
    refine J.block ?_
    repeat refine J.seq ?_
    refine J.plain ?_
    refine JO.t (ob_eql rfl rfl) rfl ?_
    refine JO.t (ob_assign rfl) rfl ?_
    refine JO.nil ?_
    repeat (first | refine JX.next ?_ | refine JX.normal_block ?_)
    refine J.sel [1, 4, 13, 14] (.cons rfl (.cons rfl (.cons rfl (.cons rfl .nil)))) ?_
    repeat refine J.seq ?_
    refine J.cond rfl (fun ht14 => ?_) (fun ht14 => ?_)
    ·
      try simp only [decide_eq_true_eq, decide_eq_false_iff_not] at ht14
      repeat refine J.seq ?_
      refine J.plain ?_
      refine JO.t (ob_move rfl) rfl ?_
      refine JO.t (ob_fieldAddr fo_api_Value_1 rfl) rfl ?_
      refine JO.t (ob_ld1 sz_int64 rfl rfl) rfl ?_
      refine JO.t (ob_convIIe ⟨_, un_int64⟩ un_uint64 rfl (uns_wrap v.n)) rfl ?_
      refine JO.t (ob_xorv rfl rfl (bias_xor hr)) rfl ?_
      refine JO.t (ob_call rfl (c_value_eight (biasN v.n) true (by have := bias_lt hr; rw [p256] at this; exact this)) (.one rfl (.one rfl .nil))) rfl ?_
      refine JO.apX (eightL (biasN v.n) true) ap_sl_uint8 bC_len (by repeat (first | exact .here | apply Cx.past | apply Cx.there)) hG rfl rfl (fun L => src_slC bC_len (by omega) bC_one un_sl_uint8) (by simp) (by simp only [List.length_cons, List.length_nil, eightL, if_true, h8]; omega) (by simp only [List.length_cons, List.length_nil, eightL, if_true, h8]; omega) rfl (fun st2 cp2 hG2 => ?_)
      try dsimp only
      refine JO.t (ob_assign rfl) rfl ?_
      refine JO.nil ?_
      repeat (first | refine JX.next ?_ | refine JX.normal_block ?_)
      refine J.sel [4] (.cons rfl .nil) ?_
      refine J.freezeO bC_len hG2 (e := ty_uint8) (by repeat (first | exact .here | apply Tl.past | apply Tl.there)) (fun _ h => h) rfl rfl ?_
      have hx : keyR v = ([UInt8.ofNat v.k.toNat] ++ eightL (biasN v.n) true, 0) := keyR_ok hok (by unfold keyL keyP; rw [if_pos ht14]; rfl)
      repeat refine J.seq ?_
      refine J.plain ?_
      refine JO.t (ob_move rfl) rfl ?_
      refine JO.t (ob_assign rfl) rfl ?_
      refine JO.t (ob_assign rfl) rfl ?_
      refine JO.nil ?_
      repeat (first | refine JX.next ?_ | refine JX.normal_block ?_)
      refine J.sel [2, 3] (.cons rfl (.cons rfl .nil)) ?_
      repeat refine J.seq ?_
      refine J.ret ?_
      repeat (first | refine JX.ret_pass ?_ | refine JX.ret_block ?_)
      exact JX.ret2sub rfl rfl rfl (by rw [hx]; exact Sub.slOC hG2 (by repeat (first | exact List.mem_cons_self | apply List.mem_cons_of_mem))) rfl (Sub.isEq (by rw [hx]))
    ·
      try simp only [decide_eq_true_eq, decide_eq_false_iff_not] at ht14
      repeat refine J.seq ?_
      refine J.plain ?_
      refine JO.t (ob_eql rfl rfl) rfl ?_
      refine JO.t (ob_assign rfl) rfl ?_
      refine JO.nil ?_
      repeat (first | refine JX.next ?_ | refine JX.normal_block ?_)
      refine J.sel [1, 4, 13, 23] (.cons rfl (.cons rfl (.cons rfl (.cons rfl .nil)))) ?_
      repeat refine J.seq ?_
      refine J.cond rfl (fun ht23 => ?_) (fun ht23 => ?_)
      ·
        try simp only [decide_eq_true_eq, decide_eq_false_iff_not] at ht23
        repeat refine J.seq ?_
        refine J.plain ?_
        refine JO.t (ob_move rfl) rfl ?_
        refine JO.t (ob_fieldAddr fo_api_Value_1 rfl) rfl ?_
        refine JO.t (ob_ld1 sz_int64 rfl rfl) rfl ?_
        refine JO.t (ob_convIIe ⟨_, un_int64⟩ un_uint8 rfl (byte_wrap (ok_n2 hok ht23).1 (ok_n2 hok ht23).2)) rfl ?_
        refine JO.t (ob_buildSlice (cs := [_]) sl_sl_uint8 (by omega) (by omega) (.cons rfl .nil) rfl rfl rfl) rfl ?_
        refine JO.apX ([UInt8.ofNat v.n.toNat]) ap_sl_uint8 bC_len (by repeat (first | exact .here | apply Cx.past | apply Cx.there)) hG rfl rfl (fun L => src_new un_sl_uint8 rfl rfl) (by simp) (by simp <;> omega) (by simp <;> omega) rfl (fun st2 cp2 hG2 => ?_)
        try dsimp only
        refine JO.t (ob_assign rfl) rfl ?_
        refine JO.nil ?_
        repeat (first | refine JX.next ?_ | refine JX.normal_block ?_)
        refine J.sel [4] (.cons rfl .nil) ?_
        refine J.freezeO bC_len hG2 (e := ty_uint8) (by repeat (first | exact .here | apply Tl.past | apply Tl.there)) (fun _ h => h) rfl rfl ?_
        have hx : keyR v = ([UInt8.ofNat v.k.toNat] ++ [UInt8.ofNat v.n.toNat], 0) := keyR_ok hok (by unfold keyL keyP; rw [if_neg (kn ht14), if_pos ht23]; rfl)
        repeat refine J.seq ?_
        refine J.plain ?_
        refine JO.t (ob_move rfl) rfl ?_
        refine JO.t (ob_assign rfl) rfl ?_
        refine JO.t (ob_assign rfl) rfl ?_
        refine JO.nil ?_
        repeat (first | refine JX.next ?_ | refine JX.normal_block ?_)
        refine J.sel [2, 3] (.cons rfl (.cons rfl .nil)) ?_
        repeat refine J.seq ?_
        refine J.ret ?_
        repeat (first | refine JX.ret_pass ?_ | refine JX.ret_block ?_)
        exact JX.ret2sub rfl rfl rfl (by rw [hx]; exact Sub.slOC hG2 (by repeat (first | exact List.mem_cons_self | apply List.mem_cons_of_mem))) rfl (Sub.isEq (by rw [hx]))
      ·
        try simp only [decide_eq_true_eq, decide_eq_false_iff_not] at ht23
        repeat refine J.seq ?_
        refine J.plain ?_
        refine JO.t (ob_eql rfl rfl) rfl ?_
        refine JO.t (ob_assign rfl) rfl ?_
        refine JO.nil ?_
        repeat (first | refine JX.next ?_ | refine JX.normal_block ?_)
        refine J.sel [1, 4, 31] (.cons rfl (.cons rfl (.cons rfl .nil))) ?_
        repeat refine J.seq ?_
        refine J.cond rfl (fun ht31 => ?_) (fun ht31 => ?_)
        ·
          try simp only [decide_eq_true_eq, decide_eq_false_iff_not] at ht31
          repeat refine J.seq ?_
          refine J.plain ?_
          refine JO.t (ob_move rfl) rfl ?_
          refine JO.t (ob_fieldAddr fo_api_Value_2 rfl) rfl ?_
          refine JO.t (ob_ld1 sz_string rfl rfl) rfl ?_
          refine JO.t (ob_callF rfl (c_rep1 v.s 0 ⟨#[0, 255]⟩ (by omega) (by decide) (by decide)) (by simp) (.one rfl (.one rfl (.one rfl .nil)))) rfl ?_
          refine JO.apX (esc v.s.data.toList) ap_sl_uint8 bC_len (by repeat (first | exact .here | apply Cx.past | apply Cx.there)) hG rfl rfl (fun L => src_str un_string (bl_list _)) (by simp) (by simp only [List.length_cons, List.length_nil]; omega) (by simp only [List.length_cons, List.length_nil]; omega) rfl (fun st2 cp2 hG2 => ?_)
          try dsimp only
          refine JO.t (ob_assign rfl) rfl ?_
          refine JO.nil ?_
          repeat (first | refine JX.next ?_ | refine JX.normal_block ?_)
          refine J.sel [4] (.cons rfl .nil) ?_
          repeat refine J.seq ?_
          refine J.plain ?_
          refine JO.t (ob_move rfl) rfl ?_
          refine JO.t (ob_buildSlice (cs := [_, _]) sl_sl_uint8 (by omega) (by omega) (.cons rfl (.cons rfl .nil)) rfl rfl rfl) rfl ?_
          refine JO.apX ([0, 0]) ap_sl_uint8 bC_len (by repeat (first | exact .here | apply Cx.past | apply Cx.there)) hG2 rfl rfl (fun L => src_new un_sl_uint8 rfl rfl) (by simp) (by simp only [List.length_cons, List.length_nil, List.length_append]; omega) (by simp only [List.length_cons, List.length_nil, List.length_append]; omega) rfl (fun st3 cp3 hG3 => ?_)
          try dsimp only
          refine JO.t (ob_assign rfl) rfl ?_
          refine JO.nil ?_
          repeat (first | refine JX.next ?_ | refine JX.normal_block ?_)
          refine J.sel [4] (.cons rfl .nil) ?_
          refine J.freezeO bC_len hG3 (e := ty_uint8) (by repeat (first | exact .here | apply Tl.past | apply Tl.there)) (fun _ h => h) rfl rfl ?_
          have hx : keyR v = (([UInt8.ofNat v.k.toNat] ++ esc v.s.data.toList) ++ [0, 0], 0) := keyR_ok hok (by unfold keyL keyP; rw [if_neg (kn ht14), if_neg (kn ht23), if_pos ht31, List.append_assoc]; rfl)
          repeat refine J.seq ?_
          refine J.plain ?_
          refine JO.t (ob_move rfl) rfl ?_
          refine JO.t (ob_assign rfl) rfl ?_
          refine JO.t (ob_assign rfl) rfl ?_
          refine JO.nil ?_
          repeat (first | refine JX.next ?_ | refine JX.normal_block ?_)
          refine J.sel [2, 3] (.cons rfl (.cons rfl .nil)) ?_
          repeat refine J.seq ?_
          refine J.ret ?_
          repeat (first | refine JX.ret_pass ?_ | refine JX.ret_block ?_)
          exact JX.ret2sub rfl rfl rfl (by rw [hx]; exact Sub.slOC hG3 (by repeat (first | exact List.mem_cons_self | apply List.mem_cons_of_mem))) rfl (Sub.isEq (by rw [hx]))
        ·
          try simp only [decide_eq_true_eq, decide_eq_false_iff_not] at ht31
          refine J.skip ?_
          repeat (first | refine JX.next ?_ | refine JX.normal_block ?_)
          refine J.freezeO bC_len hG (e := ty_uint8) (by repeat (first | exact .here | apply Tl.past | apply Tl.there)) (fun _ h => h) rfl rfl ?_
          have hx : keyR v = ([UInt8.ofNat v.k.toNat], 0) := keyR_ok hok (by unfold keyL keyP; rw [if_neg (kn ht14), if_neg (kn ht23), if_neg (kn ht31)])
          repeat refine J.seq ?_
          refine J.plain ?_
          refine JO.t (ob_move rfl) rfl ?_
          refine JO.t (ob_assign rfl) rfl ?_
          refine JO.t (ob_assign rfl) rfl ?_
          refine JO.nil ?_
          repeat (first | refine JX.next ?_ | refine JX.normal_block ?_)
          refine J.sel [2, 3] (.cons rfl (.cons rfl .nil)) ?_
          repeat refine J.seq ?_
          refine J.ret ?_
          repeat (first | refine JX.ret_pass ?_ | refine JX.ret_block ?_)
          exact JX.ret2sub rfl rfl rfl (by rw [hx]; exact Sub.slOC hG (by repeat (first | exact List.mem_cons_self | apply List.mem_cons_of_mem))) rfl (Sub.isEq (by rw [hx]))
end Go.Proofs.YtlccnpmhmdoapaaDoor
