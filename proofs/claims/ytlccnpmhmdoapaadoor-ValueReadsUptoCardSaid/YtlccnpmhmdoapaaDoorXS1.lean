/- The document on values: tuples read. No condition. -/
import Derived.Test.YtlccnpmhmdoapaaDoorXS0
import Derived.Test.YtlccnpmhmdoapaaDoorXG4
set_option maxRecDepth 20000
namespace Go.Proofs.YtlccnpmhmdoapaaDoor
open Go Go.Vc
open Go.Vl
theorem g_start {l : List UInt8} (h : l.length ≠ 0) : finG [] (getN (kN l) (l.drop 1)) = getL l := by
  cases l with
  | nil => exact absurd rfl h
  | cons b r => rfl
theorem g_next {l : List UInt8} {i p q : Nat} {xs : List V3} {v : V3} (h : finG xs (getN (kN l - i) (l.drop p)) = getL l) (hi : i < kN l) (hv : getV (l.drop p) = (0, v, l.drop q)) : finG (xs ++ [v]) (getN (kN l - (i + 1)) (l.drop q)) = getL l := by
  have := fin_step (xs := xs) (n := kN l - (i + 1)) (l := l.drop p) (by rw [hv])
  rw [hv] at this
  rw [this, show kN l - (i + 1) + 1 = kN l - i by omega, h]
theorem g_err {l : List UInt8} {i p : Nat} {xs : List V3} {e : Int} (h : finG xs (getN (kN l - i) (l.drop p)) = getL l) (hi : i < kN l) (he : (getV (l.drop p)).1 = e) (h0 : e ≠ 0) : getL l = ([], e) := by
  have := fin_bad (xs := xs) (n := kN l - (i + 1)) (l := l.drop p) (by rw [he]; exact h0)
  rw [← h, show kN l - i = kN l - (i + 1) + 1 by omega, this, he]
theorem g_end {l : List UInt8} {i p : Nat} {xs : List V3} (h : finG xs (getN (kN l - i) (l.drop p)) = getL l) (hi : i = kN l) : getL l = if l.drop p = [] then (xs, 0) else ([], 6) := by
  rw [← h, hi, Nat.sub_self]
  unfold finG
  rw [getN, if_neg (by simp), List.append_nil]
theorem need_at {k : Nat} (h : k ≤ 3) : (#[Value.int .i64 0, .int .i64 8, .int .i64 1, .int .i64 1] : Array Value)[((k : Nat) : Int).toNat]? = some (.int .i64 ((needN k : Nat) : Int)) := by
  have hc : k = 0 ∨ k = 1 ∨ k = 2 ∨ k = 3 := by omega
  rcases hc with rfl | rfl | rfl | rfl <;> rfl
theorem le8_step {l : List UInt8} {p m : Nat} (hm : 1 ≤ m) (hm8 : m ≤ 8) (h : p + 8 < l.length) : leV ((l.drop (p + 1 + (m - 1))).take (8 - (m - 1))) = 256 * leV ((l.drop (p + 1 + m)).take (8 - m)) + (l.getD (p + m) 0).toNat := by
  rw [show p + 1 + (m - 1) = p + m by omega, drop_at (by omega : p + m < l.length), show 8 - (m - 1) = (8 - m) + 1 by omega, List.take_succ_cons, leV, show p + m + 1 = p + 1 + m by omega]
  omega
theorem le8_lt {l : List UInt8} {p m : Nat} (hm : 1 ≤ m) : leV ((l.drop (p + 1 + m)).take (8 - m)) < 72057594037927936 := by
  have h1 := leV_lt ((l.drop (p + 1 + m)).take (8 - m))
  have h2 : ((l.drop (p + 1 + m)).take (8 - m)).length ≤ 7 := by rw [List.length_take]; omega
  have h3 := Nat.pow_le_pow_right (by decide : 0 < 256) h2
  have h4 : (256 : Nat) ^ 7 = 72057594037927936 := by decide
  omega
theorem kd_1 {k : Nat} (h : ((k : Int) == 1) = true) : k = 1 := by simp at h; omega
theorem kd_2 {k : Nat} (h : ((k : Int) == 2) = true) : k = 2 := by simp at h; omega
theorem kd_3 {k : Nat} (h : ((k : Int) == 3) = true) : k = 3 := by simp at h; omega
theorem kd_0 {k : Nat} (h : k ≤ 3) (h1 : ((k : Int) == 1) = false) (h2 : ((k : Int) == 2) = false) (h3 : ((k : Int) == 3) = false) : k = 0 := by simp at h1 h2 h3; omega
theorem need_0 : needN 0 = 0 := rfl
theorem need_1 : needN 1 = 8 := rfl
theorem need_2 : needN 2 = 1 := rfl
theorem need_3 : needN 3 = 1 := rfl
theorem v_1 {k : Nat} (h : k = 1) (u : Int) : (⟨((k : Nat) : Int), u, e0⟩ : V3) = ⟨1, u, e0⟩ := by rw [h]; rfl
theorem v_2 {k : Nat} (h : k = 2) (u : Int) : (⟨((k : Nat) : Int), u, e0⟩ : V3) = ⟨2, u, e0⟩ := by rw [h]; rfl
theorem v_3 {k : Nat} (h : k = 3) (s : ByteArray) : (⟨((k : Nat) : Int), 0, s⟩ : V3) = ⟨3, 0, s⟩ := by rw [h]; rfl
theorem v_0 {k : Nat} (h : k = 0) : (⟨((k : Nat) : Int), 0, e0⟩ : V3) = v3D := by rw [h]; rfl
theorem c_ref01_Get (l : List UInt8) (hl : l.length ≤ 1048576) : CallTy Tryd.prog f_ref01_Get [.rep (SlC bC 1 l)] (.tup2 (.rep (SlC V3.cells 3 (getL l).1)) (.is (.int .i64 (getL l).2))) :=
  CallTy.of (fn := Tryd.f24) Tryd.func24 (n := 123) rfl rfl rfl (fun _ _ => by kernel_rfl) fun E W => by
  refine J.openSlC (s := 0) rfl (fun a len cap b o hlen ha hlc => ?_)
  subst hlen
  have hkb : kN l < 256 := UInt8.toNat_lt _
  repeat refine J.seq ?_
  refine J.plain ?_
  refine JO.t (ob_assign rfl) rfl ?_
  refine JO.t (ob_assign rfl) rfl ?_
  refine JO.nil ?_
  repeat (first | refine JX.next ?_ | refine JX.normal_block ?_)
  refine J.sel [0] (.cons rfl .nil) ?_
  repeat refine J.seq ?_
  refine J.plain ?_
  refine JO.t (ob_move rfl) rfl ?_
  refine JO.t (ob_len un_sl_uint8 rfl) rfl ?_
  refine JO.t (ob_eql rfl rfl) rfl ?_
  refine JO.nil ?_
  repeat (first | refine JX.next ?_ | refine JX.normal_block ?_)
  refine J.sel [0, 14] (.cons rfl (.cons rfl .nil)) ?_
  repeat refine J.seq ?_
  refine J.cond rfl (fun ht14 => ?_) (fun ht14 => ?_)
  ·
    try simp only [decide_eq_true_eq, decide_eq_false_iff_not] at ht14
    have hx : getL l = ([], 5) := by
      have : l = [] := List.length_eq_zero_iff.1 (by simp at ht14; exact List.length_eq_zero_iff.2 ht14)
      subst this
      rfl
    repeat refine J.seq ?_
    refine J.plain ?_
    refine JO.t (ob_assign rfl) rfl ?_
    refine JO.t (ob_assign rfl) rfl ?_
    refine JO.nil ?_
    repeat (first | refine JX.next ?_ | refine JX.normal_block ?_)
    refine J.sel [2, 3] (.cons rfl (.cons rfl .nil)) ?_
    repeat refine J.seq ?_
    refine J.ret ?_
    repeat (first | refine JX.ret_pass ?_ | refine JX.ret_block ?_)
    exact JX.ret2sub rfl rfl rfl (by rw [hx]; exact Sub.slNilC) rfl (Sub.isEq (by rw [hx]))
  ·
    try simp only [decide_eq_true_eq, decide_eq_false_iff_not] at ht14
    refine J.skip ?_
    repeat (first | refine JX.next ?_ | refine JX.normal_block ?_)
    have hl0 : 1 ≤ l.length := by
      rcases Nat.eq_zero_or_pos l.length with e | e
      · rw [e] at ht14; cases ht14
      · exact e
    repeat refine J.seq ?_
    refine J.plain ?_
    refine JO.t (ob_assign rfl) rfl ?_
    refine JO.nil ?_
    repeat (first | refine JX.next ?_ | refine JX.normal_block ?_)
    refine J.sel [0, 4] (.cons rfl (.cons rfl .nil)) ?_
    repeat refine J.seq ?_
    refine J.plain ?_
    refine JO.t (ob_assign rfl) rfl ?_
    refine JO.nil ?_
    repeat (first | refine JX.next ?_ | refine JX.normal_block ?_)
    refine J.sel [0, 4, 5] (.cons rfl (.cons rfl (.cons rfl .nil))) ?_
    repeat refine J.seq ?_
    refine J.plain ?_
    refine JO.t (ob_assign rfl) rfl ?_
    refine JO.nil ?_
    repeat (first | refine JX.next ?_ | refine JX.normal_block ?_)
    refine J.sel [0, 4, 5, 6] (.cons rfl (.cons rfl (.cons rfl (.cons rfl .nil)))) ?_
    repeat refine J.seq ?_
    refine J.block ?_
    repeat refine J.seq ?_
    refine J.loopG (α := Nat × Nat × List V3 × Option (Nat × List Value) × Nat) (fun z => [(0, _), (4, .is (sliceO z.2.2.2.1 z.2.2.1.length z.2.2.2.2)), (5, .is (.int .i64 (z.2.1 : Nat))), (6, .is (.int .i64 (z.1 : Nat)))]) (fun z => ownO z.2.2.2.1 ty_api_Value []) (fun z => fun _ => True) (fun z => z.1 ≤ kN l ∧ 1 ≤ z.2.1 ∧ z.2.1 ≤ l.length ∧ z.2.2.1.length = z.1 ∧ finG z.2.2.1 (getN (kN l - z.1) (l.drop z.2.1)) = getL l ∧ Grows V3.cells 3 z.2.2.1 z.2.2.2.1 z.2.2.2.2) (fun z => kN l - z.1) (0, 1, [], none, 0) [0, 4, 5, 6] (.cons rfl (.cons rfl (.cons rfl (.cons rfl .nil)))) rfl (fun _ => trivial) ⟨Nat.zero_le _, Nat.le_refl _, hl0, rfl, g_start (by omega), rfl⟩ fun ⟨i, p, xs, st, cp⟩ ⟨hi, hp1, hp, hxl, hf, hG⟩ => ?_
    try dsimp only
    try dsimp only at p
    try dsimp only at xs
    try dsimp only at st
    try dsimp only at cp
    try dsimp only at hi
    try dsimp only at hp1
    try dsimp only at hp
    try dsimp only at hxl
    try dsimp only at hf
    try dsimp only at hG
    repeat refine J.seq ?_
    refine J.plain ?_
    refine JO.t (ob_move rfl) rfl ?_
    refine JO.t (ob_move rfl) rfl ?_
    refine JO.t (ob_indexAddr el_sl_uint8 rfl (ha (by omega)) rfl (by omega) (by omega)) rfl ?_
    refine JO.t (ob_loadG1 (enc := bC) (sz := 1) (len := l.length) (i := 0) (j := 0) (y := l.getD (0) 0) sz_uint8 rfl (by repeat (first | exact List.mem_cons_self | apply List.mem_cons_of_mem)) (ha (by omega)) (u8_get (by omega)) (by omega) rfl) rfl ?_
    refine JO.t (ob_convIIe (cc := ((kN l : Nat) : Int)) ⟨_, un_uint8⟩ un_int rfl (wrap64_eq (by omega) (by show ((kN l : Nat) : Int) < _; omega))) rfl ?_
    refine JO.t (ob_lss rfl rfl) rfl ?_
    refine JO.nil ?_
    repeat (first | refine JX.next ?_ | refine JX.normal_block ?_)
    refine J.sel [0, 4, 5, 6, 20] (.cons rfl (.cons rfl (.cons rfl (.cons rfl (.cons rfl .nil))))) ?_
    repeat refine J.seq ?_
    refine J.cond rfl (fun ht20 => ?_) (fun ht20 => ?_)
    ·
      try simp only [decide_eq_true_eq, decide_eq_false_iff_not] at ht20
      refine J.skip ?_
      repeat (first | refine JX.next ?_ | refine JX.normal_block ?_)
      repeat refine J.seq ?_
      refine J.block ?_
      have hib : i < kN l := by omega
      repeat refine J.seq ?_
      refine J.plain ?_
      refine JO.t (ob_move rfl) rfl ?_
      refine JO.t (ob_move rfl) rfl ?_
      refine JO.t (ob_len un_sl_uint8 rfl) rfl ?_
      refine JO.t (ob_geq rfl rfl) rfl ?_
      refine JO.nil ?_
      repeat (first | refine JX.next ?_ | refine JX.normal_block ?_)
      refine J.sel [0, 4, 5, 6, 26] (.cons rfl (.cons rfl (.cons rfl (.cons rfl (.cons rfl .nil))))) ?_
      repeat refine J.seq ?_
      refine J.cond rfl (fun ht26 => ?_) (fun ht26 => ?_)
      ·
        try simp only [decide_eq_true_eq, decide_eq_false_iff_not] at ht26
        have hx := g_err hf hib (gv_none (by omega)) (by decide)
        repeat refine J.seq ?_
        refine J.plain ?_
        refine JO.t (ob_assign rfl) rfl ?_
        refine JO.t (ob_assign rfl) rfl ?_
        refine JO.nil ?_
        repeat (first | refine JX.next ?_ | refine JX.normal_block ?_)
        refine J.sel [2, 3] (.cons rfl (.cons rfl .nil)) ?_
        repeat refine J.seq ?_
        refine J.ret ?_
        repeat (first | refine JX.ret_pass ?_ | refine JX.ret_block ?_)
        exact JX.ret2sub rfl rfl rfl (by rw [hx]; exact Sub.slNilC) rfl (Sub.isEq (by rw [hx]))
      ·
        try simp only [decide_eq_true_eq, decide_eq_false_iff_not] at ht26
        refine J.skip ?_
        repeat (first | refine JX.next ?_ | refine JX.normal_block ?_)
        have hlt : p < l.length := by omega
        have hkd256 := UInt8.toNat_lt (l.getD p 0)
        repeat refine J.seq ?_
        refine J.plain ?_
        refine JO.t (ob_move rfl) rfl ?_
        refine JO.t (ob_move rfl) rfl ?_
        refine JO.t (ob_indexAddr el_sl_uint8 rfl (ha (by omega)) rfl (by omega) (by omega)) rfl ?_
        refine JO.t (ob_loadG1 (enc := bC) (sz := 1) (len := l.length) (i := p) (j := 0) (y := l.getD (p) 0) sz_uint8 rfl (by repeat (first | exact List.mem_cons_self | apply List.mem_cons_of_mem)) (ha (by omega)) (u8_get (by omega)) (by omega) rfl) rfl ?_
        refine JO.t (ob_convIIe (cc := (((l.getD p 0).toNat : Nat) : Int)) ⟨_, un_uint8⟩ un_int rfl (wrap64_eq (by omega) (by omega))) rfl ?_
        refine JO.t (ob_build (cs := [_, _, _]) sh_api_Value (.cons rfl .nil) rfl rfl) rfl ?_
        refine JO.alloc zo_api_Value rfl fun b7 => ?_
        refine JO.m (obm_store rfl rfl (by repeat (first | exact .here | apply Upd.there)) (by first | exact cnt_is rfl rfl | exact cnt_ex) (by first | exact cnt_is rfl rfl | exact cnt_ex | exact cnt_aggO) ss_api_Value) (by rfl) ?_
        refine JO.nil ?_
        repeat (first | refine JX.next ?_ | refine JX.normal_block ?_)
        refine J.sel [0, 4, 5, 6, 7] (.cons rfl (.cons rfl (.cons rfl (.cons rfl (.cons rfl .nil))))) ?_
        repeat refine J.seq ?_
        refine J.plain ?_
        refine JO.t (ob_move rfl) rfl ?_
        refine JO.t (ob_addc (cc := ((p + 1 : Nat) : Int)) rfl rfl (by omega) (by omega) (by omega)) rfl ?_
        refine JO.t (ob_assign rfl) rfl ?_
        refine JO.nil ?_
        repeat (first | refine JX.next ?_ | refine JX.normal_block ?_)
        refine J.sel [0, 4, 5, 6, 7] (.cons rfl (.cons rfl (.cons rfl (.cons rfl (.cons rfl .nil))))) ?_
        repeat refine J.seq ?_
        refine J.plain ?_
        refine JO.t (ob_fieldAddr fo_api_Value_0 rfl) rfl ?_
        refine JO.t (ob_ld1 sz_int rfl rfl) rfl ?_
        refine JO.t (ob_gtr rfl rfl) rfl ?_
        refine JO.nil ?_
        repeat (first | refine JX.next ?_ | refine JX.normal_block ?_)
        refine J.sel [0, 4, 5, 6, 7, 37] (.cons rfl (.cons rfl (.cons rfl (.cons rfl (.cons rfl (.cons rfl .nil)))))) ?_
        repeat refine J.seq ?_
        refine J.cond rfl (fun ht37 => ?_) (fun ht37 => ?_)
        ·
          try simp only [decide_eq_true_eq, decide_eq_false_iff_not] at ht37
          have hx := g_err hf hib (gv_kind hlt (by omega)) (by decide)
          repeat refine J.seq ?_
          refine J.plain ?_
          refine JO.t (ob_assign rfl) rfl ?_
          refine JO.t (ob_assign rfl) rfl ?_
          refine JO.nil ?_
          repeat (first | refine JX.next ?_ | refine JX.normal_block ?_)
          refine J.sel [2, 3] (.cons rfl (.cons rfl .nil)) ?_
          repeat refine J.seq ?_
          refine J.ret ?_
          repeat (first | refine JX.ret_pass ?_ | refine JX.ret_block ?_)
          exact JX.ret2sub rfl rfl rfl (by rw [hx]; exact Sub.slNilC) rfl (Sub.isEq (by rw [hx]))
        ·
          try simp only [decide_eq_true_eq, decide_eq_false_iff_not] at ht37
          refine J.skip ?_
          repeat (first | refine JX.next ?_ | refine JX.normal_block ?_)
          have hk3 : (l.getD p 0).toNat ≤ 3 := by omega
          have hn8 : needN (l.getD p 0).toNat ≤ 8 := by unfold needN; split; omega; split <;> omega
          repeat refine J.seq ?_
          refine J.plain ?_
          refine JO.t (ob_build (cs := [_, _, _, _]) sh_4_int (.cons rfl (.cons rfl (.cons rfl (.cons rfl .nil)))) rfl rfl) rfl ?_
          refine JO.t (ob_fieldAddr fo_api_Value_0 rfl) rfl ?_
          refine JO.t (ob_ld1 sz_int rfl rfl) rfl ?_
          refine JO.t (ob_indexArr (n := 4) (e := 3) (by kernel_rfl) sz_int (by kernel_rfl) rfl rfl (by omega) (by omega) (need_at hk3)) rfl ?_
          refine JO.t (ob_assign rfl) rfl ?_
          refine JO.nil ?_
          repeat (first | refine JX.next ?_ | refine JX.normal_block ?_)
          refine J.sel [0, 4, 5, 6, 7, 8] (.cons rfl (.cons rfl (.cons rfl (.cons rfl (.cons rfl (.cons rfl .nil)))))) ?_
          repeat refine J.seq ?_
          refine J.plain ?_
          refine JO.t (ob_move rfl) rfl ?_
          refine JO.t (ob_move rfl) rfl ?_
          refine JO.t (ob_addc (cc := ((p + 1 + needN (l.getD p 0).toNat : Nat) : Int)) rfl rfl (by omega) (by omega) (by omega)) rfl ?_
          refine JO.t (ob_move rfl) rfl ?_
          refine JO.t (ob_len un_sl_uint8 rfl) rfl ?_
          refine JO.t (ob_gtr rfl rfl) rfl ?_
          refine JO.nil ?_
          repeat (first | refine JX.next ?_ | refine JX.normal_block ?_)
          refine J.sel [0, 4, 5, 6, 7, 8, 47] (.cons rfl (.cons rfl (.cons rfl (.cons rfl (.cons rfl (.cons rfl (.cons rfl .nil))))))) ?_
          repeat refine J.seq ?_
          refine J.cond rfl (fun ht47 => ?_) (fun ht47 => ?_)
          ·
            try simp only [decide_eq_true_eq, decide_eq_false_iff_not] at ht47
            have hx := g_err hf hib (gv_short hlt hk3 (by omega)) (by decide)
            repeat refine J.seq ?_
            refine J.plain ?_
            refine JO.t (ob_assign rfl) rfl ?_
            refine JO.t (ob_assign rfl) rfl ?_
            refine JO.nil ?_
            repeat (first | refine JX.next ?_ | refine JX.normal_block ?_)
            refine J.sel [2, 3] (.cons rfl (.cons rfl .nil)) ?_
            repeat refine J.seq ?_
            refine J.ret ?_
            repeat (first | refine JX.ret_pass ?_ | refine JX.ret_block ?_)
            exact JX.ret2sub rfl rfl rfl (by rw [hx]; exact Sub.slNilC) rfl (Sub.isEq (by rw [hx]))
          ·
            try simp only [decide_eq_true_eq, decide_eq_false_iff_not] at ht47
            refine J.skip ?_
            repeat (first | refine JX.next ?_ | refine JX.normal_block ?_)
            repeat refine J.seq ?_
            refine J.plain ?_
            refine JO.t (ob_fieldAddr fo_api_Value_0 rfl) rfl ?_
            refine JO.t (ob_ld1 sz_int rfl rfl) rfl ?_
            refine JO.nil ?_
            repeat (first | refine JX.next ?_ | refine JX.normal_block ?_)
            refine J.sel [0, 4, 5, 6, 7, 8, 49] (.cons rfl (.cons rfl (.cons rfl (.cons rfl (.cons rfl (.cons rfl (.cons rfl .nil))))))) ?_
            repeat refine J.seq ?_
            refine J.block ?_
            repeat refine J.seq ?_
            refine J.plain ?_
            refine JO.t (ob_eql rfl rfl) rfl ?_
            refine JO.t (ob_assign rfl) rfl ?_
            refine JO.nil ?_
            repeat (first | refine JX.next ?_ | refine JX.normal_block ?_)
            refine J.sel [0, 4, 5, 6, 7, 8, 49, 50] (.cons rfl (.cons rfl (.cons rfl (.cons rfl (.cons rfl (.cons rfl (.cons rfl (.cons rfl .nil)))))))) ?_
            repeat refine J.seq ?_
            refine J.cond rfl (fun ht50 => ?_) (fun ht50 => ?_)
            ·
              try simp only [decide_eq_true_eq, decide_eq_false_iff_not] at ht50
              have hkd := kd_1 ht50
              have h8 : p + 8 < l.length := by rw [hkd, need_1] at ht47; omega
              repeat refine J.seq ?_
              refine J.plain ?_
              refine JO.t (ob_assign rfl) rfl ?_
              refine JO.nil ?_
              repeat (first | refine JX.next ?_ | refine JX.normal_block ?_)
              refine J.sel [0, 4, 5, 6, 7, 8, 9] (.cons rfl (.cons rfl (.cons rfl (.cons rfl (.cons rfl (.cons rfl (.cons rfl .nil))))))) ?_
              repeat refine J.seq ?_
              refine J.plain ?_
              refine JO.t (ob_assign rfl) rfl ?_
              refine JO.nil ?_
              repeat (first | refine JX.next ?_ | refine JX.normal_block ?_)
              refine J.sel [0, 4, 5, 6, 7, 8, 9, 10] (.cons rfl (.cons rfl (.cons rfl (.cons rfl (.cons rfl (.cons rfl (.cons rfl (.cons rfl .nil)))))))) ?_
              repeat refine J.seq ?_
              refine J.block ?_
              repeat refine J.seq ?_
              refine J.loopG (α := Nat) (fun m => [(0, _), (4, _), (5, _), (6, _), (7, _), (8, _), (9, .is (.int .u64 ((leV ((l.drop (p + 1 + m)).take (8 - m))) : Nat))), (10, .is (.int .i64 ((m : Nat) - 1)))]) (fun m => ⟨b7, ty_api_Value, .is (.agg #[.int .i64 (((l.getD p 0).toNat : Nat) : Int), .int .i64 0, .string e0])⟩ :: ownO st ty_api_Value []) (fun m => fun _ => True) (fun m => m ≤ 8) (fun m => m) 8 [0, 4, 5, 6, 7, 8, 9, 10] (.cons rfl (.cons rfl (.cons rfl (.cons rfl (.cons rfl (.cons rfl (.cons rfl (.cons rfl .nil)))))))) rfl (fun _ => trivial) (Nat.le_refl _) fun m hm8 => ?_
              try dsimp only
              try dsimp only at hm8
              repeat refine J.seq ?_
              refine J.plain ?_
              refine JO.t (ob_move rfl) rfl ?_
              refine JO.t (ob_geq rfl rfl) rfl ?_
              refine JO.nil ?_
              repeat (first | refine JX.next ?_ | refine JX.normal_block ?_)
              refine J.sel [0, 4, 5, 6, 7, 8, 9, 10, 53] (.cons rfl (.cons rfl (.cons rfl (.cons rfl (.cons rfl (.cons rfl (.cons rfl (.cons rfl (.cons rfl .nil))))))))) ?_
              repeat refine J.seq ?_
              refine J.cond rfl (fun ht53 => ?_) (fun ht53 => ?_)
              ·
                try simp only [decide_eq_true_eq, decide_eq_false_iff_not] at ht53
                refine J.skip ?_
                repeat (first | refine JX.next ?_ | refine JX.normal_block ?_)
                repeat refine J.seq ?_
                refine J.block ?_
                have hm1 : 1 ≤ m := by omega
                have hu := le8_lt (l := l) (p := p) hm1
                repeat refine J.seq ?_
                refine J.plain ?_
                refine JO.t (ob_move rfl) rfl ?_
                refine JO.t (ob_mulv (v := ((256 * (leV ((l.drop (p + 1 + m)).take (8 - m))) : Nat) : Int)) rfl rfl (by rw [wrap_u64]; omega)) rfl ?_
                refine JO.t (ob_move rfl) rfl ?_
                refine JO.t (ob_move rfl) rfl ?_
                refine JO.t (ob_move rfl) rfl ?_
                refine JO.t (ob_addc (cc := ((p + m : Nat) : Int)) rfl rfl (by omega) (by omega) (by omega)) rfl ?_
                refine JO.t (ob_indexAddr el_sl_uint8 rfl (ha (by omega)) rfl (by omega) (by omega)) rfl ?_
                refine JO.t (ob_loadG1 (enc := bC) (sz := 1) (len := l.length) (i := p + m) (j := 0) (y := l.getD (p + m) 0) sz_uint8 rfl (by repeat (first | exact List.mem_cons_self | apply List.mem_cons_of_mem)) (ha (by omega)) (u8_get (by omega)) (by omega) rfl) rfl ?_
                refine JO.t (ob_convIIe (cc := ((l.getD (p + m) 0).toNat : Int)) ⟨_, un_uint8⟩ un_uint64 rfl (by have := UInt8.toNat_lt (l.getD (p + m) 0); rw [wrap_u64]; omega)) rfl ?_
                refine JO.t (ob_addv (v := (((leV ((l.drop (p + 1 + (m - 1))).take (8 - (m - 1)))) : Nat) : Int)) rfl rfl (by rw [le8_step hm1 hm8 h8, wrap_u64]; have := UInt8.toNat_lt (l.getD (p + m) 0); omega)) rfl ?_
                refine JO.t (ob_assign rfl) rfl ?_
                refine JO.nil ?_
                repeat (first | refine JX.next ?_ | refine JX.normal_block ?_)
                refine J.sel [0, 4, 5, 6, 7, 8, 9, 10] (.cons rfl (.cons rfl (.cons rfl (.cons rfl (.cons rfl (.cons rfl (.cons rfl (.cons rfl .nil)))))))) ?_
                repeat refine J.seq ?_
                refine J.plain ?_
                refine JO.t (ob_move rfl) rfl ?_
                refine JO.t (ob_subc (cc := (((m - 1 : Nat) : Int) - 1)) rfl rfl (by omega) (by omega) (by omega)) rfl ?_
                refine JO.t (ob_assign rfl) rfl ?_
                refine JO.nil ?_
                repeat refine JX.normal_block ?_
                refine JX.roundG (x := m) (m - 1) ?_ ?_ [0, 4, 5, 6, 7, 8, 9, 10] ?_ ?_ ?_ ?_
                · exact (by omega)
                · exact (by omega)
                · exact (.cons rfl (.cons rfl (.cons rfl (.cons rfl (.cons rfl (.cons rfl (.cons rfl (.cons rfl .nil))))))))
                · repeat (first | exact .all | exact .nil | refine Has.own (by repeat (first | exact .here | apply Tl.past | apply Tl.there)) ?_ | refine Has.cons (by repeat (first | exact .here | apply Pk.past | apply Pk.there)) ?_)
                · exact fun G hG => by repeat (first | exact hG | refine List.mem_cons_of_mem _ ?_)
                · exact fun _ _ _ => fun _ _ => trivial
              ·
                try simp only [decide_eq_true_eq, decide_eq_false_iff_not] at ht53
                repeat refine J.seq ?_
                refine J.exit ?_
                repeat (first | refine JX.hit ?_ | refine JX.miss rfl ?_ | refine JX.exit_pass ?_)
                repeat (first | refine JX.next ?_ | refine JX.normal_block ?_)
                have he : m = 0 := by omega
                subst he
                repeat refine J.seq ?_
                refine J.plain ?_
                refine JO.t (ob_move rfl) rfl ?_
                refine JO.t (ob_convIIe (cc := sgnI (leV ((l.drop (p + 1 + 0)).take (8 - 0)))) ⟨_, un_uint64⟩ un_int64 rfl rfl) rfl ?_
                refine JO.t (ob_fieldAddr fo_api_Value_1 rfl) rfl ?_
                refine JO.m (obm_storeF (cs' := [_, _, _]) rfl rfl (by repeat (first | exact .here | apply Upd.there)) rfl rfl rfl rfl ss_int64) (by rfl) ?_
                refine JO.nil ?_
                repeat (first | refine JX.next ?_ | refine JX.normal_block ?_)
                refine J.sel [0, 4, 5, 6, 7, 8] (.cons rfl (.cons rfl (.cons rfl (.cons rfl (.cons rfl (.cons rfl .nil)))))) ?_
                have hnd : needN (l.getD p 0).toNat = 8 := by rw [hkd]; rfl
                repeat refine J.seq ?_
                refine J.plain ?_
                refine JO.t (ob_move rfl) rfl ?_
                refine JO.t (ob_move rfl) rfl ?_
                refine JO.t (ob_addc (cc := ((p + 1 + 8 : Nat) : Int)) rfl rfl (by omega) (by omega) (by omega)) rfl ?_
                refine JO.t (ob_assign rfl) rfl ?_
                refine JO.nil ?_
                repeat (first | refine JX.next ?_ | refine JX.normal_block ?_)
                refine J.sel [0, 4, 5, 6, 7] (.cons rfl (.cons rfl (.cons rfl (.cons rfl (.cons rfl .nil))))) ?_
                repeat refine J.seq ?_
                refine J.plain ?_
                refine JO.t (ob_move rfl) rfl ?_
                refine JO.t (ob_ldN (cs := [_, _, _]) sz_api_Value rfl rfl rfl) rfl ?_
                refine JO.t (ob_buildSlice (cs := [_, _, _]) sl_sl_api_Value (by omega) (by omega) (.cons rfl .nil) rfl rfl rfl) rfl ?_
                refine JO.apX ([⟨(((l.getD p 0).toNat : Nat) : Int), sgnI (leV ((l.drop (p + 1 + 0)).take (8 - 0))), e0⟩]) ap_sl_api_Value v3_len (by repeat (first | exact .here | apply Cx.past | apply Cx.there)) hG rfl rfl (fun L => src_new un_sl_api_Value rfl rfl) (by simp) (by simp <;> omega) (by simp <;> omega) rfl (fun st1 cp1 hG1 => ?_)
                try dsimp only
                refine JO.t (ob_assign rfl) rfl ?_
                refine JO.nil ?_
                repeat (first | refine JX.next ?_ | refine JX.normal_block ?_)
                refine J.sel [0, 4, 5, 6] (.cons rfl (.cons rfl (.cons rfl (.cons rfl .nil)))) ?_
                repeat refine J.seq ?_
                refine J.plain ?_
                refine JO.t (ob_move rfl) rfl ?_
                refine JO.t (ob_addc (cc := ((i + 1 : Nat) : Int)) rfl rfl (by omega) (by omega) (by omega)) rfl ?_
                refine JO.t (ob_assign rfl) rfl ?_
                refine JO.nil ?_
                repeat refine JX.normal_block ?_
                refine JX.roundG (x := ⟨i, p, xs, st, cp⟩) (i + 1, p + 1 + 8, xs ++ [⟨(((l.getD p 0).toNat : Nat) : Int), sgnI (leV ((l.drop (p + 1 + 0)).take (8 - 0))), e0⟩], st1, cp1) ?_ ?_ [0, 4, 5, 6] ?_ ?_ ?_ ?_
                · exact ⟨by dsimp only; omega, by dsimp only; omega, by dsimp only; omega, by show (xs ++ _).length = _; simp [hxl], g_next hf hib (by rw [gv_1 h8 hkd, v_1 hkd]), hG1⟩
                · exact (by simp only; omega)
                · exact (.cons rfl (.cons rfl (.cons rfl (.cons rfl .nil))))
                · repeat (first | exact .all | exact .nil | refine Has.own (by repeat (first | exact .here | apply Tl.past | apply Tl.there)) ?_ | refine Has.cons (by repeat (first | exact .here | apply Pk.past | apply Pk.there)) ?_)
                · exact fun G hG => by repeat (first | exact hG | refine List.mem_cons_of_mem _ ?_)
                · exact fun _ _ _ => fun _ _ => trivial
            ·
              try simp only [decide_eq_true_eq, decide_eq_false_iff_not] at ht50
              repeat refine J.seq ?_
              refine J.plain ?_
              refine JO.t (ob_eql rfl rfl) rfl ?_
              refine JO.t (ob_assign rfl) rfl ?_
              refine JO.nil ?_
              repeat (first | refine JX.next ?_ | refine JX.normal_block ?_)
              refine J.sel [0, 4, 5, 6, 7, 8, 49, 69] (.cons rfl (.cons rfl (.cons rfl (.cons rfl (.cons rfl (.cons rfl (.cons rfl (.cons rfl .nil)))))))) ?_
              repeat refine J.seq ?_
              refine J.cond rfl (fun ht69 => ?_) (fun ht69 => ?_)
              ·
                try simp only [decide_eq_true_eq, decide_eq_false_iff_not] at ht69
                have hkd := kd_2 ht69
                have h2 : p + 1 < l.length := by rw [hkd, need_2] at ht47; omega
                have hnb := UInt8.toNat_lt (l.getD (p + 1) 0)
                repeat refine J.seq ?_
                refine J.plain ?_
                refine JO.t (ob_move rfl) rfl ?_
                refine JO.t (ob_move rfl) rfl ?_
                refine JO.t (ob_indexAddr el_sl_uint8 rfl (ha (by omega)) rfl (by omega) (by omega)) rfl ?_
                refine JO.t (ob_loadG1 (enc := bC) (sz := 1) (len := l.length) (i := p + 1) (j := 0) (y := l.getD (p + 1) 0) sz_uint8 rfl (by repeat (first | exact List.mem_cons_self | apply List.mem_cons_of_mem)) (ha (by omega)) (u8_get (by omega)) (by omega) rfl) rfl ?_
                refine JO.t (ob_convIIe (cc := (((l.getD (p + 1) 0).toNat : Nat) : Int)) ⟨_, un_uint8⟩ un_int64 rfl (wrap64_eq (by omega) (by omega))) rfl ?_
                refine JO.t (ob_fieldAddr fo_api_Value_1 rfl) rfl ?_
                refine JO.m (obm_storeF (cs' := [_, _, _]) rfl rfl (by repeat (first | exact .here | apply Upd.there)) rfl rfl rfl rfl ss_int64) (by rfl) ?_
                refine JO.nil ?_
                repeat (first | refine JX.next ?_ | refine JX.normal_block ?_)
                refine J.sel [0, 4, 5, 6, 7, 8] (.cons rfl (.cons rfl (.cons rfl (.cons rfl (.cons rfl (.cons rfl .nil)))))) ?_
                repeat refine J.seq ?_
                refine J.plain ?_
                refine JO.t (ob_move rfl) rfl ?_
                refine JO.t (ob_move rfl) rfl ?_
                refine JO.t (ob_indexAddr el_sl_uint8 rfl (ha (by omega)) rfl (by omega) (by omega)) rfl ?_
                refine JO.t (ob_loadG1 (enc := bC) (sz := 1) (len := l.length) (i := p + 1) (j := 0) (y := l.getD (p + 1) 0) sz_uint8 rfl (by repeat (first | exact List.mem_cons_self | apply List.mem_cons_of_mem)) (ha (by omega)) (u8_get (by omega)) (by omega) rfl) rfl ?_
                refine JO.t (ob_gtr rfl rfl) rfl ?_
                refine JO.nil ?_
                repeat (first | refine JX.next ?_ | refine JX.normal_block ?_)
                refine J.sel [0, 4, 5, 6, 7, 8, 81] (.cons rfl (.cons rfl (.cons rfl (.cons rfl (.cons rfl (.cons rfl (.cons rfl .nil))))))) ?_
                repeat refine J.seq ?_
                refine J.cond rfl (fun ht81 => ?_) (fun ht81 => ?_)
                ·
                  try simp only [decide_eq_true_eq, decide_eq_false_iff_not] at ht81
                  have hx := g_err hf hib (e := 6) (by rw [gv_2 h2 hkd, if_pos (by omega)]) (by decide)
                  repeat refine J.seq ?_
                  refine J.plain ?_
                  refine JO.t (ob_assign rfl) rfl ?_
                  refine JO.t (ob_assign rfl) rfl ?_
                  refine JO.nil ?_
                  repeat (first | refine JX.next ?_ | refine JX.normal_block ?_)
                  refine J.sel [2, 3] (.cons rfl (.cons rfl .nil)) ?_
                  repeat refine J.seq ?_
                  refine J.ret ?_
                  repeat (first | refine JX.ret_pass ?_ | refine JX.ret_block ?_)
                  exact JX.ret2sub rfl rfl rfl (by rw [hx]; exact Sub.slNilC) rfl (Sub.isEq (by rw [hx]))
                ·
                  try simp only [decide_eq_true_eq, decide_eq_false_iff_not] at ht81
                  refine J.skip ?_
                  repeat (first | refine JX.next ?_ | refine JX.normal_block ?_)
                  have hnd : needN (l.getD p 0).toNat = 1 := by rw [hkd]; rfl
                  repeat refine J.seq ?_
                  refine J.plain ?_
                  refine JO.t (ob_move rfl) rfl ?_
                  refine JO.t (ob_move rfl) rfl ?_
                  refine JO.t (ob_addc (cc := ((p + 1 + 1 : Nat) : Int)) rfl rfl (by omega) (by omega) (by omega)) rfl ?_
                  refine JO.t (ob_assign rfl) rfl ?_
                  refine JO.nil ?_
                  repeat (first | refine JX.next ?_ | refine JX.normal_block ?_)
                  refine J.sel [0, 4, 5, 6, 7] (.cons rfl (.cons rfl (.cons rfl (.cons rfl (.cons rfl .nil))))) ?_
                  repeat refine J.seq ?_
                  refine J.plain ?_
                  refine JO.t (ob_move rfl) rfl ?_
                  refine JO.t (ob_ldN (cs := [_, _, _]) sz_api_Value rfl rfl rfl) rfl ?_
                  refine JO.t (ob_buildSlice (cs := [_, _, _]) sl_sl_api_Value (by omega) (by omega) (.cons rfl .nil) rfl rfl rfl) rfl ?_
                  refine JO.apX ([⟨(((l.getD p 0).toNat : Nat) : Int), (((l.getD (p + 1) 0).toNat : Nat) : Int), e0⟩]) ap_sl_api_Value v3_len (by repeat (first | exact .here | apply Cx.past | apply Cx.there)) hG rfl rfl (fun L => src_new un_sl_api_Value rfl rfl) (by simp) (by simp <;> omega) (by simp <;> omega) rfl (fun st1 cp1 hG1 => ?_)
                  try dsimp only
                  refine JO.t (ob_assign rfl) rfl ?_
                  refine JO.nil ?_
                  repeat (first | refine JX.next ?_ | refine JX.normal_block ?_)
                  refine J.sel [0, 4, 5, 6] (.cons rfl (.cons rfl (.cons rfl (.cons rfl .nil)))) ?_
                  repeat refine J.seq ?_
                  refine J.plain ?_
                  refine JO.t (ob_move rfl) rfl ?_
                  refine JO.t (ob_addc (cc := ((i + 1 : Nat) : Int)) rfl rfl (by omega) (by omega) (by omega)) rfl ?_
                  refine JO.t (ob_assign rfl) rfl ?_
                  refine JO.nil ?_
                  repeat refine JX.normal_block ?_
                  refine JX.roundG (x := ⟨i, p, xs, st, cp⟩) (i + 1, p + 1 + 1, xs ++ [⟨(((l.getD p 0).toNat : Nat) : Int), (((l.getD (p + 1) 0).toNat : Nat) : Int), e0⟩], st1, cp1) ?_ ?_ [0, 4, 5, 6] ?_ ?_ ?_ ?_
                  · exact ⟨by dsimp only; omega, by dsimp only; omega, by dsimp only; omega, by show (xs ++ _).length = _; simp [hxl], g_next hf hib (by rw [gv_2 h2 hkd, if_neg (by omega), v_2 hkd]), hG1⟩
                  · exact (by simp only; omega)
                  · exact (.cons rfl (.cons rfl (.cons rfl (.cons rfl .nil))))
                  · repeat (first | exact .all | exact .nil | refine Has.own (by repeat (first | exact .here | apply Tl.past | apply Tl.there)) ?_ | refine Has.cons (by repeat (first | exact .here | apply Pk.past | apply Pk.there)) ?_)
                  · exact fun G hG => by repeat (first | exact hG | refine List.mem_cons_of_mem _ ?_)
                  · exact fun _ _ _ => fun _ _ => trivial
              ·
                try simp only [decide_eq_true_eq, decide_eq_false_iff_not] at ht69
                repeat refine J.seq ?_
                refine J.plain ?_
                refine JO.t (ob_eql rfl rfl) rfl ?_
                refine JO.t (ob_assign rfl) rfl ?_
                refine JO.nil ?_
                repeat (first | refine JX.next ?_ | refine JX.normal_block ?_)
                refine J.sel [0, 4, 5, 6, 7, 8, 82] (.cons rfl (.cons rfl (.cons rfl (.cons rfl (.cons rfl (.cons rfl (.cons rfl .nil))))))) ?_
                repeat refine J.seq ?_
                refine J.cond rfl (fun ht82 => ?_) (fun ht82 => ?_)
                ·
                  try simp only [decide_eq_true_eq, decide_eq_false_iff_not] at ht82
                  have hkd := kd_3 ht82
                  have h3 : p + 1 < l.length := by rw [hkd, need_3] at ht47; omega
                  have hnb := UInt8.toNat_lt (l.getD (p + 1) 0)
                  repeat refine J.seq ?_
                  refine J.plain ?_
                  refine JO.t (ob_move rfl) rfl ?_
                  refine JO.t (ob_move rfl) rfl ?_
                  refine JO.t (ob_indexAddr el_sl_uint8 rfl (ha (by omega)) rfl (by omega) (by omega)) rfl ?_
                  refine JO.t (ob_loadG1 (enc := bC) (sz := 1) (len := l.length) (i := p + 1) (j := 0) (y := l.getD (p + 1) 0) sz_uint8 rfl (by repeat (first | exact List.mem_cons_self | apply List.mem_cons_of_mem)) (ha (by omega)) (u8_get (by omega)) (by omega) rfl) rfl ?_
                  refine JO.t (ob_convIIe (cc := (((l.getD (p + 1) 0).toNat : Nat) : Int)) ⟨_, un_uint8⟩ un_int rfl (wrap64_eq (by omega) (by omega))) rfl ?_
                  refine JO.t (ob_assign rfl) rfl ?_
                  refine JO.nil ?_
                  repeat (first | refine JX.next ?_ | refine JX.normal_block ?_)
                  refine J.sel [0, 4, 5, 6, 7, 8, 11] (.cons rfl (.cons rfl (.cons rfl (.cons rfl (.cons rfl (.cons rfl (.cons rfl .nil))))))) ?_
                  repeat refine J.seq ?_
                  refine J.plain ?_
                  refine JO.t (ob_move rfl) rfl ?_
                  refine JO.t (ob_gtr rfl rfl) rfl ?_
                  refine JO.nil ?_
                  repeat (first | refine JX.next ?_ | refine JX.normal_block ?_)
                  refine J.sel [0, 4, 5, 6, 7, 8, 11, 90] (.cons rfl (.cons rfl (.cons rfl (.cons rfl (.cons rfl (.cons rfl (.cons rfl (.cons rfl .nil)))))))) ?_
                  repeat refine J.seq ?_
                  refine J.cond rfl (fun ht90 => ?_) (fun ht90 => ?_)
                  ·
                    try simp only [decide_eq_true_eq, decide_eq_false_iff_not] at ht90
                    have hx := g_err hf hib (e := 6) (by rw [gv_3 h3 hkd]; unfold getT; rw [if_pos (by omega)]) (by decide)
                    repeat refine J.seq ?_
                    refine J.plain ?_
                    refine JO.t (ob_assign rfl) rfl ?_
                    refine JO.t (ob_assign rfl) rfl ?_
                    refine JO.nil ?_
                    repeat (first | refine JX.next ?_ | refine JX.normal_block ?_)
                    refine J.sel [2, 3] (.cons rfl (.cons rfl .nil)) ?_
                    repeat refine J.seq ?_
                    refine J.ret ?_
                    repeat (first | refine JX.ret_pass ?_ | refine JX.ret_block ?_)
                    exact JX.ret2sub rfl rfl rfl (by rw [hx]; exact Sub.slNilC) rfl (Sub.isEq (by rw [hx]))
                  ·
                    try simp only [decide_eq_true_eq, decide_eq_false_iff_not] at ht90
                    refine J.skip ?_
                    repeat (first | refine JX.next ?_ | refine JX.normal_block ?_)
                    repeat refine J.seq ?_
                    refine J.plain ?_
                    refine JO.t (ob_move rfl) rfl ?_
                    refine JO.t (ob_addc (cc := ((p + 1 + 1 : Nat) : Int)) rfl rfl (by omega) (by omega) (by omega)) rfl ?_
                    refine JO.t (ob_move rfl) rfl ?_
                    refine JO.t (ob_addc (cc := ((p + 1 + 1 + (l.getD (p + 1) 0).toNat : Nat) : Int)) rfl rfl (by omega) (by omega) (by omega)) rfl ?_
                    refine JO.t (ob_move rfl) rfl ?_
                    refine JO.t (ob_len un_sl_uint8 rfl) rfl ?_
                    refine JO.t (ob_gtr rfl rfl) rfl ?_
                    refine JO.nil ?_
                    repeat (first | refine JX.next ?_ | refine JX.normal_block ?_)
                    refine J.sel [0, 4, 5, 6, 7, 8, 11, 97] (.cons rfl (.cons rfl (.cons rfl (.cons rfl (.cons rfl (.cons rfl (.cons rfl (.cons rfl .nil)))))))) ?_
                    repeat refine J.seq ?_
                    refine J.cond rfl (fun ht97 => ?_) (fun ht97 => ?_)
                    ·
                      try simp only [decide_eq_true_eq, decide_eq_false_iff_not] at ht97
                      have hx := g_err hf hib (e := 5) (by rw [gv_3 h3 hkd]; unfold getT; rw [if_neg (by omega), if_pos (by rw [List.length_drop]; omega)]) (by decide)
                      repeat refine J.seq ?_
                      refine J.plain ?_
                      refine JO.t (ob_assign rfl) rfl ?_
                      refine JO.t (ob_assign rfl) rfl ?_
                      refine JO.nil ?_
                      repeat (first | refine JX.next ?_ | refine JX.normal_block ?_)
                      refine J.sel [2, 3] (.cons rfl (.cons rfl .nil)) ?_
                      repeat refine J.seq ?_
                      refine J.ret ?_
                      repeat (first | refine JX.ret_pass ?_ | refine JX.ret_block ?_)
                      exact JX.ret2sub rfl rfl rfl (by rw [hx]; exact Sub.slNilC) rfl (Sub.isEq (by rw [hx]))
                    ·
                      try simp only [decide_eq_true_eq, decide_eq_false_iff_not] at ht97
                      refine J.skip ?_
                      repeat (first | refine JX.next ?_ | refine JX.normal_block ?_)
                      refine J.fact (RowG bC 1 ((l.drop (p + 1 + 1)).take (l.getD (p + 1) 0).toNat) (adS a (p + 1 + 1) cap 1) (p + 1 + 1 + (l.getD (p + 1) 0).toNat - (p + 1 + 1))) (fun E w hF _ => fun w1 hk => by rw [show p + 1 + 1 + (l.getD (p + 1) 0).toNat - (p + 1 + 1) = (l.getD (p + 1) 0).toNat by omega]; exact rowG_part (hF (RowG bC 1 l a l.length) (by repeat (first | exact List.mem_cons_self | apply List.mem_cons_of_mem)) w1 hk) hlc (p + 1 + 1) (l.getD (p + 1) 0).toNat (by omega)) ?_
                      repeat refine J.seq ?_
                      refine J.plain ?_
                      refine JO.t (ob_move rfl) rfl ?_
                      refine JO.t (ob_move rfl) rfl ?_
                      refine JO.t (ob_addc (cc := ((p + 1 + 1 : Nat) : Int)) rfl rfl (by omega) (by omega) (by omega)) rfl ?_
                      refine JO.t (ob_move rfl) rfl ?_
                      refine JO.t (ob_addc (cc := ((p + 1 + 1 : Nat) : Int)) rfl rfl (by omega) (by omega) (by omega)) rfl ?_
                      refine JO.t (ob_move rfl) rfl ?_
                      refine JO.t (ob_addc (cc := ((p + 1 + 1 + (l.getD (p + 1) 0).toNat : Nat) : Int)) rfl rfl (by omega) (by omega) (by omega)) rfl ?_
                      refine JO.t (ob_sliceLH un_sl_uint8 el_sl_uint8 rfl rfl rfl (by omega) (by omega) (by omega)) rfl ?_
                      refine JO.t (ob_str un_sl_uint8 un_uint8 un_string rfl (by repeat (first | exact List.mem_cons_self | apply List.mem_cons_of_mem))) rfl ?_
                      refine JO.t (ob_fieldAddr fo_api_Value_2 rfl) rfl ?_
                      refine JO.m (obm_storeF (cs' := [_, _, _]) rfl rfl (by repeat (first | exact .here | apply Upd.there)) rfl rfl rfl rfl ss_string) (by rfl) ?_
                      refine JO.nil ?_
                      repeat (first | refine JX.next ?_ | refine JX.normal_block ?_)
                      refine J.sel [0, 4, 5, 6, 7, 8, 11] (.cons rfl (.cons rfl (.cons rfl (.cons rfl (.cons rfl (.cons rfl (.cons rfl .nil))))))) ?_
                      repeat refine J.seq ?_
                      refine J.plain ?_
                      refine JO.t (ob_move rfl) rfl ?_
                      refine JO.t (ob_move rfl) rfl ?_
                      refine JO.t (ob_addc (cc := ((p + 1 + (l.getD (p + 1) 0).toNat : Nat) : Int)) rfl rfl (by omega) (by omega) (by omega)) rfl ?_
                      refine JO.t (ob_assign rfl) rfl ?_
                      refine JO.nil ?_
                      repeat (first | refine JX.next ?_ | refine JX.normal_block ?_)
                      refine J.sel [0, 4, 5, 6, 7, 8] (.cons rfl (.cons rfl (.cons rfl (.cons rfl (.cons rfl (.cons rfl .nil)))))) ?_
                      have hnd : needN (l.getD p 0).toNat = 1 := by rw [hkd]; rfl
                      repeat refine J.seq ?_
                      refine J.plain ?_
                      refine JO.t (ob_move rfl) rfl ?_
                      refine JO.t (ob_move rfl) rfl ?_
                      refine JO.t (ob_addc (cc := ((p + 1 + (l.getD (p + 1) 0).toNat + 1 : Nat) : Int)) rfl rfl (by omega) (by omega) (by omega)) rfl ?_
                      refine JO.t (ob_assign rfl) rfl ?_
                      refine JO.nil ?_
                      repeat (first | refine JX.next ?_ | refine JX.normal_block ?_)
                      refine J.sel [0, 4, 5, 6, 7] (.cons rfl (.cons rfl (.cons rfl (.cons rfl (.cons rfl .nil))))) ?_
                      repeat refine J.seq ?_
                      refine J.plain ?_
                      refine JO.t (ob_move rfl) rfl ?_
                      refine JO.t (ob_ldN (cs := [_, _, _]) sz_api_Value rfl rfl rfl) rfl ?_
                      refine JO.t (ob_buildSlice (cs := [_, _, _]) sl_sl_api_Value (by omega) (by omega) (.cons rfl .nil) rfl rfl rfl) rfl ?_
                      refine JO.apX ([⟨(((l.getD p 0).toNat : Nat) : Int), 0, bl ((l.drop (p + 1 + 1)).take (l.getD (p + 1) 0).toNat)⟩]) ap_sl_api_Value v3_len (by repeat (first | exact .here | apply Cx.past | apply Cx.there)) hG rfl rfl (fun L => src_new un_sl_api_Value rfl rfl) (by simp) (by simp <;> omega) (by simp <;> omega) rfl (fun st1 cp1 hG1 => ?_)
                      try dsimp only
                      refine JO.t (ob_assign rfl) rfl ?_
                      refine JO.nil ?_
                      repeat (first | refine JX.next ?_ | refine JX.normal_block ?_)
                      refine J.sel [0, 4, 5, 6] (.cons rfl (.cons rfl (.cons rfl (.cons rfl .nil)))) ?_
                      repeat refine J.seq ?_
                      refine J.plain ?_
                      refine JO.t (ob_move rfl) rfl ?_
                      refine JO.t (ob_addc (cc := ((i + 1 : Nat) : Int)) rfl rfl (by omega) (by omega) (by omega)) rfl ?_
                      refine JO.t (ob_assign rfl) rfl ?_
                      refine JO.nil ?_
                      repeat refine JX.normal_block ?_
                      refine JX.roundG (x := ⟨i, p, xs, st, cp⟩) (i + 1, p + 1 + (l.getD (p + 1) 0).toNat + 1, xs ++ [⟨(((l.getD p 0).toNat : Nat) : Int), 0, bl ((l.drop (p + 1 + 1)).take (l.getD (p + 1) 0).toNat)⟩], st1, cp1) ?_ ?_ [0, 4, 5, 6] ?_ ?_ ?_ ?_
                      · exact ⟨by dsimp only; omega, by dsimp only; omega, by dsimp only; omega, by show (xs ++ _).length = _; simp [hxl], g_next hf hib (by rw [gv_3 h3 hkd, v_3 hkd]; unfold getT; rw [if_neg (by omega), if_neg (by rw [List.length_drop]; omega), List.drop_drop, show p + 1 + 1 + (l.getD (p + 1) 0).toNat = p + 1 + (l.getD (p + 1) 0).toNat + 1 by omega]), hG1⟩
                      · exact (by simp only; omega)
                      · exact (.cons rfl (.cons rfl (.cons rfl (.cons rfl .nil))))
                      · repeat (first | exact .all | exact .nil | refine Has.own (by repeat (first | exact .here | apply Tl.past | apply Tl.there)) ?_ | refine Has.cons (by repeat (first | exact .here | apply Pk.past | apply Pk.there)) ?_)
                      · exact fun G hG => by repeat (first | exact hG | refine List.mem_cons_of_mem _ ?_)
                      · exact fun _ _ _ => fun _ _ => trivial
                ·
                  try simp only [decide_eq_true_eq, decide_eq_false_iff_not] at ht82
                  refine J.skip ?_
                  repeat (first | refine JX.next ?_ | refine JX.normal_block ?_)
                  have hkd := kd_0 hk3 ht50 ht69 ht82
                  have hnd : needN (l.getD p 0).toNat = 0 := by rw [hkd]; rfl
                  repeat refine J.seq ?_
                  refine J.plain ?_
                  refine JO.t (ob_move rfl) rfl ?_
                  refine JO.t (ob_move rfl) rfl ?_
                  refine JO.t (ob_addc (cc := ((p + 1 + 0 : Nat) : Int)) rfl rfl (by omega) (by omega) (by omega)) rfl ?_
                  refine JO.t (ob_assign rfl) rfl ?_
                  refine JO.nil ?_
                  repeat (first | refine JX.next ?_ | refine JX.normal_block ?_)
                  refine J.sel [0, 4, 5, 6, 7] (.cons rfl (.cons rfl (.cons rfl (.cons rfl (.cons rfl .nil))))) ?_
                  repeat refine J.seq ?_
                  refine J.plain ?_
                  refine JO.t (ob_move rfl) rfl ?_
                  refine JO.t (ob_ldN (cs := [_, _, _]) sz_api_Value rfl rfl rfl) rfl ?_
                  refine JO.t (ob_buildSlice (cs := [_, _, _]) sl_sl_api_Value (by omega) (by omega) (.cons rfl .nil) rfl rfl rfl) rfl ?_
                  refine JO.apX ([⟨(((l.getD p 0).toNat : Nat) : Int), 0, e0⟩]) ap_sl_api_Value v3_len (by repeat (first | exact .here | apply Cx.past | apply Cx.there)) hG rfl rfl (fun L => src_new un_sl_api_Value rfl rfl) (by simp) (by simp <;> omega) (by simp <;> omega) rfl (fun st1 cp1 hG1 => ?_)
                  try dsimp only
                  refine JO.t (ob_assign rfl) rfl ?_
                  refine JO.nil ?_
                  repeat (first | refine JX.next ?_ | refine JX.normal_block ?_)
                  refine J.sel [0, 4, 5, 6] (.cons rfl (.cons rfl (.cons rfl (.cons rfl .nil)))) ?_
                  repeat refine J.seq ?_
                  refine J.plain ?_
                  refine JO.t (ob_move rfl) rfl ?_
                  refine JO.t (ob_addc (cc := ((i + 1 : Nat) : Int)) rfl rfl (by omega) (by omega) (by omega)) rfl ?_
                  refine JO.t (ob_assign rfl) rfl ?_
                  refine JO.nil ?_
                  repeat refine JX.normal_block ?_
                  refine JX.roundG (x := ⟨i, p, xs, st, cp⟩) (i + 1, p + 1 + 0, xs ++ [⟨(((l.getD p 0).toNat : Nat) : Int), 0, e0⟩], st1, cp1) ?_ ?_ [0, 4, 5, 6] ?_ ?_ ?_ ?_
                  · exact ⟨by dsimp only; omega, by dsimp only; omega, by dsimp only; omega, by show (xs ++ _).length = _; simp [hxl], g_next hf hib (by rw [gv_0 hlt hkd, v_0 hkd]), hG1⟩
                  · exact (by simp only; omega)
                  · exact (.cons rfl (.cons rfl (.cons rfl (.cons rfl .nil))))
                  · repeat (first | exact .all | exact .nil | refine Has.own (by repeat (first | exact .here | apply Tl.past | apply Tl.there)) ?_ | refine Has.cons (by repeat (first | exact .here | apply Pk.past | apply Pk.there)) ?_)
                  · exact fun G hG => by repeat (first | exact hG | refine List.mem_cons_of_mem _ ?_)
                  · exact fun _ _ _ => fun _ _ => trivial
    ·
      try simp only [decide_eq_true_eq, decide_eq_false_iff_not] at ht20
      repeat refine J.seq ?_
      refine J.exit ?_
      repeat (first | refine JX.hit ?_ | refine JX.miss rfl ?_ | refine JX.exit_pass ?_)
      repeat (first | refine JX.next ?_ | refine JX.normal_block ?_)
      repeat refine J.seq ?_
      refine J.plain ?_
      refine JO.t (ob_move rfl) rfl ?_
      refine JO.t (ob_move rfl) rfl ?_
      refine JO.t (ob_len un_sl_uint8 rfl) rfl ?_
      refine JO.t (ob_neq rfl rfl) rfl ?_
      refine JO.nil ?_
      repeat (first | refine JX.next ?_ | refine JX.normal_block ?_)
      refine J.sel [4, 121] (.cons rfl (.cons rfl .nil)) ?_
      repeat refine J.seq ?_
      refine J.cond rfl (fun ht121 => ?_) (fun ht121 => ?_)
      ·
        try simp only [decide_eq_true_eq, decide_eq_false_iff_not] at ht121
        have hx := g_end hf (by omega)
        rw [if_neg (fun e => by have e := congrArg List.length e; rw [List.length_drop] at e; simp at e ht121; omega)] at hx
        repeat refine J.seq ?_
        refine J.plain ?_
        refine JO.t (ob_assign rfl) rfl ?_
        refine JO.t (ob_assign rfl) rfl ?_
        refine JO.nil ?_
        repeat (first | refine JX.next ?_ | refine JX.normal_block ?_)
        refine J.sel [2, 3] (.cons rfl (.cons rfl .nil)) ?_
        repeat refine J.seq ?_
        refine J.ret ?_
        repeat (first | refine JX.ret_pass ?_ | refine JX.ret_block ?_)
        exact JX.ret2sub rfl rfl rfl (by rw [hx]; exact Sub.slNilC) rfl (Sub.isEq (by rw [hx]))
      ·
        try simp only [decide_eq_true_eq, decide_eq_false_iff_not] at ht121
        refine J.skip ?_
        repeat (first | refine JX.next ?_ | refine JX.normal_block ?_)
        have hx := g_end hf (by omega)
        rw [if_pos (List.drop_eq_nil_of_le (by simp at ht121; omega))] at hx
        refine J.freezeO v3_len hG (e := ty_api_Value) (by repeat (first | exact .here | apply Tl.past | apply Tl.there)) (fun _ h => h) rfl rfl ?_
        repeat refine J.seq ?_
        refine J.plain ?_
        refine JO.t (ob_move rfl) rfl ?_
        refine JO.t (ob_assign rfl) rfl ?_
        refine JO.t (ob_assign rfl) rfl ?_
        refine JO.nil ?_
        repeat (first | refine JX.next ?_ | refine JX.normal_block ?_)
        refine J.sel [2, 3] (.cons rfl (.cons rfl .nil)) ?_
        repeat refine J.seq ?_
        refine J.ret ?_
        repeat (first | refine JX.ret_pass ?_ | refine JX.ret_block ?_)
        exact JX.ret2sub rfl rfl rfl (by rw [hx]; exact Sub.slOC hG (by repeat (first | exact List.mem_cons_self | apply List.mem_cons_of_mem))) rfl (Sub.isEq (by rw [hx]))
end Go.Proofs.YtlccnpmhmdoapaaDoor
