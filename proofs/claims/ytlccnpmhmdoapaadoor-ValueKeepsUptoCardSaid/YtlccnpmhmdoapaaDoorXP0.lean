/- The document on values: what may be, comparison, keys. No condition. -/
import Derived.Test.YtlccnpmhmdoapaaDoorXL
import Derived.Test.YtlccnpmhmdoapaaDoorXG4
set_option maxRecDepth 20000
namespace Go.Proofs.YtlccnpmhmdoapaaDoor
open Go Go.Vc
open Go.Vl
theorem seq_e0 {s : ByteArray} (h : seq s ⟨#[]⟩ = true) : s.size = 0 := by
  rw [seq_iff] at h
  rw [h]
  rfl
def bad1 (v : V3) : Bool := (((decide (v.k < 0) || decide (3 < v.k)) || ((v.k != 3) && !seq v.s ⟨#[]⟩)) || ((v.k == 0) && (v.n != 0))) || ((v.k == 3) && (v.n != 0))
def bad2 (v : V3) : Bool := ((v.k == 2) && (v.n != 0)) && (v.n != 1)
theorem rok (v : V3) : okV v = (if bad1 v then false else if bad2 v then false else decide ((v.s.size : Int) ≤ 64)) := by
  unfold okV bad1 bad2
  have hz := @seq_e0 v.s
  generalize seq v.s ⟨#[]⟩ = q at hz
  by_cases h0 : v.k = 0
  · rw [h0]
    cases q
    · simp
    · by_cases hn : v.n = 0 <;> simp [hn, hz]
  · by_cases h1 : v.k = 1
    · rw [h1]
      cases q
      · simp
      · simp [hz]
    · by_cases h2 : v.k = 2
      · rw [h2]
        cases q
        · simp
        · have hf : v.n.fdiv 2 = v.n / 2 := Int.fdiv_eq_ediv_of_nonneg _ (by omega)
          rw [hf]
          by_cases hn : v.n = 0
          · simp [hn, hz]
          · by_cases hn1 : v.n = 1
            · simp [hn1, hz]
            · have : v.n / 2 ≠ 0 := by omega
              simp [hn, hn1, this]
      · by_cases h3 : v.k = 3
        · rw [h3]
          by_cases hn : v.n = 0 <;> simp [hn]
        · have : v.k < 0 ∨ 3 < v.k := by omega
          rcases this with h | h <;> simp [h0, h1, h2, h3, h]
def lowF (a b : V3) : Bool := decide (a.k < b.k) || ((a.k == b.k) && (decide (a.n < b.n) || ((a.n == b.n) && slt a.s b.s)))
theorem lowF_iff (a b : V3) : lowF a b = true ↔ below a b := by
  unfold lowF below
  rw [slt_lists]
  simp [Bool.or_eq_true, Bool.and_eq_true]
theorem rcmp (a b : V3) : cmpV a b = (if veq a.k a.n a.s b.k b.n b.s then 0 else if lowF a b then -1 else 1) := by
  rcases tri_V a b with h | h | h
  · have h1 : veq a.k a.n a.s b.k b.n b.s = false := by
      cases e : veq a.k a.n a.s b.k b.n b.s
      · rfl
      · rw [veq_iff] at e; subst e; exact absurd h (below_irrefl _)
    rw [h1, if_neg (by simp), if_pos ((lowF_iff a b).2 h), cmp_lt h]
  · rw [if_pos ((veq_iff a b).2 h), h, cmp_eq]
  · have h1 : veq a.k a.n a.s b.k b.n b.s = false := by
      cases e : veq a.k a.n a.s b.k b.n b.s
      · rfl
      · rw [veq_iff] at e; subst e; exact absurd h (below_irrefl _)
    have h2 : lowF a b = false := by
      cases e : lowF a b
      · rfl
      · exact absurd (below_trans ((lowF_iff a b).1 e) h) (below_irrefl _)
    rw [h1, h2, cmp_gt h]
    rfl
theorem rem256 (u : Nat) : IntKind.u8.wrap ((u : Int).tmod 256) = ((UInt8.ofNat (u % 256)).toNat : Int) := by
  rw [show (UInt8.ofNat (u % 256)).toNat = u % 256 from UInt8.toNat_ofNat_of_lt' (Nat.mod_lt u (by decide : 0 < 256)), Int.tmod_eq_emod_of_nonneg (Int.natCast_nonneg _), wrap_u8]
  omega
theorem quo256 {u : Nat} (h : u < 18446744073709551616) : IntKind.u64.wrap ((u : Int).tdiv 256) = ((u / 256 : Nat) : Int) := by
  rw [Int.tdiv_eq_ediv_of_nonneg (Int.natCast_nonneg _), wrap_u64]
  omega
theorem uns_bias {n : Int} (h : I64 n) : IntKind.u64.wrap (((unsN n : Nat) : Int) + 9223372036854775808) = ((biasN n : Nat) : Int) := by
  rw [wrap_u64]
  unfold I64 at h
  unfold unsN biasN
  omega
theorem drop_rev {l : List UInt8} {i : Nat} (h : i < l.length) : (l.drop i).reverse = (l.drop (i + 1)).reverse ++ [l.getD i 0] := by
  rw [List.drop_eq_getElem_cons h, List.reverse_cons]
  simp [h]
theorem esc_snoc {s : ByteArray} {i : Nat} (h : i < s.size) : esc (s.data.toList.take (i + 1)) = esc (s.data.toList.take i) ++ (if s.data.toList.getD i 0 = 0 then [0, 255] else [s.data.toList.getD i 0]) := by
  have hl : i < s.data.toList.length := by rw [len_sz]; exact h
  rw [take_snoc hl]
  show repL _ _ _ = repL _ _ _ ++ _
  unfold repL
  rw [List.flatMap_append]
  congr 1
  simp
theorem c_ref01_Ok (v : V3) : CallTy Tryd.prog f_ref01_Ok [.is (.agg #[.int .i64 v.k, .int .i64 v.n, .string v.s])] (.is (.bool (okV v))) :=
  CallTy.of (fn := Tryd.f16) Tryd.func16 (n := 58) rfl rfl rfl (fun _ _ => by kernel_rfl) fun E W => by
  repeat refine J.seq ?_
  refine J.plain ?_
  refine JO.box rfl rfl fun b1 => ?_
  refine JO.t (ob_assign rfl) rfl ?_
  refine JO.nil ?_
  repeat (first | refine JX.next ?_ | refine JX.normal_block ?_)
  refine J.sel [1] (.cons rfl .nil) ?_
  repeat refine J.seq ?_
  refine J.reg0 hmx (by kernel_rfl) (by kernel_rfl) ?_
  refine RT.t (ob_fieldAddr fo_api_Value_0 rfl) ?_
  refine RT.t (ob_ld1 sz_int rfl rfl) ?_
  refine RT.t (ob_lss rfl rfl) ?_
  refine RT.t (ob_move rfl) ?_
  refine RT.g rfl rfl rfl (fun hg => ob_fieldAddr fo_api_Value_0 (.inl rfl)) ?_
  refine RT.g rfl rfl rfl (fun hg => ob_ld1 sz_int (.inr ⟨_, rfl, fun h => h⟩) rfl) ?_
  refine RT.g rfl rfl rfl (fun hg => ob_gtr (.inr ⟨_, rfl, fun h => h⟩) (.inl rfl)) ?_
  refine RT.t (ob_pickOr rfl rfl rfl id) ?_
  refine RT.t (ob_move rfl) ?_
  refine RT.g rfl rfl rfl (fun hg => ob_fieldAddr fo_api_Value_0 (.inl rfl)) ?_
  refine RT.g rfl rfl rfl (fun hg => ob_ld1 sz_int (.inr ⟨_, rfl, fun h => h⟩) rfl) ?_
  refine RT.g rfl rfl rfl (fun hg => ob_neq (.inr ⟨_, rfl, fun h => h⟩) (.inl rfl)) ?_
  refine RT.g rfl rfl rfl (fun hg => ob_move (.inr ⟨_, rfl, fun h => h⟩)) ?_
  refine RT.gg rfl rfl rfl (fun hg => (ob_fieldAddr fo_api_Value_2 (.inl rfl))) ?_
  refine RT.gg rfl rfl rfl (fun hg => (ob_ld1 sz_string (.inr ⟨_, rfl, fun h => h⟩) rfl)) ?_
  refine RT.gg rfl rfl rfl (fun hg => (ob_sneq (.inr ⟨_, rfl, fun h => h⟩) (.inl rfl))) ?_
  refine RT.g rfl rfl rfl (fun hg => ob_pickAnd (.inr ⟨_, rfl, fun h => h⟩) (.inl rfl) (.inl rfl) (fun h => ⟨hg, h⟩)) ?_
  refine RT.t (ob_pickOr rfl rfl rfl id) ?_
  refine RT.t (ob_move rfl) ?_
  refine RT.g rfl rfl rfl (fun hg => ob_fieldAddr fo_api_Value_0 (.inl rfl)) ?_
  refine RT.g rfl rfl rfl (fun hg => ob_ld1 sz_int (.inr ⟨_, rfl, fun h => h⟩) rfl) ?_
  refine RT.g rfl rfl rfl (fun hg => ob_eql (.inr ⟨_, rfl, fun h => h⟩) (.inl rfl)) ?_
  refine RT.g rfl rfl rfl (fun hg => ob_move (.inr ⟨_, rfl, fun h => h⟩)) ?_
  refine RT.gg rfl rfl rfl (fun hg => (ob_fieldAddr fo_api_Value_1 (.inl rfl))) ?_
  refine RT.gg rfl rfl rfl (fun hg => (ob_ld1 sz_int64 (.inr ⟨_, rfl, fun h => h⟩) rfl)) ?_
  refine RT.gg rfl rfl rfl (fun hg => (ob_neq (.inr ⟨_, rfl, fun h => h⟩) (.inl rfl))) ?_
  refine RT.g rfl rfl rfl (fun hg => ob_pickAnd (.inr ⟨_, rfl, fun h => h⟩) (.inl rfl) (.inl rfl) (fun h => ⟨hg, h⟩)) ?_
  refine RT.t (ob_pickOr rfl rfl rfl id) ?_
  refine RT.t (ob_move rfl) ?_
  refine RT.g rfl rfl rfl (fun hg => ob_fieldAddr fo_api_Value_0 (.inl rfl)) ?_
  refine RT.g rfl rfl rfl (fun hg => ob_ld1 sz_int (.inr ⟨_, rfl, fun h => h⟩) rfl) ?_
  refine RT.g rfl rfl rfl (fun hg => ob_eql (.inr ⟨_, rfl, fun h => h⟩) (.inl rfl)) ?_
  refine RT.g rfl rfl rfl (fun hg => ob_move (.inr ⟨_, rfl, fun h => h⟩)) ?_
  refine RT.gg rfl rfl rfl (fun hg => (ob_fieldAddr fo_api_Value_1 (.inl rfl))) ?_
  refine RT.gg rfl rfl rfl (fun hg => (ob_ld1 sz_int64 (.inr ⟨_, rfl, fun h => h⟩) rfl)) ?_
  refine RT.gg rfl rfl rfl (fun hg => (ob_neq (.inr ⟨_, rfl, fun h => h⟩) (.inl rfl))) ?_
  refine RT.g rfl rfl rfl (fun hg => ob_pickAnd (.inr ⟨_, rfl, fun h => h⟩) (.inl rfl) (.inl rfl) (fun h => ⟨hg, h⟩)) ?_
  refine RT.t (ob_pickOr rfl rfl rfl id) ?_
  refine RT.nil ?_
  refine FinS.nil0 ?_
  repeat (first | refine JX.next ?_ | refine JX.normal_block ?_)
  refine J.sel [1, 40] (.cons rfl (.cons rfl .nil)) ?_
  repeat refine J.seq ?_
  refine J.cond rfl (fun ht40 => ?_) (fun ht40 => ?_)
  ·
    try simp only [decide_eq_true_eq, decide_eq_false_iff_not] at ht40
    repeat refine J.seq ?_
    refine J.plain ?_
    refine JO.t (ob_assign rfl) rfl ?_
    refine JO.nil ?_
    repeat (first | refine JX.next ?_ | refine JX.normal_block ?_)
    refine J.sel [2] (.cons rfl .nil) ?_
    repeat refine J.seq ?_
    refine J.ret ?_
    repeat (first | refine JX.ret_pass ?_ | refine JX.ret_block ?_)
    exact JX.ret1is rfl rfl (by rw [rok, if_pos (show bad1 v = true from ht40)])
  ·
    try simp only [decide_eq_true_eq, decide_eq_false_iff_not] at ht40
    refine J.skip ?_
    repeat (first | refine JX.next ?_ | refine JX.normal_block ?_)
    repeat refine J.seq ?_
    refine J.reg0 hmx (by kernel_rfl) (by kernel_rfl) ?_
    refine RT.t (ob_fieldAddr fo_api_Value_0 rfl) ?_
    refine RT.t (ob_ld1 sz_int rfl rfl) ?_
    refine RT.t (ob_eql rfl rfl) ?_
    refine RT.t (ob_move rfl) ?_
    refine RT.g rfl rfl rfl (fun hg => ob_fieldAddr fo_api_Value_1 (.inl rfl)) ?_
    refine RT.g rfl rfl rfl (fun hg => ob_ld1 sz_int64 (.inr ⟨_, rfl, fun h => h⟩) rfl) ?_
    refine RT.g rfl rfl rfl (fun hg => ob_neq (.inr ⟨_, rfl, fun h => h⟩) (.inl rfl)) ?_
    refine RT.t (ob_pickAnd rfl rfl rfl id) ?_
    refine RT.t (ob_move rfl) ?_
    refine RT.g rfl rfl rfl (fun hg => ob_fieldAddr fo_api_Value_1 (.inl rfl)) ?_
    refine RT.g rfl rfl rfl (fun hg => ob_ld1 sz_int64 (.inr ⟨_, rfl, fun h => h⟩) rfl) ?_
    refine RT.g rfl rfl rfl (fun hg => ob_neq (.inr ⟨_, rfl, fun h => h⟩) (.inl rfl)) ?_
    refine RT.t (ob_pickAnd rfl rfl rfl id) ?_
    refine RT.nil ?_
    refine FinS.nil0 ?_
    repeat (first | refine JX.next ?_ | refine JX.normal_block ?_)
    refine J.sel [1, 53] (.cons rfl (.cons rfl .nil)) ?_
    repeat refine J.seq ?_
    refine J.cond rfl (fun ht53 => ?_) (fun ht53 => ?_)
    ·
      try simp only [decide_eq_true_eq, decide_eq_false_iff_not] at ht53
      repeat refine J.seq ?_
      refine J.plain ?_
      refine JO.t (ob_assign rfl) rfl ?_
      refine JO.nil ?_
      repeat (first | refine JX.next ?_ | refine JX.normal_block ?_)
      refine J.sel [2] (.cons rfl .nil) ?_
      repeat refine J.seq ?_
      refine J.ret ?_
      repeat (first | refine JX.ret_pass ?_ | refine JX.ret_block ?_)
      exact JX.ret1is rfl rfl (by rw [rok, if_neg (by rw [show bad1 v = false from ht40]; simp), if_pos (show bad2 v = true from ht53)])
    ·
      try simp only [decide_eq_true_eq, decide_eq_false_iff_not] at ht53
      refine J.skip ?_
      repeat (first | refine JX.next ?_ | refine JX.normal_block ?_)
      repeat refine J.seq ?_
      refine J.plain ?_
      refine JO.t (ob_fieldAddr fo_api_Value_2 rfl) rfl ?_
      refine JO.t (ob_ld1 sz_string rfl rfl) rfl ?_
      refine JO.t (ob_slen un_string rfl) rfl ?_
      refine JO.t (ob_leq rfl rfl) rfl ?_
      refine JO.t (ob_assign rfl) rfl ?_
      refine JO.nil ?_
      repeat (first | refine JX.next ?_ | refine JX.normal_block ?_)
      refine J.sel [2] (.cons rfl .nil) ?_
      repeat refine J.seq ?_
      refine J.ret ?_
      repeat (first | refine JX.ret_pass ?_ | refine JX.ret_block ?_)
      exact JX.ret1is rfl rfl (by rw [rok, if_neg (by rw [show bad1 v = false from ht40]; simp), if_neg (by rw [show bad2 v = false from ht53]; simp)])
theorem c_ref01_Compare (a b : V3) : CallTy Tryd.prog f_ref01_Compare [.is (.agg #[.int .i64 a.k, .int .i64 a.n, .string a.s]), .is (.agg #[.int .i64 b.k, .int .i64 b.n, .string b.s])] (.is (.int .i64 (cmpV a b))) :=
  CallTy.of (fn := Tryd.f18) Tryd.func18 (n := 41) rfl rfl rfl (fun _ _ => by kernel_rfl) fun E W => by
  repeat refine J.seq ?_
  refine J.plain ?_
  refine JO.box rfl rfl fun b2 => ?_
  refine JO.box rfl rfl fun b3 => ?_
  refine JO.t (ob_assign rfl) rfl ?_
  refine JO.nil ?_
  repeat (first | refine JX.next ?_ | refine JX.normal_block ?_)
  refine J.sel [2, 3] (.cons rfl (.cons rfl .nil)) ?_
  repeat refine J.seq ?_
  refine J.plain ?_
  refine JO.t (ob_ldN (cs := [_, _, _]) sz_api_Value rfl rfl rfl) rfl ?_
  refine JO.t (ob_ldN (cs := [_, _, _]) sz_api_Value rfl rfl rfl) rfl ?_
  refine JO.t (ob_veq veq_api_Value rfl rfl) rfl ?_
  refine JO.nil ?_
  repeat (first | refine JX.next ?_ | refine JX.normal_block ?_)
  refine J.sel [2, 3, 7] (.cons rfl (.cons rfl (.cons rfl .nil))) ?_
  repeat refine J.seq ?_
  refine J.cond rfl (fun ht7 => ?_) (fun ht7 => ?_)
  ·
    try simp only [decide_eq_true_eq, decide_eq_false_iff_not] at ht7
    repeat refine J.seq ?_
    refine J.plain ?_
    refine JO.t (ob_assign rfl) rfl ?_
    refine JO.nil ?_
    repeat (first | refine JX.next ?_ | refine JX.normal_block ?_)
    refine J.sel [4] (.cons rfl .nil) ?_
    repeat refine J.seq ?_
    refine J.ret ?_
    repeat (first | refine JX.ret_pass ?_ | refine JX.ret_block ?_)
    exact JX.ret1is rfl rfl (by rw [rcmp, if_pos ht7])
  ·
    try simp only [decide_eq_true_eq, decide_eq_false_iff_not] at ht7
    refine J.skip ?_
    repeat (first | refine JX.next ?_ | refine JX.normal_block ?_)
    repeat refine J.seq ?_
    refine J.reg0 hmx (by kernel_rfl) (by kernel_rfl) ?_
    refine RT.t (ob_fieldAddr fo_api_Value_0 rfl) ?_
    refine RT.t (ob_ld1 sz_int rfl rfl) ?_
    refine RT.t (ob_fieldAddr fo_api_Value_0 rfl) ?_
    refine RT.t (ob_ld1 sz_int rfl rfl) ?_
    refine RT.t (ob_lss rfl rfl) ?_
    refine RT.t (ob_move rfl) ?_
    refine RT.g rfl rfl rfl (fun hg => ob_fieldAddr fo_api_Value_0 (.inl rfl)) ?_
    refine RT.g rfl rfl rfl (fun hg => ob_ld1 sz_int (.inr ⟨_, rfl, fun h => h⟩) rfl) ?_
    refine RT.g rfl rfl rfl (fun hg => ob_fieldAddr fo_api_Value_0 (.inl rfl)) ?_
    refine RT.g rfl rfl rfl (fun hg => ob_ld1 sz_int (.inr ⟨_, rfl, fun h => h⟩) rfl) ?_
    refine RT.g rfl rfl rfl (fun hg => ob_eql (.inr ⟨_, rfl, fun h => h⟩) (.inr ⟨_, rfl, fun h => h⟩)) ?_
    refine RT.g rfl rfl rfl (fun hg => ob_move (.inr ⟨_, rfl, fun h => h⟩)) ?_
    refine RT.gg rfl rfl rfl (fun hg => (ob_fieldAddr fo_api_Value_1 (.inl rfl))) ?_
    refine RT.gg rfl rfl rfl (fun hg => (ob_ld1 sz_int64 (.inr ⟨_, rfl, fun h => h⟩) rfl)) ?_
    refine RT.gg rfl rfl rfl (fun hg => (ob_fieldAddr fo_api_Value_1 (.inl rfl))) ?_
    refine RT.gg rfl rfl rfl (fun hg => (ob_ld1 sz_int64 (.inr ⟨_, rfl, fun h => h⟩) rfl)) ?_
    refine RT.gg rfl rfl rfl (fun hg => (ob_lss (.inr ⟨_, rfl, fun h => h⟩) (.inr ⟨_, rfl, fun h => h⟩))) ?_
    refine RT.gg rfl rfl rfl (fun hg => (ob_move (.inr ⟨_, rfl, fun h => h⟩))) ?_
    refine RT.gg rfl rfl rfl (fun hg => (ob_fieldAddr fo_api_Value_1 (.inl rfl))) ?_
    refine RT.gg rfl rfl rfl (fun hg => (ob_ld1 sz_int64 (.inr ⟨_, rfl, fun h => h⟩) rfl)) ?_
    refine RT.gg rfl rfl rfl (fun hg => (ob_fieldAddr fo_api_Value_1 (.inl rfl))) ?_
    refine RT.gg rfl rfl rfl (fun hg => (ob_ld1 sz_int64 (.inr ⟨_, rfl, fun h => h⟩) rfl)) ?_
    refine RT.gg rfl rfl rfl (fun hg => (ob_eql (.inr ⟨_, rfl, fun h => h⟩) (.inr ⟨_, rfl, fun h => h⟩))) ?_
    refine RT.gg rfl rfl rfl (fun hg => (ob_move (.inr ⟨_, rfl, fun h => h⟩))) ?_
    refine RT.gg rfl rfl rfl (fun hg => (ob_fieldAddr fo_api_Value_2 (.inl rfl))) ?_
    refine RT.gg rfl rfl rfl (fun hg => (ob_ld1 sz_string (.inr ⟨_, rfl, fun h => h⟩) rfl)) ?_
    refine RT.gg rfl rfl rfl (fun hg => (ob_fieldAddr fo_api_Value_2 (.inl rfl))) ?_
    refine RT.gg rfl rfl rfl (fun hg => (ob_ld1 sz_string (.inr ⟨_, rfl, fun h => h⟩) rfl)) ?_
    refine RT.gg rfl rfl rfl (fun hg => (ob_slss (.inr ⟨_, rfl, fun h => h⟩) (.inr ⟨_, rfl, fun h => h⟩))) ?_
    refine RT.gg rfl rfl rfl (fun hg => (ob_pickAnd (.inr ⟨_, rfl, fun h => h⟩) (.inl rfl) (.inl rfl) (fun h => ⟨hg, h⟩))) ?_
    refine RT.gg rfl rfl rfl (fun hg => (ob_pickOr (.inr ⟨_, rfl, fun h => h⟩) (.inl rfl) (.inl rfl) (fun h => ⟨hg, h⟩))) ?_
    refine RT.g rfl rfl rfl (fun hg => ob_pickAnd (.inr ⟨_, rfl, fun h => h⟩) (.inl rfl) (.inl rfl) (fun h => ⟨hg, h⟩)) ?_
    refine RT.t (ob_pickOr rfl rfl rfl id) ?_
    refine RT.nil ?_
    refine FinS.nil0 ?_
    repeat (first | refine JX.next ?_ | refine JX.normal_block ?_)
    refine J.sel [40] (.cons rfl .nil) ?_
    repeat refine J.seq ?_
    refine J.cond rfl (fun ht40 => ?_) (fun ht40 => ?_)
    ·
      try simp only [decide_eq_true_eq, decide_eq_false_iff_not] at ht40
      repeat refine J.seq ?_
      refine J.plain ?_
      refine JO.t (ob_assign rfl) rfl ?_
      refine JO.nil ?_
      repeat (first | refine JX.next ?_ | refine JX.normal_block ?_)
      refine J.sel [4] (.cons rfl .nil) ?_
      repeat refine J.seq ?_
      refine J.ret ?_
      repeat (first | refine JX.ret_pass ?_ | refine JX.ret_block ?_)
      exact JX.ret1is rfl rfl (by rw [rcmp, if_neg (by rw [ht7]; simp), if_pos (show lowF a b = true from ht40)])
    ·
      try simp only [decide_eq_true_eq, decide_eq_false_iff_not] at ht40
      refine J.skip ?_
      repeat (first | refine JX.next ?_ | refine JX.normal_block ?_)
      repeat refine J.seq ?_
      refine J.plain ?_
      refine JO.t (ob_assign rfl) rfl ?_
      refine JO.nil ?_
      repeat (first | refine JX.next ?_ | refine JX.normal_block ?_)
      refine J.sel [4] (.cons rfl .nil) ?_
      repeat refine J.seq ?_
      refine J.ret ?_
      repeat (first | refine JX.ret_pass ?_ | refine JX.ret_block ?_)
      exact JX.ret1is rfl rfl (by rw [rcmp, if_neg (by rw [ht7]; simp), if_neg (by rw [show lowF a b = false from ht40]; simp)])
theorem c_ref01_Eight (u : Nat) (hu : u < 18446744073709551616) : CallTy Tryd.prog f_ref01_Eight [.is (.int .u64 (u : Nat))] (.rep (SlC bC 1 (leN 8 u))) :=
  CallTy.of (fn := Tryd.f30) Tryd.func30 (n := 18) rfl rfl rfl (fun _ _ => by kernel_rfl) fun E W => by
  repeat refine J.seq ?_
  refine J.plain ?_
  refine JO.t (ob_assign rfl) rfl ?_
  refine JO.nil ?_
  repeat (first | refine JX.next ?_ | refine JX.normal_block ?_)
  refine J.sel [0] (.cons rfl .nil) ?_
  repeat refine J.seq ?_
  refine J.plain ?_
  refine JO.t (ob_assign rfl) rfl ?_
  refine JO.nil ?_
  repeat (first | refine JX.next ?_ | refine JX.normal_block ?_)
  refine J.sel [0, 3] (.cons rfl (.cons rfl .nil)) ?_
  repeat refine J.seq ?_
  refine J.plain ?_
  refine JO.t (ob_assign rfl) rfl ?_
  refine JO.nil ?_
  repeat (first | refine JX.next ?_ | refine JX.normal_block ?_)
  refine J.sel [0, 3, 4] (.cons rfl (.cons rfl (.cons rfl .nil))) ?_
  repeat refine J.seq ?_
  refine J.block ?_
  repeat refine J.seq ?_
  refine J.loopG (α := Nat × Nat × List UInt8 × Option (Nat × List Value) × Nat) (fun z => [(0, .is (.int .u64 (z.2.1 : Nat))), (3, .is (sliceO z.2.2.2.1 z.2.2.1.length z.2.2.2.2)), (4, .is (.int .i64 (z.1 : Nat)))]) (fun z => ownO z.2.2.2.1 ty_uint8 []) (fun z => fun _ => True) (fun z => z.1 ≤ 8 ∧ z.2.1 < 18446744073709551616 ∧ z.2.2.1 ++ leN (8 - z.1) z.2.1 = leN 8 u ∧ z.2.2.1.length = z.1 ∧ Grows bC 1 z.2.2.1 z.2.2.2.1 z.2.2.2.2) (fun z => 8 - z.1) (0, u, [], none, 0) [0, 3, 4] (.cons rfl (.cons rfl (.cons rfl .nil))) rfl (fun _ => trivial) ⟨by omega, hu, rfl, rfl, rfl⟩ fun ⟨i, w, xs, st, cp⟩ ⟨hi, hw, hx, hl, hG⟩ => ?_
  try dsimp only
  try dsimp only at w
  try dsimp only at xs
  try dsimp only at st
  try dsimp only at cp
  try dsimp only at hi
  try dsimp only at hw
  try dsimp only at hx
  try dsimp only at hl
  try dsimp only at hG
  repeat refine J.seq ?_
  refine J.plain ?_
  refine JO.t (ob_move rfl) rfl ?_
  refine JO.t (ob_lss rfl rfl) rfl ?_
  refine JO.nil ?_
  repeat (first | refine JX.next ?_ | refine JX.normal_block ?_)
  refine J.sel [0, 3, 4, 6] (.cons rfl (.cons rfl (.cons rfl (.cons rfl .nil)))) ?_
  repeat refine J.seq ?_
  refine J.cond rfl (fun ht6 => ?_) (fun ht6 => ?_)
  ·
    try simp only [decide_eq_true_eq, decide_eq_false_iff_not] at ht6
    refine J.skip ?_
    repeat (first | refine JX.next ?_ | refine JX.normal_block ?_)
    repeat refine J.seq ?_
    refine J.block ?_
    repeat refine J.seq ?_
    refine J.plain ?_
    refine JO.t (ob_move rfl) rfl ?_
    refine JO.t (ob_move rfl) rfl ?_
    refine JO.t (ob_rem rfl rfl (by decide)) rfl ?_
    refine JO.t (ob_convIIe ⟨_, un_uint64⟩ un_uint8 rfl (rem256 w)) rfl ?_
    refine JO.t (ob_buildSlice (cs := [_]) sl_sl_uint8 (by omega) (by omega) (.cons rfl .nil) rfl rfl rfl) rfl ?_
    refine JO.apX ([UInt8.ofNat (w % 256)]) ap_sl_uint8 bC_len (by repeat (first | exact .here | apply Cx.past | apply Cx.there)) hG rfl rfl (fun L => src_new un_sl_uint8 rfl rfl) (by simp) (by simp <;> omega) (by simp <;> omega) rfl (fun st1 cp1 hG1 => ?_)
    try dsimp only
    refine JO.t (ob_assign rfl) rfl ?_
    refine JO.nil ?_
    repeat (first | refine JX.next ?_ | refine JX.normal_block ?_)
    refine J.sel [0, 3, 4] (.cons rfl (.cons rfl (.cons rfl .nil))) ?_
    repeat refine J.seq ?_
    refine J.plain ?_
    refine JO.t (ob_move rfl) rfl ?_
    refine JO.t (ob_quov rfl rfl (by decide) (quo256 hw)) rfl ?_
    refine JO.t (ob_assign rfl) rfl ?_
    refine JO.nil ?_
    repeat (first | refine JX.next ?_ | refine JX.normal_block ?_)
    refine J.sel [0, 3, 4] (.cons rfl (.cons rfl (.cons rfl .nil))) ?_
    repeat refine J.seq ?_
    refine J.plain ?_
    refine JO.t (ob_move rfl) rfl ?_
    refine JO.t (ob_addc (cc := ((i + 1 : Nat) : Int)) rfl rfl (by omega) (by omega) (by omega)) rfl ?_
    refine JO.t (ob_assign rfl) rfl ?_
    refine JO.nil ?_
    repeat refine JX.normal_block ?_
    refine JX.roundG (x := ⟨i, w, xs, st, cp⟩) (i + 1, w / 256, xs ++ [UInt8.ofNat (w % 256)], st1, cp1) ?_ ?_ [0, 3, 4] ?_ ?_ ?_ ?_
    · exact ⟨by omega, by show w / 256 < _; omega, by show (xs ++ [UInt8.ofNat (w % 256)]) ++ leN (8 - (i + 1)) (w / 256) = _; rw [← hx, show 8 - i = (8 - (i + 1)) + 1 by omega, leN, List.append_assoc]; rfl, by simp [hl], hG1⟩
    · exact (by simp only; omega)
    · exact (.cons rfl (.cons rfl (.cons rfl .nil)))
    · repeat (first | exact .all | exact .nil | refine Has.own (by repeat (first | exact .here | apply Tl.past | apply Tl.there)) ?_ | refine Has.cons (by repeat (first | exact .here | apply Pk.past | apply Pk.there)) ?_)
    · exact fun G hG => by repeat (first | exact hG | refine List.mem_cons_of_mem _ ?_)
    · exact fun _ _ _ => fun _ _ => trivial
  ·
    try simp only [decide_eq_true_eq, decide_eq_false_iff_not] at ht6
    repeat refine J.seq ?_
    refine J.exit ?_
    repeat (first | refine JX.hit ?_ | refine JX.miss rfl ?_ | refine JX.exit_pass ?_)
    repeat (first | refine JX.next ?_ | refine JX.normal_block ?_)
    refine J.freezeO bC_len hG (e := ty_uint8) (by repeat (first | exact .here | apply Tl.past | apply Tl.there)) (fun _ h => h) rfl rfl ?_
    have he : i = 8 := by omega
    subst he
    have hx8 : xs = leN 8 u := by rw [← hx]; simp [leN]
    repeat refine J.seq ?_
    refine J.plain ?_
    refine JO.t (ob_move rfl) rfl ?_
    refine JO.t (ob_assign rfl) rfl ?_
    refine JO.nil ?_
    repeat (first | refine JX.next ?_ | refine JX.normal_block ?_)
    refine J.sel [2] (.cons rfl .nil) ?_
    repeat refine J.seq ?_
    refine J.ret ?_
    repeat (first | refine JX.ret_pass ?_ | refine JX.ret_block ?_)
    exact JX.ret1sub rfl rfl rfl (by rw [← hx8]; exact Sub.slOC hG (by repeat (first | exact List.mem_cons_self | apply List.mem_cons_of_mem)))
end Go.Proofs.YtlccnpmhmdoapaaDoor
