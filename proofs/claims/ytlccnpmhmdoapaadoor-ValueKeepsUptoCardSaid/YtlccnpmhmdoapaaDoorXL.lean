/- value: statements on keys read back, on tuples cut. No condition. -/
import Derived.Test.YtlccnpmhmdoapaaDoorXG
import Derived.Test.YtlccnpmhmdoapaaDoorXG4
set_option maxRecDepth 20000
namespace Go.Proofs.YtlccnpmhmdoapaaDoor
open Go Go.Vc
open Go.Vl
theorem c_get_at {l : List UInt8} {r : List V3 × Int} (h : getL l = r) : CallTy Tryd.prog f_value_Get [.rep (SlC bC 1 l)] (.tup2 (.rep (SlC V3.cells 3 r.1)) (.is (.int .i64 r.2))) := h ▸ c_value_Get l
theorem c_fk_key {v : V3} (h : okV v = true) (hr : I64 v.n) : CallF Tryd.prog f_value_FromKey [GF] [.rep (SlC bC 1 (keyL v))] (.tup2 (.is (.agg #[.int .i64 v.k, .int .i64 v.n, .string v.s])) (.is (.int .i64 0))) := by
  have hl := key_len (ok_cases h)
  have h1 := c_value_FromKey (keyL v) (by omega)
  rw [fk_key (ok_cases h) hr] at h1
  exact h1
theorem keyR_b (v : V3) : ((keyR v).2 == 0) = okV v := by
  unfold keyR
  cases okV v <;> rfl
section
variable {P : Program} {L : List Own} {Φ : List (World → Prop)} {H : Know} {dst : Option Nat} {ty : TypeId} {pos : String} {after : Array Edge} {g : Option (Nat × Bool)}
theorem ob_strP {s t e : TypeId} {x : Operand} {bs : List UInt8} {a : Option Addr} {len cap : Nat} {p : Prop} (hp : p) (hs : P.underlying s = some (.slice e)) (he : P.underlying e = some (.int .u8)) (hd : P.underlying t = some .string) (hx : H x (.is (.slice a len cap))) (hF : (fun w => p → RowG bC 1 bs a len w) ∈ Φ) :
    Ob P L Φ H ⟨dst, .convert s t x, ty, pos, after, g⟩ (.is (.string ⟨bs.toArray⟩)) :=
  ob_is fun E w ρ hq => by
    have e1 : ρ x = .slice a len cap := hq.x x _ (by simp [Op.operands]) hx
    have h1 := run_convert_bytes_string (P := P) w s t e a len cap hs he hd
    rw [row_str ((hq.f _ hF).now hp)] at h1
    simp [execOp, e1, h1]
end
theorem begins_no {v w : V3} (hv : okV v = true) (hw : okV w = true) (rv : I64 v.n) (rw_ : I64 w.n) : (decide (((keyL v).length : Int) < (keyL w).length) && seq (bl ((keyL w).take (keyL v).length)) (bl (keyL v))) = false := by
  cases h : (decide (((keyL v).length : Int) < (keyL w).length) && seq (bl ((keyL w).take (keyL v).length)) (bl (keyL v)))
  · rfl
  · rw [Bool.and_eq_true, decide_eq_true_eq, seq_lists, bl_list, bl_list, beq_iff_eq] at h
    have := key_pre (ok_cases hv) (ok_cases hw) rv rw_ (by rw [← h.2]; exact List.take_prefix _ _)
    subst this
    omega
theorem keys_c {v w : V3} (hv : okV v = true) (hw : okV w = true) (rv : I64 v.n) (rw_ : I64 w.n) {s g : Bool} (hs : slt (bl (keyL v)) (bl (keyL w)) = s) (hg : (!(slt (bl (keyL v)) (bl (keyL w)) || seq (bl (keyL v)) (bl (keyL w)))) = g) : cmpV v w = if g then 1 else if s then -1 else 0 := by
  have key := key_cmp (ok_cases hv) (ok_cases hw) rv rw_
  rw [slt_lists, bl_list, bl_list] at hs
  rw [slt_lists, seq_lists, bl_list, bl_list] at hg
  have hs' : lss (keyL v) (keyL w) = s := hs
  rw [hs] at hg
  rw [← key, hs']
  cases h : lss (keyL w) (keyL v)
  · cases s
    · have := lss_total _ _ hs' h
      rw [this] at hg
      simp at hg
      subst hg
      rfl
    · simp at hg
      subst hg
      rfl
  · have h2 := lss_asym _ _ h
    rw [hs'] at h2
    subst h2
    have h3 : ((keyL v) == (keyL w)) = false := by
      rw [beq_eq_false_iff_ne]
      intro e
      rw [e, lss_irrefl] at h
      cases h
    rw [h3] at hg
    simp at hg
    subst hg
    rfl
theorem keys_law {v w : V3} (hv : okV v = true) (hw : okV w = true) (rv : I64 v.n) (rw_ : I64 w.n) {c : Int} (hc : cmpV v w = c) {b : Bool} (hb : b = (decide (((keyL v).length : Int) < (keyL w).length) && seq (bl ((keyL w).take (keyL v).length)) (bl (keyL v)))) :
    (((((c == cmpV v w) && !b) && ((0 : Int) == 0)) && veq v.k v.n v.s v.k v.n v.s) && decide (((keyL v).length : Int) ≤ 140)) = true := by
  have hl := key_len (ok_cases hv)
  rw [hb, begins_no hv hw rv rw_, hc, (veq_iff v v).2 rfl, decide_eq_true (by omega)]
  simp
theorem put_len {vs : List V3} (h : (putLs vs).2 = 0) : (putLs vs).1.length ≤ 20000 := by
  obtain ⟨h1, h2, h3⟩ := putLs_ok h
  rw [h3, List.length_cons]
  have : ∀ l : List V3, (∀ v ∈ l, OkK v) → (l.flatMap putV).length ≤ 66 * l.length := by
    intro l
    induction l with
    | nil => intro _; simp
    | cons v l ih =>
      intro hl
      have e1 := putV_len (ok_of (hl v List.mem_cons_self))
      have e2 := ih fun w hw => hl w (List.mem_cons_of_mem _ hw)
      rw [List.flatMap_cons, List.length_append, List.length_cons]
      omega
  have := this vs h2
  omega
theorem c_law01_ValueKeys (v w : V3) (hv : I64 v.n) (hw : I64 w.n) : CallF Tryd.prog f_law01_ValueKeys [GF, TF] [.is (.agg #[.int .i64 v.k, .int .i64 v.n, .string v.s]), .is (.agg #[.int .i64 w.k, .int .i64 w.n, .string w.s])] (.is (.bool true)) :=
CallF.of (fn := Tryd.f8) Tryd.func8 (n := 96) rfl rfl rfl (fun _ _ => by kernel_rfl) fun E W => by
  repeat refine J.seq ?_
  refine J.plain ?_
  refine JO.box rfl rfl fun b2 => ?_
  refine JO.box rfl rfl fun b3 => ?_
  refine JO.t (ob_assign rfl) rfl ?_
  refine JO.nil ?_
  repeat (first | refine JX.next ?_ | refine JX.normal_block ?_)
  refine J.sel [2, 3] (.cons rfl (.cons rfl .nil)) ?_
  repeat refine J.seq ?_
  refine J.plain ?_
  refine JO.t (ob_callF rfl (c_law01_awake) (by simp) .nil) rfl ?_
  refine JO.t (ob_not rfl) rfl ?_
  refine JO.nil ?_
  repeat (first | refine JX.next ?_ | refine JX.normal_block ?_)
  refine J.sel [2, 3, 14] (.cons rfl (.cons rfl (.cons rfl .nil))) ?_
  repeat refine J.seq ?_
  refine J.cond rfl (fun ht14 => ?_) (fun ht14 => ?_)
  ·
    try simp only [decide_eq_true_eq, decide_eq_false_iff_not] at ht14
    repeat refine J.seq ?_
    refine J.plain ?_
    refine JO.t (ob_assign rfl) rfl ?_
    refine JO.nil ?_
    repeat (first | refine JX.next ?_ | refine JX.normal_block ?_)
    refine J.sel [4] (.cons rfl .nil) ?_
    repeat refine J.seq ?_
    refine J.ret ?_
    repeat (first | refine JX.ret_pass ?_ | refine JX.ret_block ?_)
    exact JX.ret1is rfl rfl (by simp at ht14)
  ·
    try simp only [decide_eq_true_eq, decide_eq_false_iff_not] at ht14
    refine J.skip ?_
    repeat (first | refine JX.next ?_ | refine JX.normal_block ?_)
    repeat refine J.seq ?_
    refine J.plain ?_
    refine JO.t (ob_ldN (cs := [_, _, _]) sz_api_Value rfl rfl rfl) rfl ?_
    refine JO.t (ob_callF rfl (c_value_Key v hv) (by simp) (.one rfl .nil)) rfl ?_
    refine JO.t (ob_move rfl) rfl ?_
    refine JO.t (ob_extract0 rfl) rfl ?_
    refine JO.t (ob_extract1 rfl) rfl ?_
    refine JO.t (ob_assign rfl) rfl ?_
    refine JO.t (ob_assign rfl) rfl ?_
    refine JO.nil ?_
    repeat (first | refine JX.next ?_ | refine JX.normal_block ?_)
    refine J.sel [2, 3, 5, 6] (.cons rfl (.cons rfl (.cons rfl (.cons rfl .nil)))) ?_
    repeat refine J.seq ?_
    refine J.plain ?_
    refine JO.t (ob_ldN (cs := [_, _, _]) sz_api_Value rfl rfl rfl) rfl ?_
    refine JO.t (ob_callF rfl (c_value_Key w hw) (by simp) (.one rfl .nil)) rfl ?_
    refine JO.t (ob_move rfl) rfl ?_
    refine JO.t (ob_extract0 rfl) rfl ?_
    refine JO.t (ob_extract1 rfl) rfl ?_
    refine JO.t (ob_assign rfl) rfl ?_
    refine JO.t (ob_assign rfl) rfl ?_
    refine JO.nil ?_
    repeat (first | refine JX.next ?_ | refine JX.normal_block ?_)
    refine J.sel [2, 3, 5, 6, 7, 8] (.cons rfl (.cons rfl (.cons rfl (.cons rfl (.cons rfl (.cons rfl .nil)))))) ?_
    repeat refine J.seq ?_
    refine J.reg0 hmx (by kernel_rfl) (by kernel_rfl) ?_
    refine RT.t (ob_move rfl) ?_
    refine RT.t (ob_neq rfl rfl) ?_
    refine RT.t (ob_move rfl) ?_
    refine RT.g rfl rfl rfl (fun hg => ob_move (.inl rfl)) ?_
    refine RT.g rfl rfl rfl (fun hg => ob_neq (.inr ⟨_, rfl, fun h => h⟩) (.inl rfl)) ?_
    refine RT.t (ob_pickOr rfl rfl rfl id) ?_
    refine RT.nil ?_
    refine FinS.nil0 ?_
    repeat (first | refine JX.next ?_ | refine JX.normal_block ?_)
    refine J.sel [2, 3, 5, 6, 7, 8, 30] (.cons rfl (.cons rfl (.cons rfl (.cons rfl (.cons rfl (.cons rfl (.cons rfl .nil))))))) ?_
    repeat refine J.seq ?_
    refine J.cond rfl (fun ht30 => ?_) (fun ht30 => ?_)
    ·
      try simp only [decide_eq_true_eq, decide_eq_false_iff_not] at ht30
      repeat refine J.seq ?_
      refine J.reg0 hmx (by kernel_rfl) (by kernel_rfl) ?_
      refine RT.t (ob_move rfl) ?_
      refine RT.t (ob_eql rfl rfl) ?_
      refine RT.t (ob_ldN (cs := [_, _, _]) sz_api_Value rfl rfl rfl) ?_
      refine RT.t (ob_call rfl (c_value_Ok v) (.one rfl .nil)) ?_
      refine RT.t (ob_beql un_bool rfl rfl) ?_
      refine RT.t (ob_move rfl) ?_
      refine RT.g rfl rfl rfl (fun hg => ob_move (.inl rfl)) ?_
      refine RT.g rfl rfl rfl (fun hg => ob_eql (.inr ⟨_, rfl, fun h => h⟩) (.inl rfl)) ?_
      refine RT.g rfl rfl rfl (fun hg => ob_ldN (cs := [_, _, _]) sz_api_Value (.inl rfl) rfl rfl) ?_
      refine RT.g rfl rfl rfl (fun hg => ob_call (.inl rfl) (c_value_Ok w) (.one (.inr ⟨_, rfl, fun h => h⟩) .nil)) ?_
      refine RT.g rfl rfl rfl (fun hg => ob_beql un_bool (.inr ⟨_, rfl, fun h => h⟩) (.inr ⟨_, rfl, fun h => h⟩)) ?_
      refine RT.t (ob_pickAnd rfl rfl rfl id) ?_
      refine RT.t (ob_assign rfl) ?_
      refine RT.nil ?_
      refine FinS.nil0 ?_
      repeat (first | refine JX.next ?_ | refine JX.normal_block ?_)
      refine J.sel [4] (.cons rfl .nil) ?_
      repeat refine J.seq ?_
      refine J.ret ?_
      repeat (first | refine JX.ret_pass ?_ | refine JX.ret_block ?_)
      exact JX.ret1is rfl rfl (by rw [keyR_b, keyR_b]; simp)
    ·
      try simp only [decide_eq_true_eq, decide_eq_false_iff_not] at ht30
      refine J.skip ?_
      repeat (first | refine JX.next ?_ | refine JX.normal_block ?_)
      have hq := or_false2 ht30
      have okv := keyR_eq (by simpa using hq.1)
      have okw := keyR_eq (by simpa using hq.2)
      have klv := key_len (ok_cases okv.1)
      have klw := key_len (ok_cases okw.1)
      refine J.openSlC (s := 5) rfl (fun a1 n1 c1 q1 o1 hl1 ha1 hc1 => ?_)
      refine J.openSlC (s := 7) rfl (fun a2 n2 c2 q2 o2 hl2 ha2 hc2 => ?_)
      rw [okv.2] at hl1
      rw [okw.2] at hl2
      refine J.subΦ (Φ' := RowG bC 1 (keyL w) a2 n2 :: RowG bC 1 (keyL v) a1 n1 :: [GF, TF]) (fun F hF => by rw [okv.2, okw.2]; exact hF) ?_
      subst hl1 hl2
      refine J.fact (fun w_ => (keyL v).length ≤ (keyL w).length → RowG bC 1 ((keyL w).take (keyL v).length) a2 (keyL v).length w_) (fun E w_ hF _ => fun w1 hk hle => rowG_take (hF (RowG bC 1 (keyL w) a2 (keyL w).length) (by repeat (first | exact List.mem_cons_self | apply List.mem_cons_of_mem)) w1 hk) hle) ?_
      repeat refine J.seq ?_
      refine J.plain ?_
      refine JO.t (ob_assign rfl) rfl ?_
      refine JO.nil ?_
      repeat (first | refine JX.next ?_ | refine JX.normal_block ?_)
      refine J.sel [2, 3, 5, 7, 9] (.cons rfl (.cons rfl (.cons rfl (.cons rfl (.cons rfl .nil))))) ?_
      repeat refine J.seq ?_
      refine J.plain ?_
      refine JO.t (ob_move rfl) rfl ?_
      refine JO.t (ob_str un_sl_uint8 un_uint8 un_string rfl (by repeat (first | exact List.mem_cons_self | apply List.mem_cons_of_mem))) rfl ?_
      refine JO.t (ob_move rfl) rfl ?_
      refine JO.t (ob_str un_sl_uint8 un_uint8 un_string rfl (by repeat (first | exact List.mem_cons_self | apply List.mem_cons_of_mem))) rfl ?_
      refine JO.t (ob_slss rfl rfl) rfl ?_
      refine JO.nil ?_
      repeat (first | refine JX.next ?_ | refine JX.normal_block ?_)
      refine J.sel [2, 3, 5, 7, 9, 47] (.cons rfl (.cons rfl (.cons rfl (.cons rfl (.cons rfl (.cons rfl .nil)))))) ?_
      repeat refine J.seq ?_
      refine J.cond rfl (fun ht47 => ?_) (fun ht47 => ?_)
      ·
        try simp only [decide_eq_true_eq, decide_eq_false_iff_not] at ht47
        repeat refine J.seq ?_
        refine J.plain ?_
        refine JO.t (ob_assign rfl) rfl ?_
        refine JO.nil ?_
        repeat (first | refine JX.next ?_ | refine JX.normal_block ?_)
        refine J.sel [2, 3, 5, 7, 9] (.cons rfl (.cons rfl (.cons rfl (.cons rfl (.cons rfl .nil))))) ?_
        repeat refine J.seq ?_
        refine J.plain ?_
        refine JO.t (ob_move rfl) rfl ?_
        refine JO.t (ob_str un_sl_uint8 un_uint8 un_string rfl (by repeat (first | exact List.mem_cons_self | apply List.mem_cons_of_mem))) rfl ?_
        refine JO.t (ob_move rfl) rfl ?_
        refine JO.t (ob_str un_sl_uint8 un_uint8 un_string rfl (by repeat (first | exact List.mem_cons_self | apply List.mem_cons_of_mem))) rfl ?_
        refine JO.t (ob_sgtr rfl rfl) rfl ?_
        refine JO.nil ?_
        repeat (first | refine JX.next ?_ | refine JX.normal_block ?_)
        refine J.sel [2, 3, 5, 7, 9, 52] (.cons rfl (.cons rfl (.cons rfl (.cons rfl (.cons rfl (.cons rfl .nil)))))) ?_
        repeat refine J.seq ?_
        refine J.cond rfl (fun ht52 => ?_) (fun ht52 => ?_)
        ·
          try simp only [decide_eq_true_eq, decide_eq_false_iff_not] at ht52
          repeat refine J.seq ?_
          refine J.plain ?_
          refine JO.t (ob_assign rfl) rfl ?_
          refine JO.nil ?_
          repeat (first | refine JX.next ?_ | refine JX.normal_block ?_)
          refine J.sel [2, 3, 5, 7, 9] (.cons rfl (.cons rfl (.cons rfl (.cons rfl (.cons rfl .nil))))) ?_
          repeat refine J.seq ?_
          refine J.reg0 hmx (by kernel_rfl) (by kernel_rfl) ?_
          refine RT.t (ob_move rfl) ?_
          refine RT.t (ob_len un_sl_uint8 rfl) ?_
          refine RT.t (ob_move rfl) ?_
          refine RT.t (ob_len un_sl_uint8 rfl) ?_
          refine RT.t (ob_lss rfl rfl) ?_
          refine RT.t (ob_move rfl) ?_
          refine RT.g rfl rfl rfl (fun hg => ob_move (.inl rfl)) ?_
          refine RT.g rfl rfl rfl (fun hg => ob_move (.inl rfl)) ?_
          refine RT.g rfl rfl rfl (fun hg => ob_len un_sl_uint8 (.inr ⟨_, rfl, fun h => h⟩)) ?_
          refine RT.g rfl rfl rfl (fun hg => ob_sliceHi un_sl_uint8 el_sl_uint8 (.inr ⟨_, rfl, fun h => h⟩) (.inr ⟨_, rfl, fun h => h⟩) (by omega) (by simp at hg; omega)) ?_
          refine RT.g rfl rfl rfl (fun hg => ob_strP (p := (keyL v).length ≤ (keyL w).length) (by simp at hg; omega) un_sl_uint8 un_uint8 un_string (.inr ⟨_, rfl, fun h => h⟩) (by repeat (first | exact List.mem_cons_self | apply List.mem_cons_of_mem))) ?_
          refine RT.g rfl rfl rfl (fun hg => ob_move (.inl rfl)) ?_
          refine RT.g rfl rfl rfl (fun hg => ob_str un_sl_uint8 un_uint8 un_string (.inr ⟨_, rfl, fun h => h⟩) (by repeat (first | exact List.mem_cons_self | apply List.mem_cons_of_mem))) ?_
          refine RT.g rfl rfl rfl (fun hg => ob_seql (.inr ⟨_, rfl, fun h => h⟩) (.inr ⟨_, rfl, fun h => h⟩)) ?_
          refine RT.t (ob_pickAnd rfl rfl rfl id) ?_
          refine RT.t (ob_assign rfl) ?_
          refine RT.nil ?_
          refine FinS.nil0 ?_
          repeat (first | refine JX.next ?_ | refine JX.normal_block ?_)
          refine J.sel [2, 3, 5, 9, 10] (.cons rfl (.cons rfl (.cons rfl (.cons rfl (.cons rfl .nil))))) ?_
          repeat refine J.seq ?_
          refine J.plain ?_
          refine JO.t (ob_move rfl) rfl ?_
          refine JO.t (ob_callF rfl (c_fk_key okv.1 hv) (by simp) (.sub rfl (Sub.slFactC (by repeat (first | exact List.mem_cons_self | apply List.mem_cons_of_mem)) hc1) .nil)) rfl ?_
          refine JO.t (ob_move rfl) rfl ?_
          refine JO.t (ob_extract0 rfl) rfl ?_
          refine JO.t (ob_extract1 rfl) rfl ?_
          refine JO.alloc zo_api_Value rfl fun b11 => ?_
          refine JO.m (obm_store rfl rfl (by repeat (first | exact .here | apply Upd.there)) (by first | exact cnt_is rfl rfl | exact cnt_ex) (by first | exact cnt_is rfl rfl | exact cnt_ex | exact cnt_aggO) ss_api_Value) (by rfl) ?_
          refine JO.t (ob_assign rfl) rfl ?_
          refine JO.nil ?_
          repeat (first | refine JX.next ?_ | refine JX.normal_block ?_)
          refine J.sel [2, 3, 5, 9, 10, 11, 12] (.cons rfl (.cons rfl (.cons rfl (.cons rfl (.cons rfl (.cons rfl (.cons rfl .nil))))))) ?_
          repeat refine J.seq ?_
          refine J.reg0 hmx (by kernel_rfl) (by kernel_rfl) ?_
          refine RT.t (ob_move rfl) ?_
          refine RT.t (ob_ldN (cs := [_, _, _]) sz_api_Value rfl rfl rfl) ?_
          refine RT.t (ob_ldN (cs := [_, _, _]) sz_api_Value rfl rfl rfl) ?_
          refine RT.t (ob_call rfl (c_value_Compare v w) (.one rfl (.one rfl .nil))) ?_
          refine RT.t (ob_eql rfl rfl) ?_
          refine RT.t (ob_move rfl) ?_
          refine RT.g rfl rfl rfl (fun hg => ob_move (.inl rfl)) ?_
          refine RT.g rfl rfl rfl (fun hg => ob_not (.inr ⟨_, rfl, fun h => h⟩)) ?_
          refine RT.t (ob_pickAnd rfl rfl rfl id) ?_
          refine RT.t (ob_move rfl) ?_
          refine RT.g rfl rfl rfl (fun hg => ob_move (.inl rfl)) ?_
          refine RT.g rfl rfl rfl (fun hg => ob_eql (.inr ⟨_, rfl, fun h => h⟩) (.inl rfl)) ?_
          refine RT.t (ob_pickAnd rfl rfl rfl id) ?_
          refine RT.t (ob_move rfl) ?_
          refine RT.g rfl rfl rfl (fun hg => ob_ldN (cs := [_, _, _]) sz_api_Value (.inl rfl) rfl rfl) ?_
          refine RT.g rfl rfl rfl (fun hg => ob_ldN (cs := [_, _, _]) sz_api_Value (.inl rfl) rfl rfl) ?_
          refine RT.g rfl rfl rfl (fun hg => ob_veq veq_api_Value (.inr ⟨_, rfl, fun h => h⟩) (.inr ⟨_, rfl, fun h => h⟩)) ?_
          refine RT.t (ob_pickAnd rfl rfl rfl id) ?_
          refine RT.t (ob_move rfl) ?_
          refine RT.g rfl rfl rfl (fun hg => ob_move (.inl rfl)) ?_
          refine RT.g rfl rfl rfl (fun hg => ob_len un_sl_uint8 (.inr ⟨_, rfl, fun h => h⟩)) ?_
          refine RT.g rfl rfl rfl (fun hg => ob_leq (.inr ⟨_, rfl, fun h => h⟩) (.inl rfl)) ?_
          refine RT.t (ob_pickAnd rfl rfl rfl id) ?_
          refine RT.t (ob_assign rfl) ?_
          refine RT.nil ?_
          refine FinS.nil0 ?_
          repeat (first | refine JX.next ?_ | refine JX.normal_block ?_)
          refine J.sel [4] (.cons rfl .nil) ?_
          repeat refine J.seq ?_
          refine J.ret ?_
          repeat (first | refine JX.ret_pass ?_ | refine JX.ret_block ?_)
          exact JX.ret1is rfl rfl (by rw [← keys_law okv.1 okw.1 hv hw (c := 1) (by rw [keys_c okv.1 okw.1 hv hw ht47 ht52]; rfl) rfl])
        ·
          try simp only [decide_eq_true_eq, decide_eq_false_iff_not] at ht52
          refine J.skip ?_
          repeat (first | refine JX.next ?_ | refine JX.normal_block ?_)
          repeat refine J.seq ?_
          refine J.reg0 hmx (by kernel_rfl) (by kernel_rfl) ?_
          refine RT.t (ob_move rfl) ?_
          refine RT.t (ob_len un_sl_uint8 rfl) ?_
          refine RT.t (ob_move rfl) ?_
          refine RT.t (ob_len un_sl_uint8 rfl) ?_
          refine RT.t (ob_lss rfl rfl) ?_
          refine RT.t (ob_move rfl) ?_
          refine RT.g rfl rfl rfl (fun hg => ob_move (.inl rfl)) ?_
          refine RT.g rfl rfl rfl (fun hg => ob_move (.inl rfl)) ?_
          refine RT.g rfl rfl rfl (fun hg => ob_len un_sl_uint8 (.inr ⟨_, rfl, fun h => h⟩)) ?_
          refine RT.g rfl rfl rfl (fun hg => ob_sliceHi un_sl_uint8 el_sl_uint8 (.inr ⟨_, rfl, fun h => h⟩) (.inr ⟨_, rfl, fun h => h⟩) (by omega) (by simp at hg; omega)) ?_
          refine RT.g rfl rfl rfl (fun hg => ob_strP (p := (keyL v).length ≤ (keyL w).length) (by simp at hg; omega) un_sl_uint8 un_uint8 un_string (.inr ⟨_, rfl, fun h => h⟩) (by repeat (first | exact List.mem_cons_self | apply List.mem_cons_of_mem))) ?_
          refine RT.g rfl rfl rfl (fun hg => ob_move (.inl rfl)) ?_
          refine RT.g rfl rfl rfl (fun hg => ob_str un_sl_uint8 un_uint8 un_string (.inr ⟨_, rfl, fun h => h⟩) (by repeat (first | exact List.mem_cons_self | apply List.mem_cons_of_mem))) ?_
          refine RT.g rfl rfl rfl (fun hg => ob_seql (.inr ⟨_, rfl, fun h => h⟩) (.inr ⟨_, rfl, fun h => h⟩)) ?_
          refine RT.t (ob_pickAnd rfl rfl rfl id) ?_
          refine RT.t (ob_assign rfl) ?_
          refine RT.nil ?_
          refine FinS.nil0 ?_
          repeat (first | refine JX.next ?_ | refine JX.normal_block ?_)
          refine J.sel [2, 3, 5, 9, 10] (.cons rfl (.cons rfl (.cons rfl (.cons rfl (.cons rfl .nil))))) ?_
          repeat refine J.seq ?_
          refine J.plain ?_
          refine JO.t (ob_move rfl) rfl ?_
          refine JO.t (ob_callF rfl (c_fk_key okv.1 hv) (by simp) (.sub rfl (Sub.slFactC (by repeat (first | exact List.mem_cons_self | apply List.mem_cons_of_mem)) hc1) .nil)) rfl ?_
          refine JO.t (ob_move rfl) rfl ?_
          refine JO.t (ob_extract0 rfl) rfl ?_
          refine JO.t (ob_extract1 rfl) rfl ?_
          refine JO.alloc zo_api_Value rfl fun b11 => ?_
          refine JO.m (obm_store rfl rfl (by repeat (first | exact .here | apply Upd.there)) (by first | exact cnt_is rfl rfl | exact cnt_ex) (by first | exact cnt_is rfl rfl | exact cnt_ex | exact cnt_aggO) ss_api_Value) (by rfl) ?_
          refine JO.t (ob_assign rfl) rfl ?_
          refine JO.nil ?_
          repeat (first | refine JX.next ?_ | refine JX.normal_block ?_)
          refine J.sel [2, 3, 5, 9, 10, 11, 12] (.cons rfl (.cons rfl (.cons rfl (.cons rfl (.cons rfl (.cons rfl (.cons rfl .nil))))))) ?_
          repeat refine J.seq ?_
          refine J.reg0 hmx (by kernel_rfl) (by kernel_rfl) ?_
          refine RT.t (ob_move rfl) ?_
          refine RT.t (ob_ldN (cs := [_, _, _]) sz_api_Value rfl rfl rfl) ?_
          refine RT.t (ob_ldN (cs := [_, _, _]) sz_api_Value rfl rfl rfl) ?_
          refine RT.t (ob_call rfl (c_value_Compare v w) (.one rfl (.one rfl .nil))) ?_
          refine RT.t (ob_eql rfl rfl) ?_
          refine RT.t (ob_move rfl) ?_
          refine RT.g rfl rfl rfl (fun hg => ob_move (.inl rfl)) ?_
          refine RT.g rfl rfl rfl (fun hg => ob_not (.inr ⟨_, rfl, fun h => h⟩)) ?_
          refine RT.t (ob_pickAnd rfl rfl rfl id) ?_
          refine RT.t (ob_move rfl) ?_
          refine RT.g rfl rfl rfl (fun hg => ob_move (.inl rfl)) ?_
          refine RT.g rfl rfl rfl (fun hg => ob_eql (.inr ⟨_, rfl, fun h => h⟩) (.inl rfl)) ?_
          refine RT.t (ob_pickAnd rfl rfl rfl id) ?_
          refine RT.t (ob_move rfl) ?_
          refine RT.g rfl rfl rfl (fun hg => ob_ldN (cs := [_, _, _]) sz_api_Value (.inl rfl) rfl rfl) ?_
          refine RT.g rfl rfl rfl (fun hg => ob_ldN (cs := [_, _, _]) sz_api_Value (.inl rfl) rfl rfl) ?_
          refine RT.g rfl rfl rfl (fun hg => ob_veq veq_api_Value (.inr ⟨_, rfl, fun h => h⟩) (.inr ⟨_, rfl, fun h => h⟩)) ?_
          refine RT.t (ob_pickAnd rfl rfl rfl id) ?_
          refine RT.t (ob_move rfl) ?_
          refine RT.g rfl rfl rfl (fun hg => ob_move (.inl rfl)) ?_
          refine RT.g rfl rfl rfl (fun hg => ob_len un_sl_uint8 (.inr ⟨_, rfl, fun h => h⟩)) ?_
          refine RT.g rfl rfl rfl (fun hg => ob_leq (.inr ⟨_, rfl, fun h => h⟩) (.inl rfl)) ?_
          refine RT.t (ob_pickAnd rfl rfl rfl id) ?_
          refine RT.t (ob_assign rfl) ?_
          refine RT.nil ?_
          refine FinS.nil0 ?_
          repeat (first | refine JX.next ?_ | refine JX.normal_block ?_)
          refine J.sel [4] (.cons rfl .nil) ?_
          repeat refine J.seq ?_
          refine J.ret ?_
          repeat (first | refine JX.ret_pass ?_ | refine JX.ret_block ?_)
          exact JX.ret1is rfl rfl (by rw [← keys_law okv.1 okw.1 hv hw (c := -1) (by rw [keys_c okv.1 okw.1 hv hw ht47 ht52]; rfl) rfl])
      ·
        try simp only [decide_eq_true_eq, decide_eq_false_iff_not] at ht47
        refine J.skip ?_
        repeat (first | refine JX.next ?_ | refine JX.normal_block ?_)
        repeat refine J.seq ?_
        refine J.plain ?_
        refine JO.t (ob_move rfl) rfl ?_
        refine JO.t (ob_str un_sl_uint8 un_uint8 un_string rfl (by repeat (first | exact List.mem_cons_self | apply List.mem_cons_of_mem))) rfl ?_
        refine JO.t (ob_move rfl) rfl ?_
        refine JO.t (ob_str un_sl_uint8 un_uint8 un_string rfl (by repeat (first | exact List.mem_cons_self | apply List.mem_cons_of_mem))) rfl ?_
        refine JO.t (ob_sgtr rfl rfl) rfl ?_
        refine JO.nil ?_
        repeat (first | refine JX.next ?_ | refine JX.normal_block ?_)
        refine J.sel [2, 3, 5, 7, 9, 52] (.cons rfl (.cons rfl (.cons rfl (.cons rfl (.cons rfl (.cons rfl .nil)))))) ?_
        repeat refine J.seq ?_
        refine J.cond rfl (fun ht52 => ?_) (fun ht52 => ?_)
        ·
          try simp only [decide_eq_true_eq, decide_eq_false_iff_not] at ht52
          repeat refine J.seq ?_
          refine J.plain ?_
          refine JO.t (ob_assign rfl) rfl ?_
          refine JO.nil ?_
          repeat (first | refine JX.next ?_ | refine JX.normal_block ?_)
          refine J.sel [2, 3, 5, 7, 9] (.cons rfl (.cons rfl (.cons rfl (.cons rfl (.cons rfl .nil))))) ?_
          repeat refine J.seq ?_
          refine J.reg0 hmx (by kernel_rfl) (by kernel_rfl) ?_
          refine RT.t (ob_move rfl) ?_
          refine RT.t (ob_len un_sl_uint8 rfl) ?_
          refine RT.t (ob_move rfl) ?_
          refine RT.t (ob_len un_sl_uint8 rfl) ?_
          refine RT.t (ob_lss rfl rfl) ?_
          refine RT.t (ob_move rfl) ?_
          refine RT.g rfl rfl rfl (fun hg => ob_move (.inl rfl)) ?_
          refine RT.g rfl rfl rfl (fun hg => ob_move (.inl rfl)) ?_
          refine RT.g rfl rfl rfl (fun hg => ob_len un_sl_uint8 (.inr ⟨_, rfl, fun h => h⟩)) ?_
          refine RT.g rfl rfl rfl (fun hg => ob_sliceHi un_sl_uint8 el_sl_uint8 (.inr ⟨_, rfl, fun h => h⟩) (.inr ⟨_, rfl, fun h => h⟩) (by omega) (by simp at hg; omega)) ?_
          refine RT.g rfl rfl rfl (fun hg => ob_strP (p := (keyL v).length ≤ (keyL w).length) (by simp at hg; omega) un_sl_uint8 un_uint8 un_string (.inr ⟨_, rfl, fun h => h⟩) (by repeat (first | exact List.mem_cons_self | apply List.mem_cons_of_mem))) ?_
          refine RT.g rfl rfl rfl (fun hg => ob_move (.inl rfl)) ?_
          refine RT.g rfl rfl rfl (fun hg => ob_str un_sl_uint8 un_uint8 un_string (.inr ⟨_, rfl, fun h => h⟩) (by repeat (first | exact List.mem_cons_self | apply List.mem_cons_of_mem))) ?_
          refine RT.g rfl rfl rfl (fun hg => ob_seql (.inr ⟨_, rfl, fun h => h⟩) (.inr ⟨_, rfl, fun h => h⟩)) ?_
          refine RT.t (ob_pickAnd rfl rfl rfl id) ?_
          refine RT.t (ob_assign rfl) ?_
          refine RT.nil ?_
          refine FinS.nil0 ?_
          repeat (first | refine JX.next ?_ | refine JX.normal_block ?_)
          refine J.sel [2, 3, 5, 9, 10] (.cons rfl (.cons rfl (.cons rfl (.cons rfl (.cons rfl .nil))))) ?_
          repeat refine J.seq ?_
          refine J.plain ?_
          refine JO.t (ob_move rfl) rfl ?_
          refine JO.t (ob_callF rfl (c_fk_key okv.1 hv) (by simp) (.sub rfl (Sub.slFactC (by repeat (first | exact List.mem_cons_self | apply List.mem_cons_of_mem)) hc1) .nil)) rfl ?_
          refine JO.t (ob_move rfl) rfl ?_
          refine JO.t (ob_extract0 rfl) rfl ?_
          refine JO.t (ob_extract1 rfl) rfl ?_
          refine JO.alloc zo_api_Value rfl fun b11 => ?_
          refine JO.m (obm_store rfl rfl (by repeat (first | exact .here | apply Upd.there)) (by first | exact cnt_is rfl rfl | exact cnt_ex) (by first | exact cnt_is rfl rfl | exact cnt_ex | exact cnt_aggO) ss_api_Value) (by rfl) ?_
          refine JO.t (ob_assign rfl) rfl ?_
          refine JO.nil ?_
          repeat (first | refine JX.next ?_ | refine JX.normal_block ?_)
          refine J.sel [2, 3, 5, 9, 10, 11, 12] (.cons rfl (.cons rfl (.cons rfl (.cons rfl (.cons rfl (.cons rfl (.cons rfl .nil))))))) ?_
          repeat refine J.seq ?_
          refine J.reg0 hmx (by kernel_rfl) (by kernel_rfl) ?_
          refine RT.t (ob_move rfl) ?_
          refine RT.t (ob_ldN (cs := [_, _, _]) sz_api_Value rfl rfl rfl) ?_
          refine RT.t (ob_ldN (cs := [_, _, _]) sz_api_Value rfl rfl rfl) ?_
          refine RT.t (ob_call rfl (c_value_Compare v w) (.one rfl (.one rfl .nil))) ?_
          refine RT.t (ob_eql rfl rfl) ?_
          refine RT.t (ob_move rfl) ?_
          refine RT.g rfl rfl rfl (fun hg => ob_move (.inl rfl)) ?_
          refine RT.g rfl rfl rfl (fun hg => ob_not (.inr ⟨_, rfl, fun h => h⟩)) ?_
          refine RT.t (ob_pickAnd rfl rfl rfl id) ?_
          refine RT.t (ob_move rfl) ?_
          refine RT.g rfl rfl rfl (fun hg => ob_move (.inl rfl)) ?_
          refine RT.g rfl rfl rfl (fun hg => ob_eql (.inr ⟨_, rfl, fun h => h⟩) (.inl rfl)) ?_
          refine RT.t (ob_pickAnd rfl rfl rfl id) ?_
          refine RT.t (ob_move rfl) ?_
          refine RT.g rfl rfl rfl (fun hg => ob_ldN (cs := [_, _, _]) sz_api_Value (.inl rfl) rfl rfl) ?_
          refine RT.g rfl rfl rfl (fun hg => ob_ldN (cs := [_, _, _]) sz_api_Value (.inl rfl) rfl rfl) ?_
          refine RT.g rfl rfl rfl (fun hg => ob_veq veq_api_Value (.inr ⟨_, rfl, fun h => h⟩) (.inr ⟨_, rfl, fun h => h⟩)) ?_
          refine RT.t (ob_pickAnd rfl rfl rfl id) ?_
          refine RT.t (ob_move rfl) ?_
          refine RT.g rfl rfl rfl (fun hg => ob_move (.inl rfl)) ?_
          refine RT.g rfl rfl rfl (fun hg => ob_len un_sl_uint8 (.inr ⟨_, rfl, fun h => h⟩)) ?_
          refine RT.g rfl rfl rfl (fun hg => ob_leq (.inr ⟨_, rfl, fun h => h⟩) (.inl rfl)) ?_
          refine RT.t (ob_pickAnd rfl rfl rfl id) ?_
          refine RT.t (ob_assign rfl) ?_
          refine RT.nil ?_
          refine FinS.nil0 ?_
          repeat (first | refine JX.next ?_ | refine JX.normal_block ?_)
          refine J.sel [4] (.cons rfl .nil) ?_
          repeat refine J.seq ?_
          refine J.ret ?_
          repeat (first | refine JX.ret_pass ?_ | refine JX.ret_block ?_)
          exact JX.ret1is rfl rfl (by rw [← keys_law okv.1 okw.1 hv hw (c := 1) (by rw [keys_c okv.1 okw.1 hv hw ht47 ht52]; rfl) rfl])
        ·
          try simp only [decide_eq_true_eq, decide_eq_false_iff_not] at ht52
          refine J.skip ?_
          repeat (first | refine JX.next ?_ | refine JX.normal_block ?_)
          repeat refine J.seq ?_
          refine J.reg0 hmx (by kernel_rfl) (by kernel_rfl) ?_
          refine RT.t (ob_move rfl) ?_
          refine RT.t (ob_len un_sl_uint8 rfl) ?_
          refine RT.t (ob_move rfl) ?_
          refine RT.t (ob_len un_sl_uint8 rfl) ?_
          refine RT.t (ob_lss rfl rfl) ?_
          refine RT.t (ob_move rfl) ?_
          refine RT.g rfl rfl rfl (fun hg => ob_move (.inl rfl)) ?_
          refine RT.g rfl rfl rfl (fun hg => ob_move (.inl rfl)) ?_
          refine RT.g rfl rfl rfl (fun hg => ob_len un_sl_uint8 (.inr ⟨_, rfl, fun h => h⟩)) ?_
          refine RT.g rfl rfl rfl (fun hg => ob_sliceHi un_sl_uint8 el_sl_uint8 (.inr ⟨_, rfl, fun h => h⟩) (.inr ⟨_, rfl, fun h => h⟩) (by omega) (by simp at hg; omega)) ?_
          refine RT.g rfl rfl rfl (fun hg => ob_strP (p := (keyL v).length ≤ (keyL w).length) (by simp at hg; omega) un_sl_uint8 un_uint8 un_string (.inr ⟨_, rfl, fun h => h⟩) (by repeat (first | exact List.mem_cons_self | apply List.mem_cons_of_mem))) ?_
          refine RT.g rfl rfl rfl (fun hg => ob_move (.inl rfl)) ?_
          refine RT.g rfl rfl rfl (fun hg => ob_str un_sl_uint8 un_uint8 un_string (.inr ⟨_, rfl, fun h => h⟩) (by repeat (first | exact List.mem_cons_self | apply List.mem_cons_of_mem))) ?_
          refine RT.g rfl rfl rfl (fun hg => ob_seql (.inr ⟨_, rfl, fun h => h⟩) (.inr ⟨_, rfl, fun h => h⟩)) ?_
          refine RT.t (ob_pickAnd rfl rfl rfl id) ?_
          refine RT.t (ob_assign rfl) ?_
          refine RT.nil ?_
          refine FinS.nil0 ?_
          repeat (first | refine JX.next ?_ | refine JX.normal_block ?_)
          refine J.sel [2, 3, 5, 9, 10] (.cons rfl (.cons rfl (.cons rfl (.cons rfl (.cons rfl .nil))))) ?_
          repeat refine J.seq ?_
          refine J.plain ?_
          refine JO.t (ob_move rfl) rfl ?_
          refine JO.t (ob_callF rfl (c_fk_key okv.1 hv) (by simp) (.sub rfl (Sub.slFactC (by repeat (first | exact List.mem_cons_self | apply List.mem_cons_of_mem)) hc1) .nil)) rfl ?_
          refine JO.t (ob_move rfl) rfl ?_
          refine JO.t (ob_extract0 rfl) rfl ?_
          refine JO.t (ob_extract1 rfl) rfl ?_
          refine JO.alloc zo_api_Value rfl fun b11 => ?_
          refine JO.m (obm_store rfl rfl (by repeat (first | exact .here | apply Upd.there)) (by first | exact cnt_is rfl rfl | exact cnt_ex) (by first | exact cnt_is rfl rfl | exact cnt_ex | exact cnt_aggO) ss_api_Value) (by rfl) ?_
          refine JO.t (ob_assign rfl) rfl ?_
          refine JO.nil ?_
          repeat (first | refine JX.next ?_ | refine JX.normal_block ?_)
          refine J.sel [2, 3, 5, 9, 10, 11, 12] (.cons rfl (.cons rfl (.cons rfl (.cons rfl (.cons rfl (.cons rfl (.cons rfl .nil))))))) ?_
          repeat refine J.seq ?_
          refine J.reg0 hmx (by kernel_rfl) (by kernel_rfl) ?_
          refine RT.t (ob_move rfl) ?_
          refine RT.t (ob_ldN (cs := [_, _, _]) sz_api_Value rfl rfl rfl) ?_
          refine RT.t (ob_ldN (cs := [_, _, _]) sz_api_Value rfl rfl rfl) ?_
          refine RT.t (ob_call rfl (c_value_Compare v w) (.one rfl (.one rfl .nil))) ?_
          refine RT.t (ob_eql rfl rfl) ?_
          refine RT.t (ob_move rfl) ?_
          refine RT.g rfl rfl rfl (fun hg => ob_move (.inl rfl)) ?_
          refine RT.g rfl rfl rfl (fun hg => ob_not (.inr ⟨_, rfl, fun h => h⟩)) ?_
          refine RT.t (ob_pickAnd rfl rfl rfl id) ?_
          refine RT.t (ob_move rfl) ?_
          refine RT.g rfl rfl rfl (fun hg => ob_move (.inl rfl)) ?_
          refine RT.g rfl rfl rfl (fun hg => ob_eql (.inr ⟨_, rfl, fun h => h⟩) (.inl rfl)) ?_
          refine RT.t (ob_pickAnd rfl rfl rfl id) ?_
          refine RT.t (ob_move rfl) ?_
          refine RT.g rfl rfl rfl (fun hg => ob_ldN (cs := [_, _, _]) sz_api_Value (.inl rfl) rfl rfl) ?_
          refine RT.g rfl rfl rfl (fun hg => ob_ldN (cs := [_, _, _]) sz_api_Value (.inl rfl) rfl rfl) ?_
          refine RT.g rfl rfl rfl (fun hg => ob_veq veq_api_Value (.inr ⟨_, rfl, fun h => h⟩) (.inr ⟨_, rfl, fun h => h⟩)) ?_
          refine RT.t (ob_pickAnd rfl rfl rfl id) ?_
          refine RT.t (ob_move rfl) ?_
          refine RT.g rfl rfl rfl (fun hg => ob_move (.inl rfl)) ?_
          refine RT.g rfl rfl rfl (fun hg => ob_len un_sl_uint8 (.inr ⟨_, rfl, fun h => h⟩)) ?_
          refine RT.g rfl rfl rfl (fun hg => ob_leq (.inr ⟨_, rfl, fun h => h⟩) (.inl rfl)) ?_
          refine RT.t (ob_pickAnd rfl rfl rfl id) ?_
          refine RT.t (ob_assign rfl) ?_
          refine RT.nil ?_
          refine FinS.nil0 ?_
          repeat (first | refine JX.next ?_ | refine JX.normal_block ?_)
          refine J.sel [4] (.cons rfl .nil) ?_
          repeat refine J.seq ?_
          refine J.ret ?_
          repeat (first | refine JX.ret_pass ?_ | refine JX.ret_block ?_)
          exact JX.ret1is rfl rfl (by rw [← keys_law okv.1 okw.1 hv hw (c := 0) (by rw [keys_c okv.1 okw.1 hv hw ht47 ht52]; rfl) rfl])
theorem c_law01_ValueCuts (vs : List V3) (m : Int) (hm : 0 ≤ m ∧ m < 256) (hr : ∀ v ∈ vs, I64 v.n) : CallF Tryd.prog f_law01_ValueCuts [GF, TF] [.rep (SlG V3.cells 3 vs), .is (.int .u8 m)] (.is (.bool true)) :=
CallF.of (fn := Tryd.f11) Tryd.func11 (n := 53) rfl rfl rfl (fun _ _ => by kernel_rfl) fun E W => by
  obtain ⟨mb, rfl⟩ : ∃ mb : UInt8, ((mb.toNat : Nat) : Int) = m := ⟨UInt8.ofNat m.toNat, by rw [show (UInt8.ofNat m.toNat).toNat = m.toNat from UInt8.toNat_ofNat_of_lt' (by show m.toNat < 256; omega)]; omega⟩
  repeat refine J.seq ?_
  refine J.plain ?_
  refine JO.t (ob_assign rfl) rfl ?_
  refine JO.nil ?_
  repeat (first | refine JX.next ?_ | refine JX.normal_block ?_)
  refine J.sel [0, 1] (.cons rfl (.cons rfl .nil)) ?_
  repeat refine J.seq ?_
  refine J.plain ?_
  refine JO.t (ob_callF rfl (c_law01_awake) (by simp) .nil) rfl ?_
  refine JO.t (ob_not rfl) rfl ?_
  refine JO.nil ?_
  repeat (first | refine JX.next ?_ | refine JX.normal_block ?_)
  refine J.sel [0, 1, 13] (.cons rfl (.cons rfl (.cons rfl .nil))) ?_
  repeat refine J.seq ?_
  refine J.cond rfl (fun ht13 => ?_) (fun ht13 => ?_)
  ·
    try simp only [decide_eq_true_eq, decide_eq_false_iff_not] at ht13
    repeat refine J.seq ?_
    refine J.plain ?_
    refine JO.t (ob_assign rfl) rfl ?_
    refine JO.nil ?_
    repeat (first | refine JX.next ?_ | refine JX.normal_block ?_)
    refine J.sel [4] (.cons rfl .nil) ?_
    repeat refine J.seq ?_
    refine J.ret ?_
    repeat (first | refine JX.ret_pass ?_ | refine JX.ret_block ?_)
    exact JX.ret1is rfl rfl (by simp at ht13)
  ·
    try simp only [decide_eq_true_eq, decide_eq_false_iff_not] at ht13
    refine J.skip ?_
    repeat (first | refine JX.next ?_ | refine JX.normal_block ?_)
    repeat refine J.seq ?_
    refine J.plain ?_
    refine JO.t (ob_move rfl) rfl ?_
    refine JO.t (ob_call rfl (c_value_Put vs hr) (.one rfl .nil)) rfl ?_
    refine JO.t (ob_move rfl) rfl ?_
    refine JO.t (ob_extract0 rfl) rfl ?_
    refine JO.t (ob_extract1 rfl) rfl ?_
    refine JO.t (ob_assign rfl) rfl ?_
    refine JO.t (ob_assign rfl) rfl ?_
    refine JO.nil ?_
    repeat (first | refine JX.next ?_ | refine JX.normal_block ?_)
    refine J.sel [1, 5, 6] (.cons rfl (.cons rfl (.cons rfl .nil))) ?_
    repeat refine J.seq ?_
    refine J.plain ?_
    refine JO.t (ob_move rfl) rfl ?_
    refine JO.t (ob_neq rfl rfl) rfl ?_
    refine JO.nil ?_
    repeat (first | refine JX.next ?_ | refine JX.normal_block ?_)
    refine J.sel [1, 5, 20] (.cons rfl (.cons rfl (.cons rfl .nil))) ?_
    repeat refine J.seq ?_
    refine J.cond rfl (fun ht20 => ?_) (fun ht20 => ?_)
    ·
      try simp only [decide_eq_true_eq, decide_eq_false_iff_not] at ht20
      repeat refine J.seq ?_
      refine J.plain ?_
      refine JO.t (ob_assign rfl) rfl ?_
      refine JO.nil ?_
      repeat (first | refine JX.next ?_ | refine JX.normal_block ?_)
      refine J.sel [4] (.cons rfl .nil) ?_
      repeat refine J.seq ?_
      refine J.ret ?_
      repeat (first | refine JX.ret_pass ?_ | refine JX.ret_block ?_)
      exact JX.ret1is rfl rfl (by rfl)
    ·
      try simp only [decide_eq_true_eq, decide_eq_false_iff_not] at ht20
      refine J.skip ?_
      repeat (first | refine JX.next ?_ | refine JX.normal_block ?_)
      have hok : (putLs vs).2 = 0 := by simpa using ht20
      have hq := putLs_ok hok
      have hpl := put_len hok
      refine J.openSlC (s := 5) rfl (fun a n c q o hl ha hc => ?_)
      subst hl
      repeat refine J.seq ?_
      refine J.plain ?_
      refine JO.t (ob_assign rfl) rfl ?_
      refine JO.nil ?_
      repeat (first | refine JX.next ?_ | refine JX.normal_block ?_)
      refine J.sel [1, 5, 7] (.cons rfl (.cons rfl (.cons rfl .nil))) ?_
      repeat refine J.seq ?_
      refine J.block ?_
      repeat refine J.seq ?_
      refine J.loopF (α := Nat) (fun i => [(1, .is (.int .u8 ((mb.toNat : Nat) : Int))), (5, .is (.slice a (putLs vs).1.length c)), (7, .is (.int .i64 (i : Nat)))]) (fun i => i ≤ (putLs vs).1.length) (fun i => (putLs vs).1.length - i) 0 [1, 5, 7] (.cons rfl (.cons rfl (.cons rfl .nil))) (Nat.zero_le _) fun i hi => ?_
      repeat refine J.seq ?_
      refine J.plain ?_
      refine JO.t (ob_move rfl) rfl ?_
      refine JO.t (ob_move rfl) rfl ?_
      refine JO.t (ob_len un_sl_uint8 rfl) rfl ?_
      refine JO.t (ob_lss rfl rfl) rfl ?_
      refine JO.nil ?_
      repeat (first | refine JX.next ?_ | refine JX.normal_block ?_)
      refine J.sel [1, 5, 7, 24] (.cons rfl (.cons rfl (.cons rfl (.cons rfl .nil)))) ?_
      repeat refine J.seq ?_
      refine J.cond rfl (fun ht24 => ?_) (fun ht24 => ?_)
      ·
        try simp only [decide_eq_true_eq, decide_eq_false_iff_not] at ht24
        refine J.skip ?_
        repeat (first | refine JX.next ?_ | refine JX.normal_block ?_)
        repeat refine J.seq ?_
        refine J.block ?_
        refine J.fact (RowG bC 1 ((putLs vs).1.take i) a i) (fun E w hF _ => fun w1 hk => rowG_take (hF (RowG bC 1 (putLs vs).1 a (putLs vs).1.length) (by repeat (first | exact List.mem_cons_self | apply List.mem_cons_of_mem)) w1 hk) hi) ?_
        repeat refine J.seq ?_
        refine J.plain ?_
        refine JO.t (ob_move rfl) rfl ?_
        refine JO.t (ob_move rfl) rfl ?_
        refine JO.t (ob_sliceHi un_sl_uint8 el_sl_uint8 rfl rfl (by omega) (by omega)) rfl ?_
        refine JO.t (ob_call rfl (c_get_at (back_cut hok hr (i := i) (by omega))) (.sub rfl (Sub.slFactC (by repeat (first | exact List.mem_cons_self | apply List.mem_cons_of_mem)) (by omega)) .nil)) rfl ?_
        refine JO.t (ob_move rfl) rfl ?_
        refine JO.t (ob_extract0 rfl) rfl ?_
        refine JO.t (ob_extract1 rfl) rfl ?_
        refine JO.t (ob_assign rfl) rfl ?_
        refine JO.t (ob_assign rfl) rfl ?_
        refine JO.nil ?_
        repeat (first | refine JX.next ?_ | refine JX.normal_block ?_)
        refine J.sel [1, 5, 7, 8, 9] (.cons rfl (.cons rfl (.cons rfl (.cons rfl (.cons rfl .nil))))) ?_
        refine J.openSlC (s := 8) rfl (fun a8 n8 c8 q8 o8 hl8 ha8 hc8 => ?_)
        subst hl8
        repeat refine J.seq ?_
        refine J.reg0 hmx (by kernel_rfl) (by kernel_rfl) ?_
        refine RT.t (ob_move rfl) ?_
        refine RT.t (ob_neq rfl rfl) ?_
        refine RT.t (ob_move rfl) ?_
        refine RT.g rfl rfl rfl (fun hg => ob_move (.inl rfl)) ?_
        refine RT.g rfl rfl rfl (fun hg => ob_len un_sl_api_Value (.inr ⟨_, rfl, fun h => h⟩)) ?_
        refine RT.g rfl rfl rfl (fun hg => ob_neq (.inr ⟨_, rfl, fun h => h⟩) (.inl rfl)) ?_
        refine RT.t (ob_pickOr rfl rfl rfl id) ?_
        refine RT.nil ?_
        refine FinS.nil0 ?_
        repeat (first | refine JX.next ?_ | refine JX.normal_block ?_)
        refine J.sel [1, 5, 7, 40] (.cons rfl (.cons rfl (.cons rfl (.cons rfl .nil)))) ?_
        repeat refine J.seq ?_
        refine J.cond rfl (fun ht40 => ?_) (fun ht40 => ?_)
        ·
          try simp only [decide_eq_true_eq, decide_eq_false_iff_not] at ht40
          repeat refine J.seq ?_
          refine J.plain ?_
          refine JO.t (ob_assign rfl) rfl ?_
          refine JO.nil ?_
          repeat (first | refine JX.next ?_ | refine JX.normal_block ?_)
          refine J.sel [4] (.cons rfl .nil) ?_
          repeat refine J.seq ?_
          refine J.ret ?_
          repeat (first | refine JX.ret_pass ?_ | refine JX.ret_block ?_)
          exact JX.ret1is rfl rfl (by simp at ht40)
        ·
          try simp only [decide_eq_true_eq, decide_eq_false_iff_not] at ht40
          refine J.skip ?_
          repeat (first | refine JX.next ?_ | refine JX.normal_block ?_)
          repeat refine J.seq ?_
          refine J.plain ?_
          refine JO.t (ob_move rfl) rfl ?_
          refine JO.t (ob_addc (cc := ((i + 1 : Nat) : Int)) rfl rfl (by omega) (by omega) (by omega)) rfl ?_
          refine JO.t (ob_assign rfl) rfl ?_
          refine JO.nil ?_
          repeat refine JX.normal_block ?_
          refine JX.roundS (i + 1) ?_ ?_ [1, 5, 7] ?_ ?_ ?_
          · exact (by omega)
          · exact (by omega)
          · exact (.cons rfl (.cons rfl (.cons rfl .nil)))
          · repeat (first | exact .slnil | apply List.Sublist.cons_cons | apply List.Sublist.cons)
          · repeat (first | exact .slnil | apply List.Sublist.cons_cons | apply List.Sublist.cons)
      ·
        try simp only [decide_eq_true_eq, decide_eq_false_iff_not] at ht24
        repeat refine J.seq ?_
        refine J.exit ?_
        repeat (first | refine JX.hit ?_ | refine JX.miss rfl ?_ | refine JX.exit_pass ?_)
        repeat (first | refine JX.next ?_ | refine JX.normal_block ?_)
        repeat refine J.seq ?_
        refine J.plain ?_
        refine JO.buildOwn0 sl_sl_uint8 rfl (fun b42 => ?_)
        refine JO.t (ob_move rfl) rfl ?_
        refine JO.apS ((putLs vs).1) ap_sl_uint8 (by repeat (first | exact .here | apply Cx.past | apply Cx.there)) (xs := []) ⟨rfl, Nat.le_refl _, rfl⟩ rfl rfl (fun L => src_slF bC_len (by omega) bC_one un_sl_uint8 (by repeat (first | exact List.mem_cons_self | apply List.mem_cons_of_mem))) (by simp; omega) (by simp; omega) rfl (fun p1 cp1 hG1 => ?_)
        try dsimp only
        rw [List.nil_append] at hG1 ⊢
        refine JO.t (ob_move rfl) rfl ?_
        refine JO.t (ob_buildSlice (cs := [_]) sl_sl_uint8 (by omega) (by omega) (.cons rfl .nil) rfl rfl rfl) rfl ?_
        refine JO.apS ([mb]) ap_sl_uint8 (by repeat (first | exact .here | apply Cx.past | apply Cx.there)) hG1 rfl rfl (fun L => src_new un_sl_uint8 rfl rfl) (by simp; omega) (by simp; omega) rfl (fun p2 cp2 hG2 => ?_)
        try dsimp only
        obtain ⟨b2, cs2⟩ := p2
        obtain ⟨k1, k2, k3⟩ := hG2
        dsimp only [sliceO, ownO]
        refine JO.freeze (b := b2) (e := ty_uint8) (cs := cs2) (fun _ h => h) rfl rfl ?_
        refine JO.fact (RowG bC 1 ((putLs vs).1 ++ [mb]) (some ⟨b2, 0, none⟩) ((putLs vs).1 ++ [mb]).length) (fun E w hF _ => fun w1 hk => row_own bC_len rfl k3 (hF _ List.mem_cons_self w1 hk)) ?_
        refine JO.t (ob_call rfl (c_get_at (back_more hok hr mb)) (.sub rfl (Sub.slFactC (by repeat (first | exact List.mem_cons_self | apply List.mem_cons_of_mem)) k2) .nil)) rfl ?_
        refine JO.t (ob_move rfl) rfl ?_
        refine JO.t (ob_extract0 rfl) rfl ?_
        refine JO.t (ob_extract1 rfl) rfl ?_
        refine JO.t (ob_assign rfl) rfl ?_
        refine JO.t (ob_assign rfl) rfl ?_
        refine JO.nil ?_
        repeat (first | refine JX.next ?_ | refine JX.normal_block ?_)
        refine J.sel [11] (.cons rfl .nil) ?_
        repeat refine J.seq ?_
        refine J.plain ?_
        refine JO.t (ob_move rfl) rfl ?_
        refine JO.t (ob_eql rfl rfl) rfl ?_
        refine JO.t (ob_assign rfl) rfl ?_
        refine JO.nil ?_
        repeat (first | refine JX.next ?_ | refine JX.normal_block ?_)
        refine J.sel [4] (.cons rfl .nil) ?_
        repeat refine J.seq ?_
        refine J.ret ?_
        repeat (first | refine JX.ret_pass ?_ | refine JX.ret_block ?_)
        exact JX.ret1is rfl rfl (by rfl)
end Go.Proofs.YtlccnpmhmdoapaaDoor
