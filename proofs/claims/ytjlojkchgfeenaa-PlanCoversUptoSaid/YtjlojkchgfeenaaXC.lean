/- Contracts of the finder: what an expression comes to over a row. No condition. -/
import Derived.Test.YtjlojkchgfeenaaXB
import Derived.Test.YtjlojkchgfeenaaXG1
set_option maxRecDepth 20000
namespace Go.Proofs.Ytjlojkchgfeenaa
open Go Go.Vc
abbrev FV (ra : Option Addr) (rl rc : Nat) (e : Int) : Value := .agg #[.slice ra rl rc, .int .i64 e]
def failF (e e0 : Int) : Int := if e == 0 then e0 else e
def zero3 : V3 := ⟨0, 0, ⟨#[]⟩⟩
def truthF (b : Bool) : V3 := ⟨2, truthN b, ⟨#[]⟩⟩
def okV (v : V3) : Bool := okF v.k v.n v.s
def v3at (vals : List V3) (sl : Int) : V3 := vals.getD sl.toNat zero3
theorem v3at_get {vals : List V3} {sl : Int} (h0 : 0 ≤ sl) (h1 : sl < vals.length) : vals[sl.toNat]? = some (v3at vals sl) := by
  unfold v3at
  have h : sl.toNat < vals.length := by omega
  simp [h]
def leafF (vals : List V3) (k : Int) (v : V3) (sl e : Int) : V3 × Int :=
  if (k == 2) then (zero3, failF e 32)
  else if (k == 1 && okV v) then (v, e)
  else if (((k == 24 && decide (0 ≤ sl)) && decide (sl < vals.length)) && okV (v3at vals sl)) then (v3at vals sl, e)
  else (zero3, failF e 1)
def oneF (k : Int) (r : V3 × Int) : V3 × Int :=
  if (k == 18) then (truthF (r.1.k == 0), r.2)
  else if (k == 19) then (truthF (r.1.k != 0), r.2)
  else if (r.1.k == 0) then r
  else if (k == 4 && r.1.k == 2) then (truthF (r.1.n == 0), r.2)
  else if (k == 4 || r.1.k != 1) then (zero3, failF r.2 33)
  else if (r.1.n == -9223372036854775808) then (zero3, failF r.2 35)
  else (⟨1, IntKind.i64.wrap (0 - r.1.n), ⟨#[]⟩⟩, r.2)
theorem veq_api_Value : VEq Try.prog ty_api_Value ty_int ty_int64 ty_string := ⟨by kernel_rfl, by kernel_rfl, by kernel_rfl, by kernel_rfl, by kernel_rfl, by kernel_rfl, by kernel_rfl⟩
abbrev minI : Int := -9223372036854775808
def finF (n : Int) (ok : Bool) (e : Int) : V3 × Int := if !ok then (zero3, failF e 35) else (⟨1, n, ⟨#[]⟩⟩, e)
def numberF (k a b e : Int) : V3 × Int :=
  if (k == 5) then finF (IntKind.i64.wrap (a + b)) (decide (a < IntKind.i64.wrap (a + b)) == decide (0 < b)) e
  else if (k == 6) then finF (IntKind.i64.wrap (a - b)) (decide (IntKind.i64.wrap (a - b) < a) == decide (0 < b)) e
  else if (k == 7) then finF (IntKind.i64.wrap (a * b)) ((a == 0) || ((IntKind.i64.wrap ((IntKind.i64.wrap (a * b)).tdiv a) == b) && !((a == -1) && (b == minI)))) e
  else if (b == 0) then (zero3, failF e 36)
  else if (b == -1) then (if (k == 9) then finF 0 true e else finF (IntKind.i64.wrap (0 - a)) (a != minI) e)
  else if (k == 9) then finF (a.tmod b) true e else finF (IntKind.i64.wrap (a.tdiv b)) true e
def someF (v : V3) : Bool := (v.k != 0) && (v.k != 2)
def veqV (a b : V3) : Bool := veq a.k a.n a.s b.k b.n b.s
def logic2F (k : Int) (a : V3) (r : V3 × Int) : V3 × Int :=
  if ((r.2 == 0) && someF r.1) then (zero3, failF r.2 33) else if veqV r.1 (truthF (k == 17)) then r else if (a.k == 0) then (a, r.2) else r
def logicF (k : Int) (a : V3) (e : Int) (b : Int → V3 × Int) : V3 × Int :=
  if ((e == 0) && someF a) then (zero3, failF e 33) else if ((e != 0) || veqV a (truthF (k == 17))) then (a, e) else logic2F k a (b e)
def opsF (k c : Int) : Bool := [c == 0, c != 0, decide (c < 0), decide (c ≤ 0), decide (0 < c), decide (0 ≤ c)].getD (k - 10).toNat false
def two2F (k : Int) (a : V3) (r : V3 × Int) : V3 × Int :=
  if (r.2 != 0) then (zero3, r.2)
  else if decide (k ≤ 9) then (if (decide (1 < a.k) || decide (1 < r.1.k)) then (zero3, failF r.2 33) else if ((a.k == 0) || (r.1.k == 0)) then (zero3, r.2) else numberF k a.n r.1.n r.2)
  else if ((a.k == 0) || (r.1.k == 0)) then (zero3, r.2)
  else if (a.k != r.1.k) then (zero3, failF r.2 33)
  else (truthF (opsF k (vcmpF a.k a.n a.s r.1.k r.1.n r.1.s)), r.2)
def twoF (k : Int) (a : V3 × Int) (b : Int → V3 × Int) : V3 × Int := if decide (16 ≤ k) then logicF k a.1 a.2 b else two2F k a.1 (b a.2)
def findF (vals : List V3) : Ex → Int → V3 × Int
  | .mk k vk vn vs _ _ sl [], e => if ((0 : Int) != kidsF k) then (zero3, failF e 1) else leafF vals k ⟨vk, vn, vs⟩ sl e
  | .mk k _ _ _ _ _ _ [a], e => if ((1 : Int) != kidsF k) then (zero3, failF e 1) else oneF k (findF vals a e)
  | .mk k _ _ _ _ _ _ [a, b], e => if ((2 : Int) != kidsF k) then (zero3, failF e 1) else twoF k (findF vals a e) (findF vals b)
  | .mk _ _ _ _ _ _ _ _, e => (zero3, failF e 1)
def FindOK (x : Ex) : Prop := ∀ (vals : List V3) (ra : Option Addr) (rl rc : Nat) (e : Int), CallM Try.prog f_p_expr_finder_find ty_expr_finder (FV ra rl rc e) [RowR vals ra rl] [.rep (ExR x)] (FV ra rl rc (findF vals x e).2) (.is (vv (findF vals x e).1))
theorem c_p_expr_finder_fail (vals : List V3) (ra : Option Addr) (rl rc : Nat) (e : Int) (e0 : Int) : CallM Try.prog f_p_expr_finder_fail ty_expr_finder (FV ra rl rc e) [RowR vals ra rl] [.is (.int .i64 e0)] (FV ra rl rc (failF e e0)) (.is zeroV) :=
CallM.of (fn := Try.f58) Try.func58 (n := 15) rfl rfl rfl (fun _ _ => by kernel_rfl) fun E W b0 => by
  repeat refine J.seq ?_
  refine J.plain ?_
  refine JO.alloc zo_api_Value rfl fun b4 => ?_
  refine JO.nil ?_
  repeat (first | refine JX.next ?_ | refine JX.normal_block ?_)
  refine J.sel [0, 1, 4] (.cons rfl (.cons rfl (.cons rfl .nil))) ?_
  repeat refine J.seq ?_
  refine J.plain ?_
  refine JO.t (ob_move rfl) rfl ?_
  refine JO.t (ob_nilCheck rfl) rfl ?_
  refine JO.t (ob_fieldAddr fo_expr_finder_1 rfl) rfl ?_
  refine JO.t (ob_ld1 sz_api_Errno rfl rfl) rfl ?_
  refine JO.t (ob_eql rfl rfl) rfl ?_
  refine JO.nil ?_
  repeat (first | refine JX.next ?_ | refine JX.normal_block ?_)
  refine J.sel [0, 1, 4, 9] (.cons rfl (.cons rfl (.cons rfl (.cons rfl .nil)))) ?_
  repeat refine J.seq ?_
  refine J.cond rfl (fun ht9 => ?_) (fun ht9 => ?_)
  ·
    try simp only [decide_eq_true_eq, decide_eq_false_iff_not] at ht9
    repeat refine J.seq ?_
    refine J.plain ?_
    refine JO.t (ob_move rfl) rfl ?_
    refine JO.t (ob_move rfl) rfl ?_
    refine JO.t (ob_nilCheck rfl) rfl ?_
    refine JO.t (ob_fieldAddr fo_expr_finder_1 rfl) rfl ?_
    refine JO.m (obm_storeF (cs' := [_, _]) rfl rfl (by repeat (first | exact .here | apply Upd.there)) rfl rfl rfl rfl ss_api_Errno) (by rfl) ?_
    refine JO.nil ?_
    repeat (first | refine JX.next ?_ | refine JX.normal_block ?_)
    refine J.sel [4] (.cons rfl .nil) ?_
    repeat refine J.seq ?_
    refine J.plain ?_
    refine JO.t (ob_build (cs := [_, _, _]) sh_api_Value .nil rfl rfl) rfl ?_
    refine JO.m (obm_store rfl rfl (by repeat (first | exact .here | apply Upd.there)) (by first | exact cnt_is rfl rfl | exact cnt_ex) (by first | exact cnt_is rfl rfl | exact cnt_ex | exact cnt_aggO) ss_api_Value) (by rfl) ?_
    refine JO.nil ?_
    repeat (first | refine JX.next ?_ | refine JX.normal_block ?_)
    refine J.sel [4] (.cons rfl .nil) ?_
    repeat refine J.seq ?_
    refine J.ret ?_
    repeat (first | refine JX.ret_pass ?_ | refine JX.ret_block ?_)
    exact JX.retMCis rfl HasOwn.mem rfl sz_api_Value HasOwn.mem rfl (by first | (simp +decide only [failF, *, ↓reduceIte] <;> rfl) | (simp_all [failF]; done) | (simp only [failF, *, ↓reduceIte, Bool.false_eq_true]; done) | (simp_all [failF]; done) | (simp [failF, *]; done)) (by first | (simp +decide only [failF, *, ↓reduceIte] <;> rfl) | (simp_all [failF]; done) | (simp only [failF, *, ↓reduceIte, Bool.false_eq_true]; done) | (simp_all [failF]; done) | (simp [failF, *]; done))
  ·
    try simp only [decide_eq_true_eq, decide_eq_false_iff_not] at ht9
    refine J.skip ?_
    repeat (first | refine JX.next ?_ | refine JX.normal_block ?_)
    repeat refine J.seq ?_
    refine J.plain ?_
    refine JO.t (ob_build (cs := [_, _, _]) sh_api_Value .nil rfl rfl) rfl ?_
    refine JO.m (obm_store rfl rfl (by repeat (first | exact .here | apply Upd.there)) (by first | exact cnt_is rfl rfl | exact cnt_ex) (by first | exact cnt_is rfl rfl | exact cnt_ex | exact cnt_aggO) ss_api_Value) (by rfl) ?_
    refine JO.nil ?_
    repeat (first | refine JX.next ?_ | refine JX.normal_block ?_)
    refine J.sel [4] (.cons rfl .nil) ?_
    repeat refine J.seq ?_
    refine J.ret ?_
    repeat (first | refine JX.ret_pass ?_ | refine JX.ret_block ?_)
    exact JX.retMCis rfl HasOwn.mem rfl sz_api_Value HasOwn.mem rfl (by first | (simp +decide only [failF, *, ↓reduceIte] <;> rfl) | (simp_all [failF]; done) | (simp only [failF, *, ↓reduceIte, Bool.false_eq_true]; done) | (simp_all [failF]; done) | (simp [failF, *]; done)) (by first | (simp +decide only [failF, *, ↓reduceIte] <;> rfl) | (simp_all [failF]; done) | (simp only [failF, *, ↓reduceIte, Bool.false_eq_true]; done) | (simp_all [failF]; done) | (simp [failF, *]; done))
theorem c_p_expr_finder_leaf (vals : List V3) (ra : Option Addr) (rl rc : Nat) (e : Int) (k vk vn : Int) (vs tb nm : ByteArray) (sl : Int) (kids : List Ex) : CallM Try.prog f_p_expr_finder_leaf ty_expr_finder (FV ra rl rc e) [RowR vals ra rl] [.rep (ExR (.mk k vk vn vs tb nm sl kids))] (FV ra rl rc (leafF vals k ⟨vk, vn, vs⟩ sl e).2) (.is (vv (leafF vals k ⟨vk, vn, vs⟩ sl e).1)) :=
CallM.of (fn := Try.f59) Try.func59 (n := 62) rfl rfl rfl (fun _ _ => by kernel_rfl) fun E W b0 => by
  refine J.openEx (s := 1) rfl (fun a len cap b o hlen ha => ?_)
  refine J.rowKnow (vals := vals) (a := ra) (len := rl) (by simp) fun rb ro hrl hra => ?_
  subst hrl
  repeat refine J.seq ?_
  refine J.plain ?_
  refine JO.box rfl rfl fun b3 => ?_
  refine JO.alloc zo_api_Value rfl fun b4 => ?_
  refine JO.nil ?_
  repeat (first | refine JX.next ?_ | refine JX.normal_block ?_)
  refine J.sel [0, 3, 4] (.cons rfl (.cons rfl (.cons rfl .nil))) ?_
  repeat refine J.seq ?_
  refine J.block ?_
  repeat refine J.seq ?_
  refine J.plain ?_
  refine JO.t (ob_fieldAddr fo_api_Expr_0 rfl) rfl ?_
  refine JO.t (ob_ld1 sz_int rfl rfl) rfl ?_
  refine JO.t (ob_eql rfl rfl) rfl ?_
  refine JO.t (ob_assign rfl) rfl ?_
  refine JO.nil ?_
  repeat (first | refine JX.next ?_ | refine JX.normal_block ?_)
  refine J.sel [0, 3, 4, 5] (.cons rfl (.cons rfl (.cons rfl (.cons rfl .nil)))) ?_
  repeat refine J.seq ?_
  refine J.cond rfl (fun ht5 => ?_) (fun ht5 => ?_)
  ·
    try simp only [decide_eq_true_eq, decide_eq_false_iff_not] at ht5
    repeat refine J.seq ?_
    refine J.plain ?_
    refine JO.t (ob_move rfl) rfl ?_
    refine JO.md (obm_call rfl rfl (c_p_expr_finder_fail vals _ _ _ _ _) (by repeat (first | exact .here | apply Upd.there)) (by simp) (.one rfl .nil)) (by rfl) rfl ?_
    refine JO.m (obm_store rfl rfl (by repeat (first | exact .here | apply Upd.there)) (by first | exact cnt_is rfl rfl | exact cnt_ex) (by first | exact cnt_is rfl rfl | exact cnt_ex | exact cnt_aggO) ss_api_Value) (by rfl) ?_
    refine JO.nil ?_
    repeat (first | refine JX.next ?_ | refine JX.normal_block ?_)
    refine J.sel [4] (.cons rfl .nil) ?_
    repeat refine J.seq ?_
    refine J.ret ?_
    repeat (first | refine JX.ret_pass ?_ | refine JX.ret_block ?_)
    exact JX.retMCis rfl HasOwn.mem rfl sz_api_Value HasOwn.mem rfl (by first | (simp +decide only [leafF, *, ↓reduceIte] <;> rfl) | (simp_all [leafF]; done) | (simp only [leafF, okV, zero3, *, ↓reduceIte, Bool.false_eq_true]; done) | (simp_all [leafF, okV, zero3]; done) | (simp [leafF, okV, zero3, *]; done)) (by first | (simp +decide only [leafF, *, ↓reduceIte] <;> rfl) | (simp_all [leafF]; done) | (simp only [leafF, okV, zero3, *, ↓reduceIte, Bool.false_eq_true]; done) | (simp_all [leafF, okV, zero3]; done) | (simp [leafF, okV, zero3, *]; done))
  ·
    try simp only [decide_eq_true_eq, decide_eq_false_iff_not] at ht5
    repeat refine J.seq ?_
    refine J.reg0 hmx (by kernel_rfl) (by kernel_rfl) ?_
    refine RT.t (ob_fieldAddr fo_api_Expr_0 rfl) ?_
    refine RT.t (ob_ld1 sz_int rfl rfl) ?_
    refine RT.t (ob_eql rfl rfl) ?_
    refine RT.t (ob_move rfl) ?_
    refine RT.g rfl rfl rfl (fun hg => ob_fieldAddr fo_api_Expr_1 (.inl rfl)) ?_
    refine RT.g rfl rfl rfl (fun hg => ob_ldN (cs := [_, _, _]) sz_api_Value (.inr ⟨_, rfl, fun h => h⟩) rfl rfl) ?_
    refine RT.g rfl rfl rfl (fun hg => ob_call (.inl rfl) (c_value_Ok _ _ _) (.one (.inr ⟨_, rfl, fun h => h⟩) .nil)) ?_
    refine RT.t (ob_pickAnd rfl rfl rfl id) ?_
    refine RT.t (ob_assign rfl) ?_
    refine RT.nil ?_
    refine FinS.nil0 ?_
    repeat (first | refine JX.next ?_ | refine JX.normal_block ?_)
    refine J.sel [0, 3, 4, 11] (.cons rfl (.cons rfl (.cons rfl (.cons rfl .nil)))) ?_
    repeat refine J.seq ?_
    refine J.cond rfl (fun ht11 => ?_) (fun ht11 => ?_)
    ·
      try simp only [decide_eq_true_eq, decide_eq_false_iff_not] at ht11
      repeat refine J.seq ?_
      refine J.plain ?_
      refine JO.t (ob_fieldAddr fo_api_Expr_1 rfl) rfl ?_
      refine JO.t (ob_ldN (cs := [_, _, _]) sz_api_Value rfl rfl rfl) rfl ?_
      refine JO.m (obm_store rfl rfl (by repeat (first | exact .here | apply Upd.there)) (by first | exact cnt_is rfl rfl | exact cnt_ex) (by first | exact cnt_is rfl rfl | exact cnt_ex | exact cnt_aggO) ss_api_Value) (by rfl) ?_
      refine JO.nil ?_
      repeat (first | refine JX.next ?_ | refine JX.normal_block ?_)
      refine J.sel [4] (.cons rfl .nil) ?_
      repeat refine J.seq ?_
      refine J.ret ?_
      repeat (first | refine JX.ret_pass ?_ | refine JX.ret_block ?_)
      exact JX.retMCis rfl HasOwn.mem rfl sz_api_Value HasOwn.mem rfl (by first | (simp +decide only [leafF, *, ↓reduceIte] <;> rfl) | (simp_all [leafF]; done) | (simp only [leafF, okV, zero3, *, ↓reduceIte, Bool.false_eq_true]; done) | (simp_all [leafF, okV, zero3]; done) | (simp [leafF, okV, zero3, *]; done)) (by first | (simp +decide only [leafF, *, ↓reduceIte] <;> rfl) | (simp_all [leafF]; done) | (simp only [leafF, okV, zero3, *, ↓reduceIte, Bool.false_eq_true]; done) | (simp_all [leafF, okV, zero3]; done) | (simp [leafF, okV, zero3, *]; done))
    ·
      try simp only [decide_eq_true_eq, decide_eq_false_iff_not] at ht11
      repeat refine J.seq ?_
      refine J.reg0 hmx (by kernel_rfl) (by kernel_rfl) ?_
      refine RT.t (ob_fieldAddr fo_api_Expr_0 rfl) ?_
      refine RT.t (ob_ld1 sz_int rfl rfl) ?_
      refine RT.t (ob_eql rfl rfl) ?_
      refine RT.t (ob_move rfl) ?_
      refine RT.g rfl rfl rfl (fun hg => ob_fieldAddr fo_api_Expr_4 (.inl rfl)) ?_
      refine RT.g rfl rfl rfl (fun hg => ob_ld1 sz_int (.inr ⟨_, rfl, fun h => h⟩) rfl) ?_
      refine RT.g rfl rfl rfl (fun hg => ob_geq (.inr ⟨_, rfl, fun h => h⟩) (.inl rfl)) ?_
      refine RT.t (ob_pickAnd rfl rfl rfl id) ?_
      refine RT.t (ob_move rfl) ?_
      refine RT.g rfl rfl rfl (fun hg => ob_fieldAddr fo_api_Expr_4 (.inl rfl)) ?_
      refine RT.g rfl rfl rfl (fun hg => ob_ld1 sz_int (.inr ⟨_, rfl, fun h => h⟩) rfl) ?_
      refine RT.g rfl rfl rfl (fun hg => ob_move (.inl rfl)) ?_
      refine RT.g rfl rfl rfl (fun hg => ob_nilCheck (.inr ⟨_, rfl, fun h => h⟩)) ?_
      refine RT.g rfl rfl rfl (fun hg => ob_fieldAddr fo_expr_finder_0 (.inr ⟨_, rfl, fun h => h⟩)) ?_
      refine RT.g rfl rfl rfl (fun hg => ob_ld1 sz_sl_api_Value (.inr ⟨_, rfl, fun h => h⟩) rfl) ?_
      refine RT.g rfl rfl rfl (fun hg => ob_len un_sl_api_Value (.inr ⟨_, rfl, fun h => h⟩)) ?_
      refine RT.g rfl rfl rfl (fun hg => ob_lss (.inr ⟨_, rfl, fun h => h⟩) (.inr ⟨_, rfl, fun h => h⟩)) ?_
      refine RT.t (ob_pickAnd rfl rfl rfl id) ?_
      refine RT.t (ob_move rfl) ?_
      refine RT.g rfl rfl rfl (fun hg => ob_move (.inl rfl)) ?_
      refine RT.g rfl rfl rfl (fun hg => ob_nilCheck (.inr ⟨_, rfl, fun h => h⟩)) ?_
      refine RT.g rfl rfl rfl (fun hg => ob_fieldAddr fo_expr_finder_0 (.inr ⟨_, rfl, fun h => h⟩)) ?_
      refine RT.g rfl rfl rfl (fun hg => ob_ld1 sz_sl_api_Value (.inr ⟨_, rfl, fun h => h⟩) rfl) ?_
      refine RT.g rfl rfl rfl (fun hg => ob_fieldAddr fo_api_Expr_4 (.inl rfl)) ?_
      refine RT.g rfl rfl rfl (fun hg => ob_ld1 sz_int (.inr ⟨_, rfl, fun h => h⟩) rfl) ?_
      refine RT.g rfl rfl rfl (fun hg => ob_indexAddr el_sl_api_Value (.inr ⟨_, rfl, fun h => h⟩) (hra (by simp at hg; omega)) (.inr ⟨_, rfl, fun h => h⟩) (by simp at hg; omega) (by simp at hg; omega)) ?_
      refine RT.g rfl rfl rfl (fun hg => ob_loadVal (i := sl.toNat) (v := v3at vals sl) sz_api_Value (.inr ⟨_, rfl, fun h => h⟩) (List.mem_cons_of_mem _ (List.mem_cons_of_mem _ List.mem_cons_self)) (hra (by simp at hg; omega)) (v3at_get (by simp at hg; omega) (by simp at hg; omega)) (by omega)) ?_
      refine RT.g rfl rfl rfl (fun hg => ob_call (.inl rfl) (c_value_Ok _ _ _) (.one (.inr ⟨_, rfl, fun h => h⟩) .nil)) ?_
      refine RT.t (ob_pickAnd rfl rfl rfl id) ?_
      refine RT.t (ob_assign rfl) ?_
      refine RT.nil ?_
      refine FinS.nil0 ?_
      repeat (first | refine JX.next ?_ | refine JX.normal_block ?_)
      refine J.sel [0, 3, 4, 22] (.cons rfl (.cons rfl (.cons rfl (.cons rfl .nil)))) ?_
      repeat refine J.seq ?_
      refine J.cond rfl (fun ht22 => ?_) (fun ht22 => ?_)
      ·
        try simp only [decide_eq_true_eq, decide_eq_false_iff_not] at ht22
        repeat refine J.seq ?_
        refine J.front b4 (by repeat (first | exact .here | apply Front.there)) ?_
        refine J.reg1 hmx (by kernel_rfl) (by kernel_rfl) ?_
        refine RT.t (ob_move rfl) ?_
        refine RT.t (ob_nilCheck rfl) ?_
        refine RT.t (ob_fieldAddr fo_expr_finder_0 rfl) ?_
        refine RT.t (ob_ld1 sz_sl_api_Value rfl rfl) ?_
        refine RT.t (ob_fieldAddr fo_api_Expr_4 rfl) ?_
        refine RT.t (ob_ld1 sz_int rfl rfl) ?_
        refine RT.t (ob_indexAddr el_sl_api_Value rfl (hra (by simp at ht22; omega)) rfl (by simp at ht22; omega) (by simp at ht22; omega)) ?_
        refine RT.t (ob_loadVal (i := sl.toNat) (v := v3at vals sl) sz_api_Value rfl (List.mem_cons_of_mem _ (List.mem_cons_of_mem _ List.mem_cons_self)) (hra (by simp at ht22; omega)) (v3at_get (by simp at ht22; omega) (by simp at ht22; omega)) (by omega)) ?_
        refine RT.m rfl (obm_store rfl rfl (by repeat (first | exact .here | apply Upd.there)) (by first | exact cnt_is rfl rfl | exact cnt_ex) (by first | exact cnt_is rfl rfl | exact cnt_ex | exact cnt_aggO) ss_api_Value) (by rfl) ?_
        refine RT.nil ?_
        refine FinS.nil1 ?_
        repeat (first | refine JX.next ?_ | refine JX.normal_block ?_)
        refine J.sel [4] (.cons rfl .nil) ?_
        repeat refine J.seq ?_
        refine J.ret ?_
        repeat (first | refine JX.ret_pass ?_ | refine JX.ret_block ?_)
        exact JX.retMCis rfl HasOwn.mem rfl sz_api_Value HasOwn.mem rfl (by first | (simp +decide only [leafF, *, ↓reduceIte] <;> rfl) | (simp_all [leafF]; done) | (simp only [leafF, okV, zero3, *, ↓reduceIte, Bool.false_eq_true]; done) | (simp_all [leafF, okV, zero3]; done) | (simp [leafF, okV, zero3, *]; done)) (by first | (simp +decide only [leafF, *, ↓reduceIte] <;> rfl) | (simp_all [leafF]; done) | (simp only [leafF, okV, zero3, *, ↓reduceIte, Bool.false_eq_true]; done) | (simp_all [leafF, okV, zero3]; done) | (simp [leafF, okV, zero3, *]; done))
      ·
        try simp only [decide_eq_true_eq, decide_eq_false_iff_not] at ht22
        refine J.skip ?_
        repeat (first | refine JX.next ?_ | refine JX.normal_block ?_)
        repeat refine J.seq ?_
        refine J.plain ?_
        refine JO.t (ob_move rfl) rfl ?_
        refine JO.md (obm_call rfl rfl (c_p_expr_finder_fail vals _ _ _ _ _) (by repeat (first | exact .here | apply Upd.there)) (by simp) (.one rfl .nil)) (by rfl) rfl ?_
        refine JO.m (obm_store rfl rfl (by repeat (first | exact .here | apply Upd.there)) (by first | exact cnt_is rfl rfl | exact cnt_ex) (by first | exact cnt_is rfl rfl | exact cnt_ex | exact cnt_aggO) ss_api_Value) (by rfl) ?_
        refine JO.nil ?_
        repeat (first | refine JX.next ?_ | refine JX.normal_block ?_)
        refine J.sel [4] (.cons rfl .nil) ?_
        repeat refine J.seq ?_
        refine J.ret ?_
        repeat (first | refine JX.ret_pass ?_ | refine JX.ret_block ?_)
        exact JX.retMCis rfl HasOwn.mem rfl sz_api_Value HasOwn.mem rfl (by first | (simp +decide only [leafF, *, ↓reduceIte] <;> rfl) | (simp_all [leafF]; done) | (simp only [leafF, okV, zero3, *, ↓reduceIte, Bool.false_eq_true]; done) | (simp_all [leafF, okV, zero3]; done) | (simp [leafF, okV, zero3, *]; done)) (by first | (simp +decide only [leafF, *, ↓reduceIte] <;> rfl) | (simp_all [leafF]; done) | (simp only [leafF, okV, zero3, *, ↓reduceIte, Bool.false_eq_true]; done) | (simp_all [leafF, okV, zero3]; done) | (simp [leafF, okV, zero3, *]; done))
theorem c_p_expr_finder_number (vals : List V3) (ra : Option Addr) (rl rc : Nat) (e : Int) (k a b : Int) : CallM Try.prog f_p_expr_finder_number ty_expr_finder (FV ra rl rc e) [RowR vals ra rl] [.is (.int .i64 k), .is (.int .i64 a), .is (.int .i64 b)] (FV ra rl rc (numberF k a b e).2) (.is (vv (numberF k a b e).1)) :=
CallM.of (fn := Try.f76) Try.func76 (n := 83) rfl rfl rfl (fun _ _ => by kernel_rfl) fun E W b0 => by
  repeat refine J.seq ?_
  refine J.plain ?_
  refine JO.alloc zo_api_Value rfl fun b8 => ?_
  refine JO.nil ?_
  repeat (first | refine JX.next ?_ | refine JX.normal_block ?_)
  refine J.sel [0, 1, 2, 3, 8] (.cons rfl (.cons rfl (.cons rfl (.cons rfl (.cons rfl .nil))))) ?_
  repeat refine J.seq ?_
  refine J.plain ?_
  refine JO.t (ob_assign rfl) rfl ?_
  refine JO.t (ob_assign rfl) rfl ?_
  refine JO.nil ?_
  repeat (first | refine JX.next ?_ | refine JX.normal_block ?_)
  refine J.sel [0, 1, 2, 3, 8, 10] (.cons rfl (.cons rfl (.cons rfl (.cons rfl (.cons rfl (.cons rfl .nil)))))) ?_
  repeat refine J.seq ?_
  refine J.plain ?_
  refine JO.t (ob_move rfl) rfl ?_
  refine JO.nil ?_
  repeat (first | refine JX.next ?_ | refine JX.normal_block ?_)
  refine J.sel [0, 1, 2, 3, 8, 10, 11] (.cons rfl (.cons rfl (.cons rfl (.cons rfl (.cons rfl (.cons rfl (.cons rfl .nil))))))) ?_
  repeat refine J.seq ?_
  refine J.block ?_
  repeat refine J.seq ?_
  refine J.plain ?_
  refine JO.t (ob_eql rfl rfl) rfl ?_
  refine JO.t (ob_assign rfl) rfl ?_
  refine JO.nil ?_
  repeat (first | refine JX.next ?_ | refine JX.normal_block ?_)
  refine J.sel [0, 1, 2, 3, 8, 10, 11, 32] (.cons rfl (.cons rfl (.cons rfl (.cons rfl (.cons rfl (.cons rfl (.cons rfl (.cons rfl .nil)))))))) ?_
  repeat refine J.seq ?_
  refine J.cond rfl (fun ht32 => ?_) (fun ht32 => ?_)
  ·
    try simp only [decide_eq_true_eq, decide_eq_false_iff_not] at ht32
    repeat refine J.seq ?_
    refine J.plain ?_
    refine JO.t (ob_move rfl) rfl ?_
    refine JO.t (ob_move rfl) rfl ?_
    refine JO.t (ob_add rfl rfl) rfl ?_
    refine JO.t (ob_assign rfl) rfl ?_
    refine JO.nil ?_
    repeat (first | refine JX.next ?_ | refine JX.normal_block ?_)
    refine J.sel [0, 2, 3, 8, 9] (.cons rfl (.cons rfl (.cons rfl (.cons rfl (.cons rfl .nil))))) ?_
    repeat refine J.seq ?_
    refine J.plain ?_
    refine JO.t (ob_move rfl) rfl ?_
    refine JO.t (ob_move rfl) rfl ?_
    refine JO.t (ob_gtr rfl rfl) rfl ?_
    refine JO.t (ob_move rfl) rfl ?_
    refine JO.t (ob_gtr rfl rfl) rfl ?_
    refine JO.t (ob_beql un_bool rfl rfl) rfl ?_
    refine JO.t (ob_assign rfl) rfl ?_
    refine JO.nil ?_
    repeat (first | refine JX.next ?_ | refine JX.normal_block ?_)
    refine J.sel [0, 8, 9, 10] (.cons rfl (.cons rfl (.cons rfl (.cons rfl .nil)))) ?_
    repeat refine J.seq ?_
    refine J.plain ?_
    refine JO.t (ob_move rfl) rfl ?_
    refine JO.t (ob_not rfl) rfl ?_
    refine JO.nil ?_
    repeat (first | refine JX.next ?_ | refine JX.normal_block ?_)
    refine J.sel [0, 8, 9, 78] (.cons rfl (.cons rfl (.cons rfl (.cons rfl .nil)))) ?_
    repeat refine J.seq ?_
    refine J.cond rfl (fun ht78 => ?_) (fun ht78 => ?_)
    ·
      try simp only [decide_eq_true_eq, decide_eq_false_iff_not] at ht78
      repeat refine J.seq ?_
      refine J.plain ?_
      refine JO.t (ob_move rfl) rfl ?_
      refine JO.md (obm_call rfl rfl (c_p_expr_finder_fail vals _ _ _ _ _) (by repeat (first | exact .here | apply Upd.there)) (by simp) (.one rfl .nil)) (by rfl) rfl ?_
      refine JO.m (obm_store rfl rfl (by repeat (first | exact .here | apply Upd.there)) (by first | exact cnt_is rfl rfl | exact cnt_ex) (by first | exact cnt_is rfl rfl | exact cnt_ex | exact cnt_aggO) ss_api_Value) (by rfl) ?_
      refine JO.nil ?_
      repeat (first | refine JX.next ?_ | refine JX.normal_block ?_)
      refine J.sel [8] (.cons rfl .nil) ?_
      repeat refine J.seq ?_
      refine J.ret ?_
      repeat (first | refine JX.ret_pass ?_ | refine JX.ret_block ?_)
      exact JX.retMCis rfl HasOwn.mem rfl sz_api_Value HasOwn.mem rfl (by first | (simp +decide only [numberF, *, ↓reduceIte] <;> rfl) | (simp_all [numberF]; done) | (simp only [numberF, finF, zero3, *, ↓reduceIte, Bool.false_eq_true]; done) | (simp_all [numberF, finF, zero3]; done) | (simp [numberF, finF, zero3, *]; done)) (by first | (simp +decide only [numberF, *, ↓reduceIte] <;> rfl) | (simp_all [numberF]; done) | (simp only [numberF, finF, zero3, *, ↓reduceIte, Bool.false_eq_true]; done) | (simp_all [numberF, finF, zero3]; done) | (simp [numberF, finF, zero3, *]; done))
    ·
      try simp only [decide_eq_true_eq, decide_eq_false_iff_not] at ht78
      refine J.skip ?_
      repeat (first | refine JX.next ?_ | refine JX.normal_block ?_)
      repeat refine J.seq ?_
      refine J.plain ?_
      refine JO.t (ob_move rfl) rfl ?_
      refine JO.t (ob_build (cs := [_, _, _]) sh_api_Value (.cons rfl (.cons rfl .nil)) rfl rfl) rfl ?_
      refine JO.m (obm_store rfl rfl (by repeat (first | exact .here | apply Upd.there)) (by first | exact cnt_is rfl rfl | exact cnt_ex) (by first | exact cnt_is rfl rfl | exact cnt_ex | exact cnt_aggO) ss_api_Value) (by rfl) ?_
      refine JO.nil ?_
      repeat (first | refine JX.next ?_ | refine JX.normal_block ?_)
      refine J.sel [8] (.cons rfl .nil) ?_
      repeat refine J.seq ?_
      refine J.ret ?_
      repeat (first | refine JX.ret_pass ?_ | refine JX.ret_block ?_)
      exact JX.retMCis rfl HasOwn.mem rfl sz_api_Value HasOwn.mem rfl (by first | (simp +decide only [numberF, *, ↓reduceIte] <;> rfl) | (simp_all [numberF]; done) | (simp only [numberF, finF, zero3, *, ↓reduceIte, Bool.false_eq_true]; done) | (simp_all [numberF, finF, zero3]; done) | (simp [numberF, finF, zero3, *]; done)) (by first | (simp +decide only [numberF, *, ↓reduceIte] <;> rfl) | (simp_all [numberF]; done) | (simp only [numberF, finF, zero3, *, ↓reduceIte, Bool.false_eq_true]; done) | (simp_all [numberF, finF, zero3]; done) | (simp [numberF, finF, zero3, *]; done))
  ·
    try simp only [decide_eq_true_eq, decide_eq_false_iff_not] at ht32
    repeat refine J.seq ?_
    refine J.plain ?_
    refine JO.t (ob_eql rfl rfl) rfl ?_
    refine JO.t (ob_assign rfl) rfl ?_
    refine JO.nil ?_
    repeat (first | refine JX.next ?_ | refine JX.normal_block ?_)
    refine J.sel [0, 1, 2, 3, 8, 10, 11, 43] (.cons rfl (.cons rfl (.cons rfl (.cons rfl (.cons rfl (.cons rfl (.cons rfl (.cons rfl .nil)))))))) ?_
    repeat refine J.seq ?_
    refine J.cond rfl (fun ht43 => ?_) (fun ht43 => ?_)
    ·
      try simp only [decide_eq_true_eq, decide_eq_false_iff_not] at ht43
      repeat refine J.seq ?_
      refine J.plain ?_
      refine JO.t (ob_move rfl) rfl ?_
      refine JO.t (ob_move rfl) rfl ?_
      refine JO.t (ob_sub rfl rfl) rfl ?_
      refine JO.t (ob_assign rfl) rfl ?_
      refine JO.nil ?_
      repeat (first | refine JX.next ?_ | refine JX.normal_block ?_)
      refine J.sel [0, 2, 3, 8, 9] (.cons rfl (.cons rfl (.cons rfl (.cons rfl (.cons rfl .nil))))) ?_
      repeat refine J.seq ?_
      refine J.plain ?_
      refine JO.t (ob_move rfl) rfl ?_
      refine JO.t (ob_move rfl) rfl ?_
      refine JO.t (ob_lss rfl rfl) rfl ?_
      refine JO.t (ob_move rfl) rfl ?_
      refine JO.t (ob_gtr rfl rfl) rfl ?_
      refine JO.t (ob_beql un_bool rfl rfl) rfl ?_
      refine JO.t (ob_assign rfl) rfl ?_
      refine JO.nil ?_
      repeat (first | refine JX.next ?_ | refine JX.normal_block ?_)
      refine J.sel [0, 8, 9, 10] (.cons rfl (.cons rfl (.cons rfl (.cons rfl .nil)))) ?_
      repeat refine J.seq ?_
      refine J.plain ?_
      refine JO.t (ob_move rfl) rfl ?_
      refine JO.t (ob_not rfl) rfl ?_
      refine JO.nil ?_
      repeat (first | refine JX.next ?_ | refine JX.normal_block ?_)
      refine J.sel [0, 8, 9, 78] (.cons rfl (.cons rfl (.cons rfl (.cons rfl .nil)))) ?_
      repeat refine J.seq ?_
      refine J.cond rfl (fun ht78 => ?_) (fun ht78 => ?_)
      ·
        try simp only [decide_eq_true_eq, decide_eq_false_iff_not] at ht78
        repeat refine J.seq ?_
        refine J.plain ?_
        refine JO.t (ob_move rfl) rfl ?_
        refine JO.md (obm_call rfl rfl (c_p_expr_finder_fail vals _ _ _ _ _) (by repeat (first | exact .here | apply Upd.there)) (by simp) (.one rfl .nil)) (by rfl) rfl ?_
        refine JO.m (obm_store rfl rfl (by repeat (first | exact .here | apply Upd.there)) (by first | exact cnt_is rfl rfl | exact cnt_ex) (by first | exact cnt_is rfl rfl | exact cnt_ex | exact cnt_aggO) ss_api_Value) (by rfl) ?_
        refine JO.nil ?_
        repeat (first | refine JX.next ?_ | refine JX.normal_block ?_)
        refine J.sel [8] (.cons rfl .nil) ?_
        repeat refine J.seq ?_
        refine J.ret ?_
        repeat (first | refine JX.ret_pass ?_ | refine JX.ret_block ?_)
        exact JX.retMCis rfl HasOwn.mem rfl sz_api_Value HasOwn.mem rfl (by first | (simp +decide only [numberF, *, ↓reduceIte] <;> rfl) | (simp_all [numberF]; done) | (simp only [numberF, finF, zero3, *, ↓reduceIte, Bool.false_eq_true]; done) | (simp_all [numberF, finF, zero3]; done) | (simp [numberF, finF, zero3, *]; done)) (by first | (simp +decide only [numberF, *, ↓reduceIte] <;> rfl) | (simp_all [numberF]; done) | (simp only [numberF, finF, zero3, *, ↓reduceIte, Bool.false_eq_true]; done) | (simp_all [numberF, finF, zero3]; done) | (simp [numberF, finF, zero3, *]; done))
      ·
        try simp only [decide_eq_true_eq, decide_eq_false_iff_not] at ht78
        refine J.skip ?_
        repeat (first | refine JX.next ?_ | refine JX.normal_block ?_)
        repeat refine J.seq ?_
        refine J.plain ?_
        refine JO.t (ob_move rfl) rfl ?_
        refine JO.t (ob_build (cs := [_, _, _]) sh_api_Value (.cons rfl (.cons rfl .nil)) rfl rfl) rfl ?_
        refine JO.m (obm_store rfl rfl (by repeat (first | exact .here | apply Upd.there)) (by first | exact cnt_is rfl rfl | exact cnt_ex) (by first | exact cnt_is rfl rfl | exact cnt_ex | exact cnt_aggO) ss_api_Value) (by rfl) ?_
        refine JO.nil ?_
        repeat (first | refine JX.next ?_ | refine JX.normal_block ?_)
        refine J.sel [8] (.cons rfl .nil) ?_
        repeat refine J.seq ?_
        refine J.ret ?_
        repeat (first | refine JX.ret_pass ?_ | refine JX.ret_block ?_)
        exact JX.retMCis rfl HasOwn.mem rfl sz_api_Value HasOwn.mem rfl (by first | (simp +decide only [numberF, *, ↓reduceIte] <;> rfl) | (simp_all [numberF]; done) | (simp only [numberF, finF, zero3, *, ↓reduceIte, Bool.false_eq_true]; done) | (simp_all [numberF, finF, zero3]; done) | (simp [numberF, finF, zero3, *]; done)) (by first | (simp +decide only [numberF, *, ↓reduceIte] <;> rfl) | (simp_all [numberF]; done) | (simp only [numberF, finF, zero3, *, ↓reduceIte, Bool.false_eq_true]; done) | (simp_all [numberF, finF, zero3]; done) | (simp [numberF, finF, zero3, *]; done))
    ·
      try simp only [decide_eq_true_eq, decide_eq_false_iff_not] at ht43
      repeat refine J.seq ?_
      refine J.plain ?_
      refine JO.t (ob_eql rfl rfl) rfl ?_
      refine JO.t (ob_assign rfl) rfl ?_
      refine JO.nil ?_
      repeat (first | refine JX.next ?_ | refine JX.normal_block ?_)
      refine J.sel [0, 1, 2, 3, 8, 10, 54] (.cons rfl (.cons rfl (.cons rfl (.cons rfl (.cons rfl (.cons rfl (.cons rfl .nil))))))) ?_
      repeat refine J.seq ?_
      refine J.cond rfl (fun ht54 => ?_) (fun ht54 => ?_)
      ·
        try simp only [decide_eq_true_eq, decide_eq_false_iff_not] at ht54
        repeat refine J.seq ?_
        refine J.plain ?_
        refine JO.t (ob_move rfl) rfl ?_
        refine JO.t (ob_move rfl) rfl ?_
        refine JO.t (ob_mul rfl rfl) rfl ?_
        refine JO.t (ob_assign rfl) rfl ?_
        refine JO.nil ?_
        repeat (first | refine JX.next ?_ | refine JX.normal_block ?_)
        refine J.sel [0, 2, 3, 8, 9] (.cons rfl (.cons rfl (.cons rfl (.cons rfl (.cons rfl .nil))))) ?_
        repeat refine J.seq ?_
        refine J.reg0 hmx (by kernel_rfl) (by kernel_rfl) ?_
        refine RT.t (ob_move rfl) ?_
        refine RT.t (ob_eql rfl rfl) ?_
        refine RT.t (ob_move rfl) ?_
        refine RT.g rfl rfl rfl (fun hg => ob_move (.inl rfl)) ?_
        refine RT.g rfl rfl rfl (fun hg => ob_move (.inl rfl)) ?_
        refine RT.g rfl rfl rfl (fun hg => ob_quo (.inr ⟨_, rfl, fun h => h⟩) (.inr ⟨_, rfl, fun h => h⟩) (by first | decide | (simp at hg; omega) | simp_all)) ?_
        refine RT.g rfl rfl rfl (fun hg => ob_move (.inl rfl)) ?_
        refine RT.g rfl rfl rfl (fun hg => ob_eql (.inr ⟨_, rfl, fun h => h⟩) (.inr ⟨_, rfl, fun h => h⟩)) ?_
        refine RT.g rfl rfl rfl (fun hg => ob_move (.inr ⟨_, rfl, fun h => h⟩)) ?_
        refine RT.gg rfl rfl rfl (fun hg => (ob_move (.inl rfl))) ?_
        refine RT.gg rfl rfl rfl (fun hg => (ob_eql (.inr ⟨_, rfl, fun h => h⟩) (.inl rfl))) ?_
        refine RT.gg rfl rfl rfl (fun hg => (ob_move (.inr ⟨_, rfl, fun h => h⟩))) ?_
        refine RT.gg rfl rfl rfl (fun hg => (ob_move (.inl rfl))) ?_
        refine RT.gg rfl rfl rfl (fun hg => (ob_eql (.inr ⟨_, rfl, fun h => h⟩) (.inl rfl))) ?_
        refine RT.gg rfl rfl rfl (fun hg => (ob_pickAnd (.inr ⟨_, rfl, fun h => h⟩) (.inl rfl) (.inl rfl) (fun h => ⟨hg, h⟩))) ?_
        refine RT.gg rfl rfl rfl (fun hg => (ob_not (.inr ⟨_, rfl, fun h => h⟩))) ?_
        refine RT.g rfl rfl rfl (fun hg => ob_pickAnd (.inr ⟨_, rfl, fun h => h⟩) (.inl rfl) (.inl rfl) (fun h => ⟨hg, h⟩)) ?_
        refine RT.t (ob_pickOr rfl rfl rfl id) ?_
        refine RT.t (ob_assign rfl) ?_
        refine RT.nil ?_
        refine FinS.nil0 ?_
        repeat (first | refine JX.next ?_ | refine JX.normal_block ?_)
        refine J.sel [0, 8, 9, 10] (.cons rfl (.cons rfl (.cons rfl (.cons rfl .nil)))) ?_
        repeat refine J.seq ?_
        refine J.plain ?_
        refine JO.t (ob_move rfl) rfl ?_
        refine JO.t (ob_not rfl) rfl ?_
        refine JO.nil ?_
        repeat (first | refine JX.next ?_ | refine JX.normal_block ?_)
        refine J.sel [0, 8, 9, 78] (.cons rfl (.cons rfl (.cons rfl (.cons rfl .nil)))) ?_
        repeat refine J.seq ?_
        refine J.cond rfl (fun ht78 => ?_) (fun ht78 => ?_)
        ·
          try simp only [decide_eq_true_eq, decide_eq_false_iff_not] at ht78
          repeat refine J.seq ?_
          refine J.plain ?_
          refine JO.t (ob_move rfl) rfl ?_
          refine JO.md (obm_call rfl rfl (c_p_expr_finder_fail vals _ _ _ _ _) (by repeat (first | exact .here | apply Upd.there)) (by simp) (.one rfl .nil)) (by rfl) rfl ?_
          refine JO.m (obm_store rfl rfl (by repeat (first | exact .here | apply Upd.there)) (by first | exact cnt_is rfl rfl | exact cnt_ex) (by first | exact cnt_is rfl rfl | exact cnt_ex | exact cnt_aggO) ss_api_Value) (by rfl) ?_
          refine JO.nil ?_
          repeat (first | refine JX.next ?_ | refine JX.normal_block ?_)
          refine J.sel [8] (.cons rfl .nil) ?_
          repeat refine J.seq ?_
          refine J.ret ?_
          repeat (first | refine JX.ret_pass ?_ | refine JX.ret_block ?_)
          exact JX.retMCis rfl HasOwn.mem rfl sz_api_Value HasOwn.mem rfl (by first | (simp +decide only [numberF, *, ↓reduceIte] <;> rfl) | (simp_all [numberF]; done) | (simp only [numberF, finF, zero3, *, ↓reduceIte, Bool.false_eq_true]; done) | (simp_all [numberF, finF, zero3]; done) | (simp [numberF, finF, zero3, *]; done)) (by first | (simp +decide only [numberF, *, ↓reduceIte] <;> rfl) | (simp_all [numberF]; done) | (simp only [numberF, finF, zero3, *, ↓reduceIte, Bool.false_eq_true]; done) | (simp_all [numberF, finF, zero3]; done) | (simp [numberF, finF, zero3, *]; done))
        ·
          try simp only [decide_eq_true_eq, decide_eq_false_iff_not] at ht78
          refine J.skip ?_
          repeat (first | refine JX.next ?_ | refine JX.normal_block ?_)
          repeat refine J.seq ?_
          refine J.plain ?_
          refine JO.t (ob_move rfl) rfl ?_
          refine JO.t (ob_build (cs := [_, _, _]) sh_api_Value (.cons rfl (.cons rfl .nil)) rfl rfl) rfl ?_
          refine JO.m (obm_store rfl rfl (by repeat (first | exact .here | apply Upd.there)) (by first | exact cnt_is rfl rfl | exact cnt_ex) (by first | exact cnt_is rfl rfl | exact cnt_ex | exact cnt_aggO) ss_api_Value) (by rfl) ?_
          refine JO.nil ?_
          repeat (first | refine JX.next ?_ | refine JX.normal_block ?_)
          refine J.sel [8] (.cons rfl .nil) ?_
          repeat refine J.seq ?_
          refine J.ret ?_
          repeat (first | refine JX.ret_pass ?_ | refine JX.ret_block ?_)
          exact JX.retMCis rfl HasOwn.mem rfl sz_api_Value HasOwn.mem rfl (by first | (simp +decide only [numberF, *, ↓reduceIte] <;> rfl) | (simp_all [numberF]; done) | (simp only [numberF, finF, zero3, *, ↓reduceIte, Bool.false_eq_true]; done) | (simp_all [numberF, finF, zero3]; done) | (simp [numberF, finF, zero3, *]; done)) (by first | (simp +decide only [numberF, *, ↓reduceIte] <;> rfl) | (simp_all [numberF]; done) | (simp only [numberF, finF, zero3, *, ↓reduceIte, Bool.false_eq_true]; done) | (simp_all [numberF, finF, zero3]; done) | (simp [numberF, finF, zero3, *]; done))
      ·
        try simp only [decide_eq_true_eq, decide_eq_false_iff_not] at ht54
        repeat refine J.seq ?_
        refine J.plain ?_
        refine JO.t (ob_move rfl) rfl ?_
        refine JO.t (ob_eql rfl rfl) rfl ?_
        refine JO.nil ?_
        repeat (first | refine JX.next ?_ | refine JX.normal_block ?_)
        refine J.sel [0, 1, 2, 3, 8, 10, 13] (.cons rfl (.cons rfl (.cons rfl (.cons rfl (.cons rfl (.cons rfl (.cons rfl .nil))))))) ?_
        repeat refine J.seq ?_
        refine J.cond rfl (fun ht13 => ?_) (fun ht13 => ?_)
        ·
          try simp only [decide_eq_true_eq, decide_eq_false_iff_not] at ht13
          repeat refine J.seq ?_
          refine J.plain ?_
          refine JO.t (ob_move rfl) rfl ?_
          refine JO.md (obm_call rfl rfl (c_p_expr_finder_fail vals _ _ _ _ _) (by repeat (first | exact .here | apply Upd.there)) (by simp) (.one rfl .nil)) (by rfl) rfl ?_
          refine JO.m (obm_store rfl rfl (by repeat (first | exact .here | apply Upd.there)) (by first | exact cnt_is rfl rfl | exact cnt_ex) (by first | exact cnt_is rfl rfl | exact cnt_ex | exact cnt_aggO) ss_api_Value) (by rfl) ?_
          refine JO.nil ?_
          repeat (first | refine JX.next ?_ | refine JX.normal_block ?_)
          refine J.sel [8] (.cons rfl .nil) ?_
          repeat refine J.seq ?_
          refine J.ret ?_
          repeat (first | refine JX.ret_pass ?_ | refine JX.ret_block ?_)
          exact JX.retMCis rfl HasOwn.mem rfl sz_api_Value HasOwn.mem rfl (by first | (simp +decide only [numberF, *, ↓reduceIte] <;> rfl) | (simp_all [numberF]; done) | (simp only [numberF, finF, zero3, *, ↓reduceIte, Bool.false_eq_true]; done) | (simp_all [numberF, finF, zero3]; done) | (simp [numberF, finF, zero3, *]; done)) (by first | (simp +decide only [numberF, *, ↓reduceIte] <;> rfl) | (simp_all [numberF]; done) | (simp only [numberF, finF, zero3, *, ↓reduceIte, Bool.false_eq_true]; done) | (simp_all [numberF, finF, zero3]; done) | (simp [numberF, finF, zero3, *]; done))
        ·
          try simp only [decide_eq_true_eq, decide_eq_false_iff_not] at ht13
          refine J.skip ?_
          repeat (first | refine JX.next ?_ | refine JX.normal_block ?_)
          repeat refine J.seq ?_
          refine J.plain ?_
          refine JO.t (ob_move rfl) rfl ?_
          refine JO.t (ob_eql rfl rfl) rfl ?_
          refine JO.nil ?_
          repeat (first | refine JX.next ?_ | refine JX.normal_block ?_)
          refine J.sel [0, 1, 2, 3, 8, 10, 17] (.cons rfl (.cons rfl (.cons rfl (.cons rfl (.cons rfl (.cons rfl (.cons rfl .nil))))))) ?_
          repeat refine J.seq ?_
          refine J.cond rfl (fun ht17 => ?_) (fun ht17 => ?_)
          ·
            try simp only [decide_eq_true_eq, decide_eq_false_iff_not] at ht17
            repeat refine J.seq ?_
            refine J.plain ?_
            refine JO.t (ob_move rfl) rfl ?_
            refine JO.t (ob_neg rfl) rfl ?_
            refine JO.t (ob_move rfl) rfl ?_
            refine JO.t (ob_neq rfl rfl) rfl ?_
            refine JO.t (ob_assign rfl) rfl ?_
            refine JO.t (ob_assign rfl) rfl ?_
            refine JO.nil ?_
            repeat (first | refine JX.next ?_ | refine JX.normal_block ?_)
            refine J.sel [0, 1, 8, 9, 10] (.cons rfl (.cons rfl (.cons rfl (.cons rfl (.cons rfl .nil))))) ?_
            repeat refine J.seq ?_
            refine J.plain ?_
            refine JO.t (ob_move rfl) rfl ?_
            refine JO.t (ob_eql rfl rfl) rfl ?_
            refine JO.nil ?_
            repeat (first | refine JX.next ?_ | refine JX.normal_block ?_)
            refine J.sel [0, 8, 9, 10, 23] (.cons rfl (.cons rfl (.cons rfl (.cons rfl (.cons rfl .nil))))) ?_
            repeat refine J.seq ?_
            refine J.cond rfl (fun ht23 => ?_) (fun ht23 => ?_)
            ·
              try simp only [decide_eq_true_eq, decide_eq_false_iff_not] at ht23
              repeat refine J.seq ?_
              refine J.plain ?_
              refine JO.t (ob_assign rfl) rfl ?_
              refine JO.t (ob_assign rfl) rfl ?_
              refine JO.nil ?_
              repeat (first | refine JX.next ?_ | refine JX.normal_block ?_)
              refine J.sel [0, 8, 9, 10] (.cons rfl (.cons rfl (.cons rfl (.cons rfl .nil)))) ?_
              repeat refine J.seq ?_
              refine J.exit ?_
              repeat (first | refine JX.hit ?_ | refine JX.miss rfl ?_ | refine JX.exit_pass ?_)
              repeat (first | refine JX.next ?_ | refine JX.normal_block ?_)
              repeat refine J.seq ?_
              refine J.plain ?_
              refine JO.t (ob_move rfl) rfl ?_
              refine JO.t (ob_not rfl) rfl ?_
              refine JO.nil ?_
              repeat (first | refine JX.next ?_ | refine JX.normal_block ?_)
              refine J.sel [0, 8, 9, 78] (.cons rfl (.cons rfl (.cons rfl (.cons rfl .nil)))) ?_
              repeat refine J.seq ?_
              refine J.cond rfl (fun ht78 => ?_) (fun ht78 => ?_)
              ·
                try simp only [decide_eq_true_eq, decide_eq_false_iff_not] at ht78
                repeat refine J.seq ?_
                refine J.plain ?_
                refine JO.t (ob_move rfl) rfl ?_
                refine JO.md (obm_call rfl rfl (c_p_expr_finder_fail vals _ _ _ _ _) (by repeat (first | exact .here | apply Upd.there)) (by simp) (.one rfl .nil)) (by rfl) rfl ?_
                refine JO.m (obm_store rfl rfl (by repeat (first | exact .here | apply Upd.there)) (by first | exact cnt_is rfl rfl | exact cnt_ex) (by first | exact cnt_is rfl rfl | exact cnt_ex | exact cnt_aggO) ss_api_Value) (by rfl) ?_
                refine JO.nil ?_
                repeat (first | refine JX.next ?_ | refine JX.normal_block ?_)
                refine J.sel [8] (.cons rfl .nil) ?_
                repeat refine J.seq ?_
                refine J.ret ?_
                repeat (first | refine JX.ret_pass ?_ | refine JX.ret_block ?_)
                exact JX.retMCis rfl HasOwn.mem rfl sz_api_Value HasOwn.mem rfl (by first | (simp +decide only [numberF, *, ↓reduceIte] <;> rfl) | (simp_all [numberF]; done) | (simp only [numberF, finF, zero3, *, ↓reduceIte, Bool.false_eq_true]; done) | (simp_all [numberF, finF, zero3]; done) | (simp [numberF, finF, zero3, *]; done)) (by first | (simp +decide only [numberF, *, ↓reduceIte] <;> rfl) | (simp_all [numberF]; done) | (simp only [numberF, finF, zero3, *, ↓reduceIte, Bool.false_eq_true]; done) | (simp_all [numberF, finF, zero3]; done) | (simp [numberF, finF, zero3, *]; done))
              ·
                try simp only [decide_eq_true_eq, decide_eq_false_iff_not] at ht78
                refine J.skip ?_
                repeat (first | refine JX.next ?_ | refine JX.normal_block ?_)
                repeat refine J.seq ?_
                refine J.plain ?_
                refine JO.t (ob_move rfl) rfl ?_
                refine JO.t (ob_build (cs := [_, _, _]) sh_api_Value (.cons rfl (.cons rfl .nil)) rfl rfl) rfl ?_
                refine JO.m (obm_store rfl rfl (by repeat (first | exact .here | apply Upd.there)) (by first | exact cnt_is rfl rfl | exact cnt_ex) (by first | exact cnt_is rfl rfl | exact cnt_ex | exact cnt_aggO) ss_api_Value) (by rfl) ?_
                refine JO.nil ?_
                repeat (first | refine JX.next ?_ | refine JX.normal_block ?_)
                refine J.sel [8] (.cons rfl .nil) ?_
                repeat refine J.seq ?_
                refine J.ret ?_
                repeat (first | refine JX.ret_pass ?_ | refine JX.ret_block ?_)
                exact JX.retMCis rfl HasOwn.mem rfl sz_api_Value HasOwn.mem rfl (by first | (simp +decide only [numberF, *, ↓reduceIte] <;> rfl) | (simp_all [numberF]; done) | (simp only [numberF, finF, zero3, *, ↓reduceIte, Bool.false_eq_true]; done) | (simp_all [numberF, finF, zero3]; done) | (simp [numberF, finF, zero3, *]; done)) (by first | (simp +decide only [numberF, *, ↓reduceIte] <;> rfl) | (simp_all [numberF]; done) | (simp only [numberF, finF, zero3, *, ↓reduceIte, Bool.false_eq_true]; done) | (simp_all [numberF, finF, zero3]; done) | (simp [numberF, finF, zero3, *]; done))
            ·
              try simp only [decide_eq_true_eq, decide_eq_false_iff_not] at ht23
              refine J.skip ?_
              repeat (first | refine JX.next ?_ | refine JX.normal_block ?_)
              repeat refine J.seq ?_
              refine J.exit ?_
              repeat (first | refine JX.hit ?_ | refine JX.miss rfl ?_ | refine JX.exit_pass ?_)
              repeat (first | refine JX.next ?_ | refine JX.normal_block ?_)
              repeat refine J.seq ?_
              refine J.plain ?_
              refine JO.t (ob_move rfl) rfl ?_
              refine JO.t (ob_not rfl) rfl ?_
              refine JO.nil ?_
              repeat (first | refine JX.next ?_ | refine JX.normal_block ?_)
              refine J.sel [0, 8, 9, 78] (.cons rfl (.cons rfl (.cons rfl (.cons rfl .nil)))) ?_
              repeat refine J.seq ?_
              refine J.cond rfl (fun ht78 => ?_) (fun ht78 => ?_)
              ·
                try simp only [decide_eq_true_eq, decide_eq_false_iff_not] at ht78
                repeat refine J.seq ?_
                refine J.plain ?_
                refine JO.t (ob_move rfl) rfl ?_
                refine JO.md (obm_call rfl rfl (c_p_expr_finder_fail vals _ _ _ _ _) (by repeat (first | exact .here | apply Upd.there)) (by simp) (.one rfl .nil)) (by rfl) rfl ?_
                refine JO.m (obm_store rfl rfl (by repeat (first | exact .here | apply Upd.there)) (by first | exact cnt_is rfl rfl | exact cnt_ex) (by first | exact cnt_is rfl rfl | exact cnt_ex | exact cnt_aggO) ss_api_Value) (by rfl) ?_
                refine JO.nil ?_
                repeat (first | refine JX.next ?_ | refine JX.normal_block ?_)
                refine J.sel [8] (.cons rfl .nil) ?_
                repeat refine J.seq ?_
                refine J.ret ?_
                repeat (first | refine JX.ret_pass ?_ | refine JX.ret_block ?_)
                exact JX.retMCis rfl HasOwn.mem rfl sz_api_Value HasOwn.mem rfl (by first | (simp +decide only [numberF, *, ↓reduceIte] <;> rfl) | (simp_all [numberF]; done) | (simp only [numberF, finF, zero3, *, ↓reduceIte, Bool.false_eq_true]; done) | (simp_all [numberF, finF, zero3]; done) | (simp [numberF, finF, zero3, *]; done)) (by first | (simp +decide only [numberF, *, ↓reduceIte] <;> rfl) | (simp_all [numberF]; done) | (simp only [numberF, finF, zero3, *, ↓reduceIte, Bool.false_eq_true]; done) | (simp_all [numberF, finF, zero3]; done) | (simp [numberF, finF, zero3, *]; done))
              ·
                try simp only [decide_eq_true_eq, decide_eq_false_iff_not] at ht78
                refine J.skip ?_
                repeat (first | refine JX.next ?_ | refine JX.normal_block ?_)
                repeat refine J.seq ?_
                refine J.plain ?_
                refine JO.t (ob_move rfl) rfl ?_
                refine JO.t (ob_build (cs := [_, _, _]) sh_api_Value (.cons rfl (.cons rfl .nil)) rfl rfl) rfl ?_
                refine JO.m (obm_store rfl rfl (by repeat (first | exact .here | apply Upd.there)) (by first | exact cnt_is rfl rfl | exact cnt_ex) (by first | exact cnt_is rfl rfl | exact cnt_ex | exact cnt_aggO) ss_api_Value) (by rfl) ?_
                refine JO.nil ?_
                repeat (first | refine JX.next ?_ | refine JX.normal_block ?_)
                refine J.sel [8] (.cons rfl .nil) ?_
                repeat refine J.seq ?_
                refine J.ret ?_
                repeat (first | refine JX.ret_pass ?_ | refine JX.ret_block ?_)
                exact JX.retMCis rfl HasOwn.mem rfl sz_api_Value HasOwn.mem rfl (by first | (simp +decide only [numberF, *, ↓reduceIte] <;> rfl) | (simp_all [numberF]; done) | (simp only [numberF, finF, zero3, *, ↓reduceIte, Bool.false_eq_true]; done) | (simp_all [numberF, finF, zero3]; done) | (simp [numberF, finF, zero3, *]; done)) (by first | (simp +decide only [numberF, *, ↓reduceIte] <;> rfl) | (simp_all [numberF]; done) | (simp only [numberF, finF, zero3, *, ↓reduceIte, Bool.false_eq_true]; done) | (simp_all [numberF, finF, zero3]; done) | (simp [numberF, finF, zero3, *]; done))
          ·
            try simp only [decide_eq_true_eq, decide_eq_false_iff_not] at ht17
            refine J.skip ?_
            repeat (first | refine JX.next ?_ | refine JX.normal_block ?_)
            repeat refine J.seq ?_
            refine J.plain ?_
            refine JO.t (ob_move rfl) rfl ?_
            refine JO.t (ob_move rfl) rfl ?_
            refine JO.t (ob_quo rfl rfl (by first | decide | (simp at hg; omega) | simp_all)) rfl ?_
            refine JO.t (ob_assign rfl) rfl ?_
            refine JO.nil ?_
            repeat (first | refine JX.next ?_ | refine JX.normal_block ?_)
            refine J.sel [0, 1, 2, 3, 8, 9, 10] (.cons rfl (.cons rfl (.cons rfl (.cons rfl (.cons rfl (.cons rfl (.cons rfl .nil))))))) ?_
            repeat refine J.seq ?_
            refine J.plain ?_
            refine JO.t (ob_move rfl) rfl ?_
            refine JO.t (ob_eql rfl rfl) rfl ?_
            refine JO.nil ?_
            repeat (first | refine JX.next ?_ | refine JX.normal_block ?_)
            refine J.sel [0, 2, 3, 8, 9, 10, 28] (.cons rfl (.cons rfl (.cons rfl (.cons rfl (.cons rfl (.cons rfl (.cons rfl .nil))))))) ?_
            repeat refine J.seq ?_
            refine J.cond rfl (fun ht28 => ?_) (fun ht28 => ?_)
            ·
              try simp only [decide_eq_true_eq, decide_eq_false_iff_not] at ht28
              repeat refine J.seq ?_
              refine J.plain ?_
              refine JO.t (ob_move rfl) rfl ?_
              refine JO.t (ob_move rfl) rfl ?_
              refine JO.t (ob_rem rfl rfl (by first | decide | (simp at hg; omega) | simp_all)) rfl ?_
              refine JO.t (ob_assign rfl) rfl ?_
              refine JO.nil ?_
              repeat (first | refine JX.next ?_ | refine JX.normal_block ?_)
              refine J.sel [0, 8, 9, 10] (.cons rfl (.cons rfl (.cons rfl (.cons rfl .nil)))) ?_
              repeat refine J.seq ?_
              refine J.plain ?_
              refine JO.t (ob_move rfl) rfl ?_
              refine JO.t (ob_not rfl) rfl ?_
              refine JO.nil ?_
              repeat (first | refine JX.next ?_ | refine JX.normal_block ?_)
              refine J.sel [0, 8, 9, 78] (.cons rfl (.cons rfl (.cons rfl (.cons rfl .nil)))) ?_
              repeat refine J.seq ?_
              refine J.cond rfl (fun ht78 => ?_) (fun ht78 => ?_)
              ·
                try simp only [decide_eq_true_eq, decide_eq_false_iff_not] at ht78
                repeat refine J.seq ?_
                refine J.plain ?_
                refine JO.t (ob_move rfl) rfl ?_
                refine JO.md (obm_call rfl rfl (c_p_expr_finder_fail vals _ _ _ _ _) (by repeat (first | exact .here | apply Upd.there)) (by simp) (.one rfl .nil)) (by rfl) rfl ?_
                refine JO.m (obm_store rfl rfl (by repeat (first | exact .here | apply Upd.there)) (by first | exact cnt_is rfl rfl | exact cnt_ex) (by first | exact cnt_is rfl rfl | exact cnt_ex | exact cnt_aggO) ss_api_Value) (by rfl) ?_
                refine JO.nil ?_
                repeat (first | refine JX.next ?_ | refine JX.normal_block ?_)
                refine J.sel [8] (.cons rfl .nil) ?_
                repeat refine J.seq ?_
                refine J.ret ?_
                repeat (first | refine JX.ret_pass ?_ | refine JX.ret_block ?_)
                exact JX.retMCis rfl HasOwn.mem rfl sz_api_Value HasOwn.mem rfl (by first | (simp +decide only [numberF, *, ↓reduceIte] <;> rfl) | (simp_all [numberF]; done) | (simp only [numberF, finF, zero3, *, ↓reduceIte, Bool.false_eq_true]; done) | (simp_all [numberF, finF, zero3]; done) | (simp [numberF, finF, zero3, *]; done)) (by first | (simp +decide only [numberF, *, ↓reduceIte] <;> rfl) | (simp_all [numberF]; done) | (simp only [numberF, finF, zero3, *, ↓reduceIte, Bool.false_eq_true]; done) | (simp_all [numberF, finF, zero3]; done) | (simp [numberF, finF, zero3, *]; done))
              ·
                try simp only [decide_eq_true_eq, decide_eq_false_iff_not] at ht78
                refine J.skip ?_
                repeat (first | refine JX.next ?_ | refine JX.normal_block ?_)
                repeat refine J.seq ?_
                refine J.plain ?_
                refine JO.t (ob_move rfl) rfl ?_
                refine JO.t (ob_build (cs := [_, _, _]) sh_api_Value (.cons rfl (.cons rfl .nil)) rfl rfl) rfl ?_
                refine JO.m (obm_store rfl rfl (by repeat (first | exact .here | apply Upd.there)) (by first | exact cnt_is rfl rfl | exact cnt_ex) (by first | exact cnt_is rfl rfl | exact cnt_ex | exact cnt_aggO) ss_api_Value) (by rfl) ?_
                refine JO.nil ?_
                repeat (first | refine JX.next ?_ | refine JX.normal_block ?_)
                refine J.sel [8] (.cons rfl .nil) ?_
                repeat refine J.seq ?_
                refine J.ret ?_
                repeat (first | refine JX.ret_pass ?_ | refine JX.ret_block ?_)
                exact JX.retMCis rfl HasOwn.mem rfl sz_api_Value HasOwn.mem rfl (by first | (simp +decide only [numberF, *, ↓reduceIte] <;> rfl) | (simp_all [numberF]; done) | (simp only [numberF, finF, zero3, *, ↓reduceIte, Bool.false_eq_true]; done) | (simp_all [numberF, finF, zero3]; done) | (simp [numberF, finF, zero3, *]; done)) (by first | (simp +decide only [numberF, *, ↓reduceIte] <;> rfl) | (simp_all [numberF]; done) | (simp only [numberF, finF, zero3, *, ↓reduceIte, Bool.false_eq_true]; done) | (simp_all [numberF, finF, zero3]; done) | (simp [numberF, finF, zero3, *]; done))
            ·
              try simp only [decide_eq_true_eq, decide_eq_false_iff_not] at ht28
              refine J.skip ?_
              repeat (first | refine JX.next ?_ | refine JX.normal_block ?_)
              repeat refine J.seq ?_
              refine J.plain ?_
              refine JO.t (ob_move rfl) rfl ?_
              refine JO.t (ob_not rfl) rfl ?_
              refine JO.nil ?_
              repeat (first | refine JX.next ?_ | refine JX.normal_block ?_)
              refine J.sel [0, 8, 9, 78] (.cons rfl (.cons rfl (.cons rfl (.cons rfl .nil)))) ?_
              repeat refine J.seq ?_
              refine J.cond rfl (fun ht78 => ?_) (fun ht78 => ?_)
              ·
                try simp only [decide_eq_true_eq, decide_eq_false_iff_not] at ht78
                repeat refine J.seq ?_
                refine J.plain ?_
                refine JO.t (ob_move rfl) rfl ?_
                refine JO.md (obm_call rfl rfl (c_p_expr_finder_fail vals _ _ _ _ _) (by repeat (first | exact .here | apply Upd.there)) (by simp) (.one rfl .nil)) (by rfl) rfl ?_
                refine JO.m (obm_store rfl rfl (by repeat (first | exact .here | apply Upd.there)) (by first | exact cnt_is rfl rfl | exact cnt_ex) (by first | exact cnt_is rfl rfl | exact cnt_ex | exact cnt_aggO) ss_api_Value) (by rfl) ?_
                refine JO.nil ?_
                repeat (first | refine JX.next ?_ | refine JX.normal_block ?_)
                refine J.sel [8] (.cons rfl .nil) ?_
                repeat refine J.seq ?_
                refine J.ret ?_
                repeat (first | refine JX.ret_pass ?_ | refine JX.ret_block ?_)
                exact JX.retMCis rfl HasOwn.mem rfl sz_api_Value HasOwn.mem rfl (by first | (simp +decide only [numberF, *, ↓reduceIte] <;> rfl) | (simp_all [numberF]; done) | (simp only [numberF, finF, zero3, *, ↓reduceIte, Bool.false_eq_true]; done) | (simp_all [numberF, finF, zero3]; done) | (simp [numberF, finF, zero3, *]; done)) (by first | (simp +decide only [numberF, *, ↓reduceIte] <;> rfl) | (simp_all [numberF]; done) | (simp only [numberF, finF, zero3, *, ↓reduceIte, Bool.false_eq_true]; done) | (simp_all [numberF, finF, zero3]; done) | (simp [numberF, finF, zero3, *]; done))
              ·
                try simp only [decide_eq_true_eq, decide_eq_false_iff_not] at ht78
                refine J.skip ?_
                repeat (first | refine JX.next ?_ | refine JX.normal_block ?_)
                repeat refine J.seq ?_
                refine J.plain ?_
                refine JO.t (ob_move rfl) rfl ?_
                refine JO.t (ob_build (cs := [_, _, _]) sh_api_Value (.cons rfl (.cons rfl .nil)) rfl rfl) rfl ?_
                refine JO.m (obm_store rfl rfl (by repeat (first | exact .here | apply Upd.there)) (by first | exact cnt_is rfl rfl | exact cnt_ex) (by first | exact cnt_is rfl rfl | exact cnt_ex | exact cnt_aggO) ss_api_Value) (by rfl) ?_
                refine JO.nil ?_
                repeat (first | refine JX.next ?_ | refine JX.normal_block ?_)
                refine J.sel [8] (.cons rfl .nil) ?_
                repeat refine J.seq ?_
                refine J.ret ?_
                repeat (first | refine JX.ret_pass ?_ | refine JX.ret_block ?_)
                exact JX.retMCis rfl HasOwn.mem rfl sz_api_Value HasOwn.mem rfl (by first | (simp +decide only [numberF, *, ↓reduceIte] <;> rfl) | (simp_all [numberF]; done) | (simp only [numberF, finF, zero3, *, ↓reduceIte, Bool.false_eq_true]; done) | (simp_all [numberF, finF, zero3]; done) | (simp [numberF, finF, zero3, *]; done)) (by first | (simp +decide only [numberF, *, ↓reduceIte] <;> rfl) | (simp_all [numberF]; done) | (simp only [numberF, finF, zero3, *, ↓reduceIte, Bool.false_eq_true]; done) | (simp_all [numberF, finF, zero3]; done) | (simp [numberF, finF, zero3, *]; done))
theorem c_p_expr_finder_one (vals : List V3) (ra : Option Addr) (rl rc : Nat) (e : Int) (k vk vn : Int) (vs tb nm : ByteArray) (sl : Int) (kid : Ex) (hk : FindOK kid) : CallM Try.prog f_p_expr_finder_one ty_expr_finder (FV ra rl rc e) [RowR vals ra rl] [.rep (ExR (.mk k vk vn vs tb nm sl [kid]))] (FV ra rl rc (oneF k (findF vals kid e)).2) (.is (vv (oneF k (findF vals kid e)).1)) :=
CallM.of (fn := Try.f60) Try.func60 (n := 65) rfl rfl rfl (fun _ _ => by kernel_rfl) fun E W b0 => by
  refine J.openEx (s := 1) rfl (fun a len cap b o hlen ha => ?_)
  have hlen1 : len = 1 := hlen.symm
  subst hlen1
  repeat refine J.seq ?_
  refine J.plain ?_
  refine JO.box rfl rfl fun b3 => ?_
  refine JO.alloc zo_api_Value rfl fun b4 => ?_
  refine JO.nil ?_
  repeat (first | refine JX.next ?_ | refine JX.normal_block ?_)
  refine J.sel [0, 3, 4] (.cons rfl (.cons rfl (.cons rfl .nil))) ?_
  repeat refine J.seq ?_
  refine J.plain ?_
  refine JO.t (ob_move rfl) rfl ?_
  refine JO.t (ob_fieldAddr fo_api_Expr_5 rfl) rfl ?_
  refine JO.t (ob_ld1 sz_sl_api_Expr rfl rfl) rfl ?_
  refine JO.t (ob_indexAddr el_sl_api_Expr rfl (ha (by omega)) rfl (by omega) (by omega)) rfl ?_
  refine JO.t (ob_loadKid (i := 0) sz_api_Expr rfl List.mem_cons_self (ha (by omega)) rfl rfl) rfl ?_
  refine JO.md (obm_call rfl rfl (hk vals _ _ _ _) (by repeat (first | exact .here | apply Upd.there)) (by simp) (.one rfl .nil)) (by rfl) rfl ?_
  refine JO.alloc zo_api_Value rfl fun b5 => ?_
  refine JO.m (obm_store rfl rfl (by repeat (first | exact .here | apply Upd.there)) (by first | exact cnt_is rfl rfl | exact cnt_ex) (by first | exact cnt_is rfl rfl | exact cnt_ex | exact cnt_aggO) ss_api_Value) (by rfl) ?_
  refine JO.nil ?_
  repeat (first | refine JX.next ?_ | refine JX.normal_block ?_)
  refine J.sel [0, 3, 4, 5] (.cons rfl (.cons rfl (.cons rfl (.cons rfl .nil)))) ?_
  repeat refine J.seq ?_
  refine J.block ?_
  repeat refine J.seq ?_
  refine J.plain ?_
  refine JO.t (ob_fieldAddr fo_api_Expr_0 rfl) rfl ?_
  refine JO.t (ob_ld1 sz_int rfl rfl) rfl ?_
  refine JO.t (ob_eql rfl rfl) rfl ?_
  refine JO.t (ob_assign rfl) rfl ?_
  refine JO.nil ?_
  repeat (first | refine JX.next ?_ | refine JX.normal_block ?_)
  refine J.sel [0, 3, 4, 5, 12] (.cons rfl (.cons rfl (.cons rfl (.cons rfl (.cons rfl .nil))))) ?_
  repeat refine J.seq ?_
  refine J.cond rfl (fun ht12 => ?_) (fun ht12 => ?_)
  ·
    try simp only [decide_eq_true_eq, decide_eq_false_iff_not] at ht12
    repeat refine J.seq ?_
    refine J.plain ?_
    refine JO.t (ob_fieldAddr fo_api_Value_0 rfl) rfl ?_
    refine JO.t (ob_ld1 sz_int rfl rfl) rfl ?_
    refine JO.t (ob_eql rfl rfl) rfl ?_
    refine JO.t (ob_call rfl (c_expr_truth _) (.one rfl .nil)) rfl ?_
    refine JO.m (obm_store rfl rfl (by repeat (first | exact .here | apply Upd.there)) (by first | exact cnt_is rfl rfl | exact cnt_ex) (by first | exact cnt_is rfl rfl | exact cnt_ex | exact cnt_aggO) ss_api_Value) (by rfl) ?_
    refine JO.nil ?_
    repeat (first | refine JX.next ?_ | refine JX.normal_block ?_)
    refine J.sel [4] (.cons rfl .nil) ?_
    repeat refine J.seq ?_
    refine J.ret ?_
    repeat (first | refine JX.ret_pass ?_ | refine JX.ret_block ?_)
    exact JX.retMCis rfl HasOwn.mem rfl sz_api_Value HasOwn.mem rfl (by first | (simp +decide only [oneF, *, ↓reduceIte] <;> rfl) | (simp_all [oneF]; done) | (simp only [oneF, zero3, truthF, *, ↓reduceIte, Bool.false_eq_true]; done) | (simp_all [oneF, zero3, truthF]; done) | (simp [oneF, zero3, truthF, *]; done)) (by first | (simp +decide only [oneF, *, ↓reduceIte] <;> rfl) | (simp_all [oneF]; done) | (simp only [oneF, zero3, truthF, *, ↓reduceIte, Bool.false_eq_true]; done) | (simp_all [oneF, zero3, truthF]; done) | (simp [oneF, zero3, truthF, *]; done))
  ·
    try simp only [decide_eq_true_eq, decide_eq_false_iff_not] at ht12
    repeat refine J.seq ?_
    refine J.plain ?_
    refine JO.t (ob_fieldAddr fo_api_Expr_0 rfl) rfl ?_
    refine JO.t (ob_ld1 sz_int rfl rfl) rfl ?_
    refine JO.t (ob_eql rfl rfl) rfl ?_
    refine JO.t (ob_assign rfl) rfl ?_
    refine JO.nil ?_
    repeat (first | refine JX.next ?_ | refine JX.normal_block ?_)
    refine J.sel [0, 3, 4, 5, 20] (.cons rfl (.cons rfl (.cons rfl (.cons rfl (.cons rfl .nil))))) ?_
    repeat refine J.seq ?_
    refine J.cond rfl (fun ht20 => ?_) (fun ht20 => ?_)
    ·
      try simp only [decide_eq_true_eq, decide_eq_false_iff_not] at ht20
      repeat refine J.seq ?_
      refine J.plain ?_
      refine JO.t (ob_fieldAddr fo_api_Value_0 rfl) rfl ?_
      refine JO.t (ob_ld1 sz_int rfl rfl) rfl ?_
      refine JO.t (ob_neq rfl rfl) rfl ?_
      refine JO.t (ob_call rfl (c_expr_truth _) (.one rfl .nil)) rfl ?_
      refine JO.m (obm_store rfl rfl (by repeat (first | exact .here | apply Upd.there)) (by first | exact cnt_is rfl rfl | exact cnt_ex) (by first | exact cnt_is rfl rfl | exact cnt_ex | exact cnt_aggO) ss_api_Value) (by rfl) ?_
      refine JO.nil ?_
      repeat (first | refine JX.next ?_ | refine JX.normal_block ?_)
      refine J.sel [4] (.cons rfl .nil) ?_
      repeat refine J.seq ?_
      refine J.ret ?_
      repeat (first | refine JX.ret_pass ?_ | refine JX.ret_block ?_)
      exact JX.retMCis rfl HasOwn.mem rfl sz_api_Value HasOwn.mem rfl (by first | (simp +decide only [oneF, *, ↓reduceIte] <;> rfl) | (simp_all [oneF]; done) | (simp only [oneF, zero3, truthF, *, ↓reduceIte, Bool.false_eq_true]; done) | (simp_all [oneF, zero3, truthF]; done) | (simp [oneF, zero3, truthF, *]; done)) (by first | (simp +decide only [oneF, *, ↓reduceIte] <;> rfl) | (simp_all [oneF]; done) | (simp only [oneF, zero3, truthF, *, ↓reduceIte, Bool.false_eq_true]; done) | (simp_all [oneF, zero3, truthF]; done) | (simp [oneF, zero3, truthF, *]; done))
    ·
      try simp only [decide_eq_true_eq, decide_eq_false_iff_not] at ht20
      repeat refine J.seq ?_
      refine J.plain ?_
      refine JO.t (ob_fieldAddr fo_api_Value_0 rfl) rfl ?_
      refine JO.t (ob_ld1 sz_int rfl rfl) rfl ?_
      refine JO.t (ob_eql rfl rfl) rfl ?_
      refine JO.t (ob_assign rfl) rfl ?_
      refine JO.nil ?_
      repeat (first | refine JX.next ?_ | refine JX.normal_block ?_)
      refine J.sel [0, 3, 4, 5, 28] (.cons rfl (.cons rfl (.cons rfl (.cons rfl (.cons rfl .nil))))) ?_
      repeat refine J.seq ?_
      refine J.cond rfl (fun ht28 => ?_) (fun ht28 => ?_)
      ·
        try simp only [decide_eq_true_eq, decide_eq_false_iff_not] at ht28
        repeat refine J.seq ?_
        refine J.plain ?_
        refine JO.t (ob_ldN (cs := [_, _, _]) sz_api_Value rfl rfl rfl) rfl ?_
        refine JO.m (obm_store rfl rfl (by repeat (first | exact .here | apply Upd.there)) (by first | exact cnt_is rfl rfl | exact cnt_ex) (by first | exact cnt_is rfl rfl | exact cnt_ex | exact cnt_aggO) ss_api_Value) (by rfl) ?_
        refine JO.nil ?_
        repeat (first | refine JX.next ?_ | refine JX.normal_block ?_)
        refine J.sel [4] (.cons rfl .nil) ?_
        repeat refine J.seq ?_
        refine J.ret ?_
        repeat (first | refine JX.ret_pass ?_ | refine JX.ret_block ?_)
        exact JX.retMCis rfl HasOwn.mem rfl sz_api_Value HasOwn.mem rfl (by first | (simp +decide only [oneF, *, ↓reduceIte] <;> rfl) | (simp_all [oneF]; done) | (simp only [oneF, zero3, truthF, *, ↓reduceIte, Bool.false_eq_true]; done) | (simp_all [oneF, zero3, truthF]; done) | (simp [oneF, zero3, truthF, *]; done)) (by first | (simp +decide only [oneF, *, ↓reduceIte] <;> rfl) | (simp_all [oneF]; done) | (simp only [oneF, zero3, truthF, *, ↓reduceIte, Bool.false_eq_true]; done) | (simp_all [oneF, zero3, truthF]; done) | (simp [oneF, zero3, truthF, *]; done))
      ·
        try simp only [decide_eq_true_eq, decide_eq_false_iff_not] at ht28
        repeat refine J.seq ?_
        refine J.reg0 hmx (by kernel_rfl) (by kernel_rfl) ?_
        refine RT.t (ob_fieldAddr fo_api_Expr_0 rfl) ?_
        refine RT.t (ob_ld1 sz_int rfl rfl) ?_
        refine RT.t (ob_eql rfl rfl) ?_
        refine RT.t (ob_move rfl) ?_
        refine RT.g rfl rfl rfl (fun hg => ob_fieldAddr fo_api_Value_0 (.inl rfl)) ?_
        refine RT.g rfl rfl rfl (fun hg => ob_ld1 sz_int (.inr ⟨_, rfl, fun h => h⟩) rfl) ?_
        refine RT.g rfl rfl rfl (fun hg => ob_eql (.inr ⟨_, rfl, fun h => h⟩) (.inl rfl)) ?_
        refine RT.t (ob_pickAnd rfl rfl rfl id) ?_
        refine RT.t (ob_assign rfl) ?_
        refine RT.nil ?_
        refine FinS.nil0 ?_
        repeat (first | refine JX.next ?_ | refine JX.normal_block ?_)
        refine J.sel [0, 3, 4, 5, 33] (.cons rfl (.cons rfl (.cons rfl (.cons rfl (.cons rfl .nil))))) ?_
        repeat refine J.seq ?_
        refine J.cond rfl (fun ht33 => ?_) (fun ht33 => ?_)
        ·
          try simp only [decide_eq_true_eq, decide_eq_false_iff_not] at ht33
          repeat refine J.seq ?_
          refine J.plain ?_
          refine JO.t (ob_fieldAddr fo_api_Value_1 rfl) rfl ?_
          refine JO.t (ob_ld1 sz_int64 rfl rfl) rfl ?_
          refine JO.t (ob_eql rfl rfl) rfl ?_
          refine JO.t (ob_call rfl (c_expr_truth _) (.one rfl .nil)) rfl ?_
          refine JO.m (obm_store rfl rfl (by repeat (first | exact .here | apply Upd.there)) (by first | exact cnt_is rfl rfl | exact cnt_ex) (by first | exact cnt_is rfl rfl | exact cnt_ex | exact cnt_aggO) ss_api_Value) (by rfl) ?_
          refine JO.nil ?_
          repeat (first | refine JX.next ?_ | refine JX.normal_block ?_)
          refine J.sel [4] (.cons rfl .nil) ?_
          repeat refine J.seq ?_
          refine J.ret ?_
          repeat (first | refine JX.ret_pass ?_ | refine JX.ret_block ?_)
          exact JX.retMCis rfl HasOwn.mem rfl sz_api_Value HasOwn.mem rfl (by first | (simp +decide only [oneF, *, ↓reduceIte] <;> rfl) | (simp_all [oneF]; done) | (simp only [oneF, zero3, truthF, *, ↓reduceIte, Bool.false_eq_true]; done) | (simp_all [oneF, zero3, truthF]; done) | (simp [oneF, zero3, truthF, *]; done)) (by first | (simp +decide only [oneF, *, ↓reduceIte] <;> rfl) | (simp_all [oneF]; done) | (simp only [oneF, zero3, truthF, *, ↓reduceIte, Bool.false_eq_true]; done) | (simp_all [oneF, zero3, truthF]; done) | (simp [oneF, zero3, truthF, *]; done))
        ·
          try simp only [decide_eq_true_eq, decide_eq_false_iff_not] at ht33
          repeat refine J.seq ?_
          refine J.plain ?_
          refine JO.t (ob_fieldAddr fo_api_Expr_0 rfl) rfl ?_
          refine JO.t (ob_ld1 sz_int rfl rfl) rfl ?_
          refine JO.t (ob_eql rfl rfl) rfl ?_
          refine JO.t (ob_assign rfl) rfl ?_
          refine JO.nil ?_
          repeat (first | refine JX.next ?_ | refine JX.normal_block ?_)
          refine J.sel [0, 4, 5, 46] (.cons rfl (.cons rfl (.cons rfl (.cons rfl .nil)))) ?_
          first | apply J.or [0, 4, 5] rfl (.cons rfl (.cons rfl (.cons rfl .nil))) | apply J.orN [0, 4, 5] rfl (.cons rfl (.cons rfl (.cons rfl .nil)))
          · intro ht46
            repeat refine J.seq ?_
            refine J.plain ?_
            refine JO.t (ob_fieldAddr fo_api_Value_0 rfl) rfl ?_
            refine JO.t (ob_ld1 sz_int rfl rfl) rfl ?_
            refine JO.t (ob_neq rfl rfl) rfl ?_
            refine JO.t (ob_assign rfl) rfl ?_
            refine JO.nil ?_
            exact JX.mids [46, 0, 4, 5] (.cons rfl (.cons rfl (.cons rfl (.cons rfl .nil))))
          repeat refine J.seq ?_
          refine J.cond rfl (fun ht46 => ?_) (fun ht46 => ?_)
          ·
            try simp only [decide_eq_true_eq, decide_eq_false_iff_not] at ht46
            repeat refine J.seq ?_
            refine J.plain ?_
            refine JO.t (ob_move rfl) rfl ?_
            refine JO.md (obm_call rfl rfl (c_p_expr_finder_fail vals _ _ _ _ _) (by repeat (first | exact .here | apply Upd.there)) (by simp) (.one rfl .nil)) (by rfl) rfl ?_
            refine JO.m (obm_store rfl rfl (by repeat (first | exact .here | apply Upd.there)) (by first | exact cnt_is rfl rfl | exact cnt_ex) (by first | exact cnt_is rfl rfl | exact cnt_ex | exact cnt_aggO) ss_api_Value) (by rfl) ?_
            refine JO.nil ?_
            repeat (first | refine JX.next ?_ | refine JX.normal_block ?_)
            refine J.sel [4] (.cons rfl .nil) ?_
            repeat refine J.seq ?_
            refine J.ret ?_
            repeat (first | refine JX.ret_pass ?_ | refine JX.ret_block ?_)
            exact JX.retMCis rfl HasOwn.mem rfl sz_api_Value HasOwn.mem rfl (by first | (simp +decide only [oneF, *, ↓reduceIte] <;> rfl) | (simp_all [oneF]; done) | (simp only [oneF, zero3, truthF, *, ↓reduceIte, Bool.false_eq_true]; done) | (simp_all [oneF, zero3, truthF]; done) | (simp [oneF, zero3, truthF, *]; done)) (by first | (simp +decide only [oneF, *, ↓reduceIte] <;> rfl) | (simp_all [oneF]; done) | (simp only [oneF, zero3, truthF, *, ↓reduceIte, Bool.false_eq_true]; done) | (simp_all [oneF, zero3, truthF]; done) | (simp [oneF, zero3, truthF, *]; done))
          ·
            try simp only [decide_eq_true_eq, decide_eq_false_iff_not] at ht46
            repeat refine J.seq ?_
            refine J.plain ?_
            refine JO.t (ob_fieldAddr fo_api_Value_1 rfl) rfl ?_
            refine JO.t (ob_ld1 sz_int64 rfl rfl) rfl ?_
            refine JO.t (ob_eql rfl rfl) rfl ?_
            refine JO.t (ob_assign rfl) rfl ?_
            refine JO.nil ?_
            repeat (first | refine JX.next ?_ | refine JX.normal_block ?_)
            refine J.sel [0, 4, 5, 55] (.cons rfl (.cons rfl (.cons rfl (.cons rfl .nil)))) ?_
            repeat refine J.seq ?_
            refine J.cond rfl (fun ht55 => ?_) (fun ht55 => ?_)
            ·
              try simp only [decide_eq_true_eq, decide_eq_false_iff_not] at ht55
              repeat refine J.seq ?_
              refine J.plain ?_
              refine JO.t (ob_move rfl) rfl ?_
              refine JO.md (obm_call rfl rfl (c_p_expr_finder_fail vals _ _ _ _ _) (by repeat (first | exact .here | apply Upd.there)) (by simp) (.one rfl .nil)) (by rfl) rfl ?_
              refine JO.m (obm_store rfl rfl (by repeat (first | exact .here | apply Upd.there)) (by first | exact cnt_is rfl rfl | exact cnt_ex) (by first | exact cnt_is rfl rfl | exact cnt_ex | exact cnt_aggO) ss_api_Value) (by rfl) ?_
              refine JO.nil ?_
              repeat (first | refine JX.next ?_ | refine JX.normal_block ?_)
              refine J.sel [4] (.cons rfl .nil) ?_
              repeat refine J.seq ?_
              refine J.ret ?_
              repeat (first | refine JX.ret_pass ?_ | refine JX.ret_block ?_)
              exact JX.retMCis rfl HasOwn.mem rfl sz_api_Value HasOwn.mem rfl (by first | (simp +decide only [oneF, *, ↓reduceIte] <;> rfl) | (simp_all [oneF]; done) | (simp only [oneF, zero3, truthF, *, ↓reduceIte, Bool.false_eq_true]; done) | (simp_all [oneF, zero3, truthF]; done) | (simp [oneF, zero3, truthF, *]; done)) (by first | (simp +decide only [oneF, *, ↓reduceIte] <;> rfl) | (simp_all [oneF]; done) | (simp only [oneF, zero3, truthF, *, ↓reduceIte, Bool.false_eq_true]; done) | (simp_all [oneF, zero3, truthF]; done) | (simp [oneF, zero3, truthF, *]; done))
            ·
              try simp only [decide_eq_true_eq, decide_eq_false_iff_not] at ht55
              refine J.skip ?_
              repeat (first | refine JX.next ?_ | refine JX.normal_block ?_)
              repeat refine J.seq ?_
              refine J.plain ?_
              refine JO.t (ob_fieldAddr fo_api_Value_1 rfl) rfl ?_
              refine JO.t (ob_ld1 sz_int64 rfl rfl) rfl ?_
              refine JO.t (ob_neg rfl) rfl ?_
              refine JO.t (ob_build (cs := [_, _, _]) sh_api_Value (.cons rfl (.cons rfl .nil)) rfl rfl) rfl ?_
              refine JO.m (obm_store rfl rfl (by repeat (first | exact .here | apply Upd.there)) (by first | exact cnt_is rfl rfl | exact cnt_ex) (by first | exact cnt_is rfl rfl | exact cnt_ex | exact cnt_aggO) ss_api_Value) (by rfl) ?_
              refine JO.nil ?_
              repeat (first | refine JX.next ?_ | refine JX.normal_block ?_)
              refine J.sel [4] (.cons rfl .nil) ?_
              repeat refine J.seq ?_
              refine J.ret ?_
              repeat (first | refine JX.ret_pass ?_ | refine JX.ret_block ?_)
              exact JX.retMCis rfl HasOwn.mem rfl sz_api_Value HasOwn.mem rfl (by first | (simp +decide only [oneF, *, ↓reduceIte] <;> rfl) | (simp_all [oneF]; done) | (simp only [oneF, zero3, truthF, *, ↓reduceIte, Bool.false_eq_true]; done) | (simp_all [oneF, zero3, truthF]; done) | (simp [oneF, zero3, truthF, *]; done)) (by first | (simp +decide only [oneF, *, ↓reduceIte] <;> rfl) | (simp_all [oneF]; done) | (simp only [oneF, zero3, truthF, *, ↓reduceIte, Bool.false_eq_true]; done) | (simp_all [oneF, zero3, truthF]; done) | (simp [oneF, zero3, truthF, *]; done))
theorem c_p_expr_finder_logic_1 (k n : Int) (s : ByteArray) : CallTy Try.prog f_p_expr_finder_logic_1 [.is (.agg #[.int .i64 k, .int .i64 n, .string s])] (.is (.bool (someF ⟨k, n, s⟩))) :=
  CallTy.of (fn := Try.f86) Try.func86 (n := 11) rfl rfl rfl (fun _ _ => by kernel_rfl) fun E W => by
  repeat refine J.seq ?_
  refine J.plain ?_
  refine JO.box rfl rfl fun b1 => ?_
  refine JO.t (ob_assign rfl) rfl ?_
  refine JO.nil ?_
  repeat (first | refine JX.next ?_ | refine JX.normal_block ?_)
  refine J.sel [1] (.cons rfl .nil) ?_
  repeat refine J.seq ?_
  refine J.reg0 hmx (by kernel_rfl) (by kernel_rfl) ?_
  refine RT.t (ob_fieldAddr fo_api_Value_0 rfl) ?_
  refine RT.t (ob_ld1 sz_int rfl rfl) ?_
  refine RT.t (ob_neq rfl rfl) ?_
  refine RT.t (ob_move rfl) ?_
  refine RT.g rfl rfl rfl (fun hg => ob_fieldAddr fo_api_Value_0 (.inl rfl)) ?_
  refine RT.g rfl rfl rfl (fun hg => ob_ld1 sz_int (.inr ⟨_, rfl, fun h => h⟩) rfl) ?_
  refine RT.g rfl rfl rfl (fun hg => ob_neq (.inr ⟨_, rfl, fun h => h⟩) (.inl rfl)) ?_
  refine RT.t (ob_pickAnd rfl rfl rfl id) ?_
  refine RT.t (ob_assign rfl) ?_
  refine RT.nil ?_
  refine FinS.nil0 ?_
  repeat (first | refine JX.next ?_ | refine JX.normal_block ?_)
  refine J.sel [2] (.cons rfl .nil) ?_
  repeat refine J.seq ?_
  refine J.ret ?_
  repeat (first | refine JX.ret_pass ?_ | refine JX.ret_block ?_)
  exact JX.ret1is rfl rfl (by first | (simp +decide only [someF, *, ↓reduceIte] <;> rfl) | (simp_all [someF]; done) | (simp only [someF, *, ↓reduceIte, Bool.false_eq_true]; done) | (simp_all [someF]; done) | (simp [someF, *]; done))
theorem c_p_expr_finder_logic (vals : List V3) (ra : Option Addr) (rl rc : Nat) (e : Int) (k vk vn : Int) (vs tb nm : ByteArray) (sl : Int) (x y : Ex) (hy : FindOK y) (ak an : Int) (ast : ByteArray) : CallM Try.prog f_p_expr_finder_logic ty_expr_finder (FV ra rl rc e) [RowR vals ra rl] [.rep (ExR (.mk k vk vn vs tb nm sl [x, y])), .is (.agg #[.int .i64 ak, .int .i64 an, .string ast])] (FV ra rl rc (logicF k ⟨ak, an, ast⟩ e (findF vals y)).2) (.is (vv (logicF k ⟨ak, an, ast⟩ e (findF vals y)).1)) :=
CallM.of (fn := Try.f75) Try.func75 (n := 67) rfl rfl rfl (fun _ _ => by kernel_rfl) fun E W b0 => by
  refine J.openEx (s := 1) rfl (fun a len cap b o hlen ha => ?_)
  have hlen1 : len = 2 := hlen.symm
  subst hlen1
  repeat refine J.seq ?_
  refine J.plain ?_
  refine JO.box rfl rfl fun b4 => ?_
  refine JO.box rfl rfl fun b5 => ?_
  refine JO.alloc zo_api_Value rfl fun b6 => ?_
  refine JO.nil ?_
  repeat (first | refine JX.next ?_ | refine JX.normal_block ?_)
  refine J.sel [0, 4, 5, 6] (.cons rfl (.cons rfl (.cons rfl (.cons rfl .nil)))) ?_
  repeat refine J.seq ?_
  refine J.plain ?_
  refine JO.t (ob_fieldAddr fo_api_Expr_0 rfl) rfl ?_
  refine JO.t (ob_ld1 sz_int rfl rfl) rfl ?_
  refine JO.t (ob_eql rfl rfl) rfl ?_
  refine JO.t (ob_call rfl (c_expr_truth _) (.one rfl .nil)) rfl ?_
  refine JO.alloc zo_api_Value rfl fun b7 => ?_
  refine JO.m (obm_store rfl rfl (by repeat (first | exact .here | apply Upd.there)) (by first | exact cnt_is rfl rfl | exact cnt_ex) (by first | exact cnt_is rfl rfl | exact cnt_ex | exact cnt_aggO) ss_api_Value) (by rfl) ?_
  refine JO.nil ?_
  repeat (first | refine JX.next ?_ | refine JX.normal_block ?_)
  refine J.sel [0, 4, 5, 6, 7] (.cons rfl (.cons rfl (.cons rfl (.cons rfl (.cons rfl .nil))))) ?_
  repeat refine J.seq ?_
  refine J.plain ?_
  refine JO.t (ob_assign rfl) rfl ?_
  refine JO.nil ?_
  repeat (first | refine JX.next ?_ | refine JX.normal_block ?_)
  refine J.sel [0, 4, 5, 6, 7, 8] (.cons rfl (.cons rfl (.cons rfl (.cons rfl (.cons rfl (.cons rfl .nil)))))) ?_
  repeat refine J.seq ?_
  refine J.reg0 hmx (by kernel_rfl) (by kernel_rfl) ?_
  refine RT.t (ob_move rfl) ?_
  refine RT.t (ob_nilCheck rfl) ?_
  refine RT.t (ob_fieldAddr fo_expr_finder_1 rfl) ?_
  refine RT.t (ob_ld1 sz_api_Errno rfl rfl) ?_
  refine RT.t (ob_eql rfl rfl) ?_
  refine RT.t (ob_move rfl) ?_
  refine RT.g rfl rfl rfl (fun hg => ob_move (.inl rfl)) ?_
  refine RT.g rfl rfl rfl (fun hg => ob_ldN (cs := [_, _, _]) sz_api_Value (.inl rfl) rfl rfl) ?_
  refine RT.g rfl rfl rfl (fun hg => ob_callv (.inr ⟨_, rfl, fun h => h⟩) (fs := []) (cs := []) (c_p_expr_finder_logic_1 _ _ _) (.one (.inr ⟨_, rfl, fun h => h⟩) .nil)) ?_
  refine RT.t (ob_pickAnd rfl rfl rfl id) ?_
  refine RT.nil ?_
  refine FinS.nil0 ?_
  repeat (first | refine JX.next ?_ | refine JX.normal_block ?_)
  refine J.sel [0, 4, 5, 6, 7, 8, 23] (.cons rfl (.cons rfl (.cons rfl (.cons rfl (.cons rfl (.cons rfl (.cons rfl .nil))))))) ?_
  repeat refine J.seq ?_
  refine J.cond rfl (fun ht23 => ?_) (fun ht23 => ?_)
  ·
    try simp only [decide_eq_true_eq, decide_eq_false_iff_not] at ht23
    repeat refine J.seq ?_
    refine J.plain ?_
    refine JO.t (ob_move rfl) rfl ?_
    refine JO.md (obm_call rfl rfl (c_p_expr_finder_fail vals _ _ _ _ _) (by repeat (first | exact .here | apply Upd.there)) (by simp) (.one rfl .nil)) (by rfl) rfl ?_
    refine JO.m (obm_store rfl rfl (by repeat (first | exact .here | apply Upd.there)) (by first | exact cnt_is rfl rfl | exact cnt_ex) (by first | exact cnt_is rfl rfl | exact cnt_ex | exact cnt_aggO) ss_api_Value) (by rfl) ?_
    refine JO.nil ?_
    repeat (first | refine JX.next ?_ | refine JX.normal_block ?_)
    refine J.sel [6] (.cons rfl .nil) ?_
    repeat refine J.seq ?_
    refine J.ret ?_
    repeat (first | refine JX.ret_pass ?_ | refine JX.ret_block ?_)
    exact JX.retMCis rfl HasOwn.mem rfl sz_api_Value HasOwn.mem rfl (by first | (simp +decide only [logicF, *, ↓reduceIte] <;> rfl) | (simp_all [logicF]; done) | (simp only [logicF, logic2F, zero3, truthF, veqV, *, ↓reduceIte, Bool.false_eq_true]; done) | (simp_all [logicF, logic2F, zero3, truthF, veqV]; done) | (simp [logicF, logic2F, zero3, truthF, veqV, *]; done)) (by first | (simp +decide only [logicF, *, ↓reduceIte] <;> rfl) | (simp_all [logicF]; done) | (simp only [logicF, logic2F, zero3, truthF, veqV, *, ↓reduceIte, Bool.false_eq_true]; done) | (simp_all [logicF, logic2F, zero3, truthF, veqV]; done) | (simp [logicF, logic2F, zero3, truthF, veqV, *]; done))
  ·
    try simp only [decide_eq_true_eq, decide_eq_false_iff_not] at ht23
    refine J.skip ?_
    repeat (first | refine JX.next ?_ | refine JX.normal_block ?_)
    repeat refine J.seq ?_
    refine J.reg0 hmx (by kernel_rfl) (by kernel_rfl) ?_
    refine RT.t (ob_move rfl) ?_
    refine RT.t (ob_nilCheck rfl) ?_
    refine RT.t (ob_fieldAddr fo_expr_finder_1 rfl) ?_
    refine RT.t (ob_ld1 sz_api_Errno rfl rfl) ?_
    refine RT.t (ob_neq rfl rfl) ?_
    refine RT.t (ob_move rfl) ?_
    refine RT.g rfl rfl rfl (fun hg => ob_ldN (cs := [_, _, _]) sz_api_Value (.inl rfl) rfl rfl) ?_
    refine RT.g rfl rfl rfl (fun hg => ob_ldN (cs := [_, _, _]) sz_api_Value (.inl rfl) rfl rfl) ?_
    refine RT.g rfl rfl rfl (fun hg => ob_veq veq_api_Value (.inr ⟨_, rfl, fun h => h⟩) (.inr ⟨_, rfl, fun h => h⟩)) ?_
    refine RT.t (ob_pickOr rfl rfl rfl id) ?_
    refine RT.nil ?_
    refine FinS.nil0 ?_
    repeat (first | refine JX.next ?_ | refine JX.normal_block ?_)
    refine J.sel [0, 4, 5, 6, 7, 8, 35] (.cons rfl (.cons rfl (.cons rfl (.cons rfl (.cons rfl (.cons rfl (.cons rfl .nil))))))) ?_
    repeat refine J.seq ?_
    refine J.cond rfl (fun ht35 => ?_) (fun ht35 => ?_)
    ·
      try simp only [decide_eq_true_eq, decide_eq_false_iff_not] at ht35
      repeat refine J.seq ?_
      refine J.plain ?_
      refine JO.t (ob_ldN (cs := [_, _, _]) sz_api_Value rfl rfl rfl) rfl ?_
      refine JO.m (obm_store rfl rfl (by repeat (first | exact .here | apply Upd.there)) (by first | exact cnt_is rfl rfl | exact cnt_ex) (by first | exact cnt_is rfl rfl | exact cnt_ex | exact cnt_aggO) ss_api_Value) (by rfl) ?_
      refine JO.nil ?_
      repeat (first | refine JX.next ?_ | refine JX.normal_block ?_)
      refine J.sel [6] (.cons rfl .nil) ?_
      repeat refine J.seq ?_
      refine J.ret ?_
      repeat (first | refine JX.ret_pass ?_ | refine JX.ret_block ?_)
      exact JX.retMCis rfl HasOwn.mem rfl sz_api_Value HasOwn.mem rfl (by first | (simp +decide only [logicF, *, ↓reduceIte] <;> rfl) | (simp_all [logicF]; done) | (simp only [logicF, logic2F, zero3, truthF, veqV, *, ↓reduceIte, Bool.false_eq_true]; done) | (simp_all [logicF, logic2F, zero3, truthF, veqV]; done) | (simp [logicF, logic2F, zero3, truthF, veqV, *]; done)) (by first | (simp +decide only [logicF, *, ↓reduceIte] <;> rfl) | (simp_all [logicF]; done) | (simp only [logicF, logic2F, zero3, truthF, veqV, *, ↓reduceIte, Bool.false_eq_true]; done) | (simp_all [logicF, logic2F, zero3, truthF, veqV]; done) | (simp [logicF, logic2F, zero3, truthF, veqV, *]; done))
    ·
      try simp only [decide_eq_true_eq, decide_eq_false_iff_not] at ht35
      refine J.skip ?_
      repeat (first | refine JX.next ?_ | refine JX.normal_block ?_)
      repeat refine J.seq ?_
      refine J.plain ?_
      refine JO.t (ob_move rfl) rfl ?_
      refine JO.t (ob_fieldAddr fo_api_Expr_5 rfl) rfl ?_
      refine JO.t (ob_ld1 sz_sl_api_Expr rfl rfl) rfl ?_
      refine JO.t (ob_indexAddr el_sl_api_Expr rfl (ha (by omega)) rfl (by omega) (by omega)) rfl ?_
      refine JO.t (ob_loadKid (i := 1) sz_api_Expr rfl List.mem_cons_self (ha (by omega)) rfl rfl) rfl ?_
      refine JO.md (obm_call rfl rfl (hy vals _ _ _ _) (by repeat (first | exact .here | apply Upd.there)) (by simp) (.one rfl .nil)) (by rfl) rfl ?_
      refine JO.alloc zo_api_Value rfl fun b9 => ?_
      refine JO.m (obm_store rfl rfl (by repeat (first | exact .here | apply Upd.there)) (by first | exact cnt_is rfl rfl | exact cnt_ex) (by first | exact cnt_is rfl rfl | exact cnt_ex | exact cnt_aggO) ss_api_Value) (by rfl) ?_
      refine JO.nil ?_
      repeat (first | refine JX.next ?_ | refine JX.normal_block ?_)
      refine J.sel [0, 5, 6, 7, 8, 9] (.cons rfl (.cons rfl (.cons rfl (.cons rfl (.cons rfl (.cons rfl .nil)))))) ?_
      repeat refine J.seq ?_
      refine J.block ?_
      repeat refine J.seq ?_
      refine J.reg0 hmx (by kernel_rfl) (by kernel_rfl) ?_
      refine RT.t (ob_move rfl) ?_
      refine RT.t (ob_nilCheck rfl) ?_
      refine RT.t (ob_fieldAddr fo_expr_finder_1 rfl) ?_
      refine RT.t (ob_ld1 sz_api_Errno rfl rfl) ?_
      refine RT.t (ob_eql rfl rfl) ?_
      refine RT.t (ob_move rfl) ?_
      refine RT.g rfl rfl rfl (fun hg => ob_move (.inl rfl)) ?_
      refine RT.g rfl rfl rfl (fun hg => ob_ldN (cs := [_, _, _]) sz_api_Value (.inl rfl) rfl rfl) ?_
      refine RT.g rfl rfl rfl (fun hg => ob_callv (.inr ⟨_, rfl, fun h => h⟩) (fs := []) (cs := []) (c_p_expr_finder_logic_1 _ _ _) (.one (.inr ⟨_, rfl, fun h => h⟩) .nil)) ?_
      refine RT.t (ob_pickAnd rfl rfl rfl id) ?_
      refine RT.t (ob_assign rfl) ?_
      refine RT.nil ?_
      refine FinS.nil0 ?_
      repeat (first | refine JX.next ?_ | refine JX.normal_block ?_)
      refine J.sel [0, 5, 6, 7, 9, 43] (.cons rfl (.cons rfl (.cons rfl (.cons rfl (.cons rfl (.cons rfl .nil)))))) ?_
      repeat refine J.seq ?_
      refine J.cond rfl (fun ht43 => ?_) (fun ht43 => ?_)
      ·
        try simp only [decide_eq_true_eq, decide_eq_false_iff_not] at ht43
        repeat refine J.seq ?_
        refine J.plain ?_
        refine JO.t (ob_move rfl) rfl ?_
        refine JO.md (obm_call rfl rfl (c_p_expr_finder_fail vals _ _ _ _ _) (by repeat (first | exact .here | apply Upd.there)) (by simp) (.one rfl .nil)) (by rfl) rfl ?_
        refine JO.m (obm_store rfl rfl (by repeat (first | exact .here | apply Upd.there)) (by first | exact cnt_is rfl rfl | exact cnt_ex) (by first | exact cnt_is rfl rfl | exact cnt_ex | exact cnt_aggO) ss_api_Value) (by rfl) ?_
        refine JO.nil ?_
        repeat (first | refine JX.next ?_ | refine JX.normal_block ?_)
        refine J.sel [6] (.cons rfl .nil) ?_
        repeat refine J.seq ?_
        refine J.ret ?_
        repeat (first | refine JX.ret_pass ?_ | refine JX.ret_block ?_)
        exact JX.retMCis rfl HasOwn.mem rfl sz_api_Value HasOwn.mem rfl (by first | (simp +decide only [logicF, *, ↓reduceIte] <;> rfl) | (simp_all [logicF]; done) | (simp only [logicF, logic2F, zero3, truthF, veqV, *, ↓reduceIte, Bool.false_eq_true]; done) | (simp_all [logicF, logic2F, zero3, truthF, veqV]; done) | (simp [logicF, logic2F, zero3, truthF, veqV, *]; done)) (by first | (simp +decide only [logicF, *, ↓reduceIte] <;> rfl) | (simp_all [logicF]; done) | (simp only [logicF, logic2F, zero3, truthF, veqV, *, ↓reduceIte, Bool.false_eq_true]; done) | (simp_all [logicF, logic2F, zero3, truthF, veqV]; done) | (simp [logicF, logic2F, zero3, truthF, veqV, *]; done))
      ·
        try simp only [decide_eq_true_eq, decide_eq_false_iff_not] at ht43
        repeat refine J.seq ?_
        refine J.plain ?_
        refine JO.t (ob_ldN (cs := [_, _, _]) sz_api_Value rfl rfl rfl) rfl ?_
        refine JO.t (ob_ldN (cs := [_, _, _]) sz_api_Value rfl rfl rfl) rfl ?_
        refine JO.t (ob_veq veq_api_Value rfl rfl) rfl ?_
        refine JO.t (ob_assign rfl) rfl ?_
        refine JO.nil ?_
        repeat (first | refine JX.next ?_ | refine JX.normal_block ?_)
        refine J.sel [5, 6, 9, 56] (.cons rfl (.cons rfl (.cons rfl (.cons rfl .nil)))) ?_
        repeat refine J.seq ?_
        refine J.cond rfl (fun ht56 => ?_) (fun ht56 => ?_)
        ·
          try simp only [decide_eq_true_eq, decide_eq_false_iff_not] at ht56
          repeat refine J.seq ?_
          refine J.plain ?_
          refine JO.t (ob_ldN (cs := [_, _, _]) sz_api_Value rfl rfl rfl) rfl ?_
          refine JO.m (obm_store rfl rfl (by repeat (first | exact .here | apply Upd.there)) (by first | exact cnt_is rfl rfl | exact cnt_ex) (by first | exact cnt_is rfl rfl | exact cnt_ex | exact cnt_aggO) ss_api_Value) (by rfl) ?_
          refine JO.nil ?_
          repeat (first | refine JX.next ?_ | refine JX.normal_block ?_)
          refine J.sel [6] (.cons rfl .nil) ?_
          repeat refine J.seq ?_
          refine J.ret ?_
          repeat (first | refine JX.ret_pass ?_ | refine JX.ret_block ?_)
          exact JX.retMCis rfl HasOwn.mem rfl sz_api_Value HasOwn.mem rfl (by first | (simp +decide only [logicF, *, ↓reduceIte] <;> rfl) | (simp_all [logicF]; done) | (simp only [logicF, logic2F, zero3, truthF, veqV, *, ↓reduceIte, Bool.false_eq_true]; done) | (simp_all [logicF, logic2F, zero3, truthF, veqV]; done) | (simp [logicF, logic2F, zero3, truthF, veqV, *]; done)) (by first | (simp +decide only [logicF, *, ↓reduceIte] <;> rfl) | (simp_all [logicF]; done) | (simp only [logicF, logic2F, zero3, truthF, veqV, *, ↓reduceIte, Bool.false_eq_true]; done) | (simp_all [logicF, logic2F, zero3, truthF, veqV]; done) | (simp [logicF, logic2F, zero3, truthF, veqV, *]; done))
        ·
          try simp only [decide_eq_true_eq, decide_eq_false_iff_not] at ht56
          repeat refine J.seq ?_
          refine J.plain ?_
          refine JO.t (ob_fieldAddr fo_api_Value_0 rfl) rfl ?_
          refine JO.t (ob_ld1 sz_int rfl rfl) rfl ?_
          refine JO.t (ob_eql rfl rfl) rfl ?_
          refine JO.t (ob_assign rfl) rfl ?_
          refine JO.nil ?_
          repeat (first | refine JX.next ?_ | refine JX.normal_block ?_)
          refine J.sel [5, 6, 9, 61] (.cons rfl (.cons rfl (.cons rfl (.cons rfl .nil)))) ?_
          repeat refine J.seq ?_
          refine J.cond rfl (fun ht61 => ?_) (fun ht61 => ?_)
          ·
            try simp only [decide_eq_true_eq, decide_eq_false_iff_not] at ht61
            repeat refine J.seq ?_
            refine J.plain ?_
            refine JO.t (ob_ldN (cs := [_, _, _]) sz_api_Value rfl rfl rfl) rfl ?_
            refine JO.m (obm_store rfl rfl (by repeat (first | exact .here | apply Upd.there)) (by first | exact cnt_is rfl rfl | exact cnt_ex) (by first | exact cnt_is rfl rfl | exact cnt_ex | exact cnt_aggO) ss_api_Value) (by rfl) ?_
            refine JO.nil ?_
            repeat (first | refine JX.next ?_ | refine JX.normal_block ?_)
            refine J.sel [6] (.cons rfl .nil) ?_
            repeat refine J.seq ?_
            refine J.ret ?_
            repeat (first | refine JX.ret_pass ?_ | refine JX.ret_block ?_)
            exact JX.retMCis rfl HasOwn.mem rfl sz_api_Value HasOwn.mem rfl (by first | (simp +decide only [logicF, *, ↓reduceIte] <;> rfl) | (simp_all [logicF]; done) | (simp only [logicF, logic2F, zero3, truthF, veqV, *, ↓reduceIte, Bool.false_eq_true]; done) | (simp_all [logicF, logic2F, zero3, truthF, veqV]; done) | (simp [logicF, logic2F, zero3, truthF, veqV, *]; done)) (by first | (simp +decide only [logicF, *, ↓reduceIte] <;> rfl) | (simp_all [logicF]; done) | (simp only [logicF, logic2F, zero3, truthF, veqV, *, ↓reduceIte, Bool.false_eq_true]; done) | (simp_all [logicF, logic2F, zero3, truthF, veqV]; done) | (simp [logicF, logic2F, zero3, truthF, veqV, *]; done))
          ·
            try simp only [decide_eq_true_eq, decide_eq_false_iff_not] at ht61
            refine J.skip ?_
            repeat (first | refine JX.next ?_ | refine JX.normal_block ?_)
            repeat refine J.seq ?_
            refine J.plain ?_
            refine JO.t (ob_ldN (cs := [_, _, _]) sz_api_Value rfl rfl rfl) rfl ?_
            refine JO.m (obm_store rfl rfl (by repeat (first | exact .here | apply Upd.there)) (by first | exact cnt_is rfl rfl | exact cnt_ex) (by first | exact cnt_is rfl rfl | exact cnt_ex | exact cnt_aggO) ss_api_Value) (by rfl) ?_
            refine JO.nil ?_
            repeat (first | refine JX.next ?_ | refine JX.normal_block ?_)
            refine J.sel [6] (.cons rfl .nil) ?_
            repeat refine J.seq ?_
            refine J.ret ?_
            repeat (first | refine JX.ret_pass ?_ | refine JX.ret_block ?_)
            exact JX.retMCis rfl HasOwn.mem rfl sz_api_Value HasOwn.mem rfl (by first | (simp +decide only [logicF, *, ↓reduceIte] <;> rfl) | (simp_all [logicF]; done) | (simp only [logicF, logic2F, zero3, truthF, veqV, *, ↓reduceIte, Bool.false_eq_true]; done) | (simp_all [logicF, logic2F, zero3, truthF, veqV]; done) | (simp [logicF, logic2F, zero3, truthF, veqV, *]; done)) (by first | (simp +decide only [logicF, *, ↓reduceIte] <;> rfl) | (simp_all [logicF]; done) | (simp only [logicF, logic2F, zero3, truthF, veqV, *, ↓reduceIte, Bool.false_eq_true]; done) | (simp_all [logicF, logic2F, zero3, truthF, veqV]; done) | (simp [logicF, logic2F, zero3, truthF, veqV, *]; done))
end Go.Proofs.Ytjlojkchgfeenaa
