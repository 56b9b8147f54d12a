/- What the reference says an expression comes to. No condition. -/
import Derived.Test.YtjlojkchgfeenaaXD
import Derived.Test.YtjlojkchgfeenaaXG1
set_option maxRecDepth 20000
namespace Go.Proofs.Ytjlojkchgfeenaa
open Go Go.Vc
def cmpRF (k1 n1 : Int) (s1 : ByteArray) (k2 n2 : Int) (s2 : ByteArray) : Int := if (veq k1 n1 s1 k2 n2 s2) then 0 else cmp1F k1 n1 s1 k2 n2 s2
theorem c_ref01_Compare (k1 n1 : Int) (s1 : ByteArray) (k2 n2 : Int) (s2 : ByteArray) : CallTy Try.prog f_ref01_Compare [.is (.agg #[.int .i64 k1, .int .i64 n1, .string s1]), .is (.agg #[.int .i64 k2, .int .i64 n2, .string s2])] (.is (.int .i64 (cmpRF k1 n1 s1 k2 n2 s2))) :=
  CallTy.of (fn := Try.f43) Try.func43 (n := 41) rfl rfl rfl (fun _ _ => by kernel_rfl) fun E W => by
  repeat refine J.seq ?_
  refine J.plain ?_
  refine JO.box rfl rfl fun b2 => ?_
  refine JO.box rfl rfl fun b3 => ?_
  refine JO.t (ob_assign rfl) rfl ?_
  refine JO.nil ?_
  repeat (first | refine JX.next ?_ | refine JX.normal_block ?_)
  refine J.sel [2, 3] (.cons rfl (.cons rfl .nil)) ?_
  repeat refine J.seq ?_
  refine J.plain ?_
  refine JO.t (ob_ldN (cs := [_, _, _]) sz_api_Value rfl rfl rfl) rfl ?_
  refine JO.t (ob_ldN (cs := [_, _, _]) sz_api_Value rfl rfl rfl) rfl ?_
  refine JO.t (ob_veq veq_api_Value rfl rfl) rfl ?_
  refine JO.nil ?_
  repeat (first | refine JX.next ?_ | refine JX.normal_block ?_)
  refine J.sel [2, 3, 7] (.cons rfl (.cons rfl (.cons rfl .nil))) ?_
  repeat refine J.seq ?_
  refine J.cond rfl (fun ht7 => ?_) (fun ht7 => ?_)
  ·
    try simp only [decide_eq_true_eq, decide_eq_false_iff_not] at ht7
    repeat refine J.seq ?_
    refine J.plain ?_
    refine JO.t (ob_assign rfl) rfl ?_
    refine JO.nil ?_
    repeat (first | refine JX.next ?_ | refine JX.normal_block ?_)
    refine J.sel [4] (.cons rfl .nil) ?_
    repeat refine J.seq ?_
    refine J.ret ?_
    repeat (first | refine JX.ret_pass ?_ | refine JX.ret_block ?_)
    exact JX.ret1is rfl rfl (by first | (simp only [cmpRF, *, ↓reduceIte]; done) | exact congrArg (Value.int .i64) (by unfold cmpRF cmp1F; rw [if_neg (by simp [ht7])]; first | rw [if_pos (by simp only [Bool.and_assoc, Bool.or_assoc, Bool.and_or_distrib_left] at ht40 ⊢; exact ht40)] | rw [if_neg (by simp only [Bool.and_assoc, Bool.or_assoc, Bool.and_or_distrib_left] at ht40 ⊢; simp [ht40])]))
  ·
    try simp only [decide_eq_true_eq, decide_eq_false_iff_not] at ht7
    refine J.skip ?_
    repeat (first | refine JX.next ?_ | refine JX.normal_block ?_)
    repeat refine J.seq ?_
    refine J.reg0 hmx (by kernel_rfl) (by kernel_rfl) ?_
    refine RT.t (ob_fieldAddr fo_api_Value_0 rfl) ?_
    refine RT.t (ob_ld1 sz_int rfl rfl) ?_
    refine RT.t (ob_fieldAddr fo_api_Value_0 rfl) ?_
    refine RT.t (ob_ld1 sz_int rfl rfl) ?_
    refine RT.t (ob_lss rfl rfl) ?_
    refine RT.t (ob_move rfl) ?_
    refine RT.g rfl rfl rfl (fun hg => ob_fieldAddr fo_api_Value_0 (.inl rfl)) ?_
    refine RT.g rfl rfl rfl (fun hg => ob_ld1 sz_int (.inr ⟨_, rfl, fun h => h⟩) rfl) ?_
    refine RT.g rfl rfl rfl (fun hg => ob_fieldAddr fo_api_Value_0 (.inl rfl)) ?_
    refine RT.g rfl rfl rfl (fun hg => ob_ld1 sz_int (.inr ⟨_, rfl, fun h => h⟩) rfl) ?_
    refine RT.g rfl rfl rfl (fun hg => ob_eql (.inr ⟨_, rfl, fun h => h⟩) (.inr ⟨_, rfl, fun h => h⟩)) ?_
    refine RT.g rfl rfl rfl (fun hg => ob_move (.inr ⟨_, rfl, fun h => h⟩)) ?_
    refine RT.gg rfl rfl rfl (fun hg => (ob_fieldAddr fo_api_Value_1 (.inl rfl))) ?_
    refine RT.gg rfl rfl rfl (fun hg => (ob_ld1 sz_int64 (.inr ⟨_, rfl, fun h => h⟩) rfl)) ?_
    refine RT.gg rfl rfl rfl (fun hg => (ob_fieldAddr fo_api_Value_1 (.inl rfl))) ?_
    refine RT.gg rfl rfl rfl (fun hg => (ob_ld1 sz_int64 (.inr ⟨_, rfl, fun h => h⟩) rfl)) ?_
    refine RT.gg rfl rfl rfl (fun hg => (ob_lss (.inr ⟨_, rfl, fun h => h⟩) (.inr ⟨_, rfl, fun h => h⟩))) ?_
    refine RT.gg rfl rfl rfl (fun hg => (ob_move (.inr ⟨_, rfl, fun h => h⟩))) ?_
    refine RT.gg rfl rfl rfl (fun hg => (ob_fieldAddr fo_api_Value_1 (.inl rfl))) ?_
    refine RT.gg rfl rfl rfl (fun hg => (ob_ld1 sz_int64 (.inr ⟨_, rfl, fun h => h⟩) rfl)) ?_
    refine RT.gg rfl rfl rfl (fun hg => (ob_fieldAddr fo_api_Value_1 (.inl rfl))) ?_
    refine RT.gg rfl rfl rfl (fun hg => (ob_ld1 sz_int64 (.inr ⟨_, rfl, fun h => h⟩) rfl)) ?_
    refine RT.gg rfl rfl rfl (fun hg => (ob_eql (.inr ⟨_, rfl, fun h => h⟩) (.inr ⟨_, rfl, fun h => h⟩))) ?_
    refine RT.gg rfl rfl rfl (fun hg => (ob_move (.inr ⟨_, rfl, fun h => h⟩))) ?_
    refine RT.gg rfl rfl rfl (fun hg => (ob_fieldAddr fo_api_Value_2 (.inl rfl))) ?_
    refine RT.gg rfl rfl rfl (fun hg => (ob_ld1 sz_string (.inr ⟨_, rfl, fun h => h⟩) rfl)) ?_
    refine RT.gg rfl rfl rfl (fun hg => (ob_fieldAddr fo_api_Value_2 (.inl rfl))) ?_
    refine RT.gg rfl rfl rfl (fun hg => (ob_ld1 sz_string (.inr ⟨_, rfl, fun h => h⟩) rfl)) ?_
    refine RT.gg rfl rfl rfl (fun hg => (ob_slss (.inr ⟨_, rfl, fun h => h⟩) (.inr ⟨_, rfl, fun h => h⟩))) ?_
    refine RT.gg rfl rfl rfl (fun hg => (ob_pickAnd (.inr ⟨_, rfl, fun h => h⟩) (.inl rfl) (.inl rfl) (fun h => ⟨hg, h⟩))) ?_
    refine RT.gg rfl rfl rfl (fun hg => (ob_pickOr (.inr ⟨_, rfl, fun h => h⟩) (.inl rfl) (.inl rfl) (fun h => ⟨hg, h⟩))) ?_
    refine RT.g rfl rfl rfl (fun hg => ob_pickAnd (.inr ⟨_, rfl, fun h => h⟩) (.inl rfl) (.inl rfl) (fun h => ⟨hg, h⟩)) ?_
    refine RT.t (ob_pickOr rfl rfl rfl id) ?_
    refine RT.nil ?_
    refine FinS.nil0 ?_
    repeat (first | refine JX.next ?_ | refine JX.normal_block ?_)
    refine J.sel [40] (.cons rfl .nil) ?_
    repeat refine J.seq ?_
    refine J.cond rfl (fun ht40 => ?_) (fun ht40 => ?_)
    ·
      try simp only [decide_eq_true_eq, decide_eq_false_iff_not] at ht40
      repeat refine J.seq ?_
      refine J.plain ?_
      refine JO.t (ob_assign rfl) rfl ?_
      refine JO.nil ?_
      repeat (first | refine JX.next ?_ | refine JX.normal_block ?_)
      refine J.sel [4] (.cons rfl .nil) ?_
      repeat refine J.seq ?_
      refine J.ret ?_
      repeat (first | refine JX.ret_pass ?_ | refine JX.ret_block ?_)
      exact JX.ret1is rfl rfl (by first | (simp only [cmpRF, *, ↓reduceIte]; done) | exact congrArg (Value.int .i64) (by unfold cmpRF cmp1F; rw [if_neg (by simp [ht7])]; first | rw [if_pos (by simp only [Bool.and_assoc, Bool.or_assoc, Bool.and_or_distrib_left] at ht40 ⊢; exact ht40)] | rw [if_neg (by simp only [Bool.and_assoc, Bool.or_assoc, Bool.and_or_distrib_left] at ht40 ⊢; simp [ht40])]))
    ·
      try simp only [decide_eq_true_eq, decide_eq_false_iff_not] at ht40
      refine J.skip ?_
      repeat (first | refine JX.next ?_ | refine JX.normal_block ?_)
      repeat refine J.seq ?_
      refine J.plain ?_
      refine JO.t (ob_assign rfl) rfl ?_
      refine JO.nil ?_
      repeat (first | refine JX.next ?_ | refine JX.normal_block ?_)
      refine J.sel [4] (.cons rfl .nil) ?_
      repeat refine J.seq ?_
      refine J.ret ?_
      repeat (first | refine JX.ret_pass ?_ | refine JX.ret_block ?_)
      exact JX.ret1is rfl rfl (by first | (simp only [cmpRF, *, ↓reduceIte]; done) | exact congrArg (Value.int .i64) (by unfold cmpRF cmp1F; rw [if_neg (by simp [ht7])]; first | rw [if_pos (by simp only [Bool.and_assoc, Bool.or_assoc, Bool.and_or_distrib_left] at ht40 ⊢; exact ht40)] | rw [if_neg (by simp only [Bool.and_assoc, Bool.or_assoc, Bool.and_or_distrib_left] at ht40 ⊢; simp [ht40])]))
theorem signedF_rng (u : Int) (b : Bool) : I64 (signedF u b).1 := by unfold signedF; split <;> exact wrap_rng _
theorem addF_rng (a b : Int) : I64 (addF a b).1 := by
  unfold addF
  split
  · split
    · exact ⟨by decide, by decide⟩
    · exact signedF_rng _ _
  · exact wrap_rng _
theorem mulF_rng (a b : Int) : I64 (mulF a b).1 := by
  unfold mulF
  split
  · exact ⟨by decide, by decide⟩
  · exact signedF_rng _ _
def finR (n : Int) (ok : Bool) : V3 × Int := if !ok then (zero3, 35) else (⟨1, n, ⟨#[]⟩⟩, 0)
def quoF (a b : Int) : Int × Bool := signedF (IntKind.u64.wrap ((sizeF a).tdiv (sizeF b))) (!(decide (a < 0) == decide (b < 0)))
def remF (a b : Int) : Int × Bool := signedF ((sizeF a).tmod (sizeF b)) (decide (a < 0))
def refNumF (k a b : Int) : V3 × Int :=
  if (k == 5) then finR (addF a b).1 (addF a b).2
  else if (k == 6) then (if (b == -9223372036854775808) then finR (IntKind.i64.wrap (a - b)) (decide (a < 0)) else finR (addF a (IntKind.i64.wrap (0 - b))).1 (addF a (IntKind.i64.wrap (0 - b))).2)
  else if (k == 7) then finR (mulF a b).1 (mulF a b).2
  else if (k == 8 || k == 9) then (if (b == 0) then (zero3, 36) else if (k == 9) then finR (remF a b).1 true else finR (quoF a b).1 (quoF a b).2)
  else finR 0 true
def refOneF (k : Int) (r : V3 × Int) : V3 × Int :=
  if (r.2 != 0) then (zero3, r.2)
  else if (k == 18 || k == 19) then (truthF ((r.1.k == 0) == (k == 18)), 0)
  else if (r.1.k == 0) then (r.1, 0)
  else if (k == 4 && r.1.k == 2) then (truthF (r.1.n == 0), 0)
  else if (k == 3 && r.1.k == 1) then refNumF 6 0 r.1.n
  else (zero3, 33)
def refLgo (k : Int) (A : Nat → V3 × Int) : Nat → Nat → Bool → V3 × Int
  | 0, _, nl => if nl then (zero3, 0) else (truthF (k == 16), 0)
  | m + 1, i, nl => if ((A i).2 != 0) then (zero3, (A i).2) else if ((A i).1.k != 0 && (A i).1.k != 2) then (zero3, 33)
    else if (veqV (A i).1 (truthF (k == 17))) then (truthF (k == 17), 0) else refLgo k A m (i + 1) (nl || ((A i).1.k == 0))
def refTwoF (k : Int) (a b : V3 × Int) : V3 × Int :=
  if (a.2 != 0) then (zero3, a.2) else if (b.2 != 0) then (zero3, b.2)
  else if decide (k ≤ 9) then
    (if ((a.1.k != 0 && a.1.k != 1) || (b.1.k != 0 && b.1.k != 1)) then (zero3, 33) else if ((a.1.k == 0) || (b.1.k == 0)) then (zero3, 0) else refNumF k a.1.n b.1.n)
  else if ((a.1.k == 0) || (b.1.k == 0)) then (zero3, 0)
  else if (a.1.k != b.1.k) then (zero3, 33)
  else (truthF (opsF k (cmpRF a.1.k a.1.n a.1.s b.1.k b.1.n b.1.s)), 0)
def refTopF (vals : List V3) (k : Int) (v : V3) (sl : Int) (n : Int) (A : Nat → V3 × Int) : V3 × Int :=
  if ((k == 1 && n == 0) && ok1F v.k v.n v.s) then (v, 0)
  else if (k == 2 && n == 0) then (zero3, 32)
  else if ((((k == 24 && n == 0) && decide (0 ≤ sl)) && decide (sl < vals.length)) && ok1F (v3at vals sl).k (v3at vals sl).n (v3at vals sl).s) then (v3at vals sl, 0)
  else if (n == 1 && (((k == 3 || k == 4) || k == 18) || k == 19)) then refOneF k (A 0)
  else if (n == 2 && (k == 16 || k == 17)) then refLgo k A 2 0 false
  else if ((n != 2 || decide (k < 5)) || decide (15 < k)) then (zero3, 1)
  else refTwoF k (A 0) (A 1)
mutual
def refF (vals : List V3) : Ex → V3 × Int
  | .mk k vk vn vs _ _ sl kids => refTopF vals k ⟨vk, vn, vs⟩ sl kids.length fun i => (refsF vals kids).getD i (zero3, 0)
def refsF (vals : List V3) : List Ex → List (V3 × Int)
  | [] => []
  | x :: xs => refF vals x :: refsF vals xs
end
def exD : Ex := .mk 0 0 0 ⟨#[]⟩ ⟨#[]⟩ ⟨#[]⟩ 0 []
def refAt (vals : List V3) (kids : List Ex) (i : Nat) : V3 × Int := (refsF vals kids).getD i (zero3, 0)
theorem refAt_get (vals : List V3) : ∀ (kids : List Ex) (i : Nat), i < kids.length → refAt vals kids i = refF vals (kids.getD i exD)
  | [], _, h => by simp at h
  | x :: xs, 0, _ => by simp [refAt, refsF]
  | x :: xs, i + 1, h => by
    have := refAt_get vals xs i (by simpa using h)
    simpa [refAt, refsF] using this
theorem kid_get {kids : List Ex} {i : Nat} (h : i < kids.length) : kids[i]? = some (kids.getD i exD) := by simp [h]
theorem kid_mem {kids : List Ex} {i : Nat} (h : i < kids.length) : kids.getD i exD ∈ kids := by simp [h]
def RefOK (x : Ex) : Prop := ∀ (vals : List V3), (∀ v ∈ vals, v.rng) → CallTy Try.prog f_ref12_Eval [.rep (ExR x), .rep (RowS vals)] (.tup2 (.is (vv (refF vals x).1)) (.is (.int .i64 (refF vals x).2)))
theorem zero3_rng : zero3.rng := ⟨⟨by decide, by decide⟩, by decide, by decide⟩
theorem truthF_rng (b : Bool) : (truthF b).rng := by cases b <;> exact ⟨⟨by decide, by decide⟩, by decide, by decide⟩
theorem rng_ite {c : Prop} [Decidable c] {a b : V3 × Int} (ha : a.1.rng) (hb : b.1.rng) : (if c then a else b).1.rng := by split <;> assumption
theorem finR_rng {n : Int} {ok : Bool} (h : I64 n) : (finR n ok).1.rng := by
  unfold finR
  split
  · exact zero3_rng
  · exact ⟨⟨by show (-9223372036854775808 : Int) ≤ 1; decide, by show (1 : Int) < 9223372036854775808; decide⟩, h⟩
theorem refNumF_rng (k a b : Int) : (refNumF k a b).1.rng := by
  unfold refNumF
  repeat' split
  all_goals first | exact zero3_rng | exact finR_rng (addF_rng _ _) | exact finR_rng (mulF_rng _ _) | exact finR_rng (wrap_rng _) | exact finR_rng (signedF_rng _ _) | exact finR_rng ⟨by decide, by decide⟩
theorem refLgo_rng (k : Int) (A : Nat → V3 × Int) : ∀ m i nl, (refLgo k A m i nl).1.rng
  | 0, _, _ => by unfold refLgo; split <;> first | exact zero3_rng | exact truthF_rng _
  | m + 1, i, nl => by
    unfold refLgo
    repeat' split
    all_goals first | exact zero3_rng | exact truthF_rng _ | exact refLgo_rng k A m _ _
theorem v3at_rng {vals : List V3} (h : ∀ v ∈ vals, v.rng) (sl : Int) : (v3at vals sl).rng := by
  unfold v3at
  by_cases hl : sl.toNat < vals.length
  · rw [List.getD_eq_getElem?_getD, List.getElem?_eq_getElem hl]; exact h _ (List.getElem_mem hl)
  · rw [List.getD_eq_getElem?_getD, List.getElem?_eq_none (by omega)]; exact zero3_rng
theorem refTopF_rng {vals : List V3} (h : ∀ v ∈ vals, v.rng) {k : Int} {v : V3} (hv : v.rng) {sl n : Int} {A : Nat → V3 × Int} (hA : (A 0).1.rng) : (refTopF vals k v sl n A).1.rng := by
  unfold refTopF refOneF refTwoF
  repeat' (with_reducible apply rng_ite)
  all_goals first | exact zero3_rng | exact truthF_rng _ | exact hv | exact v3at_rng h sl | exact hA | exact refLgo_rng _ _ _ _ _ | exact refNumF_rng _ _ _
mutual
theorem refF_rng {vals : List V3} (h : ∀ v ∈ vals, v.rng) : ∀ x : Ex, exRng x → (refF vals x).1.rng
  | .mk k vk vn vs tb nm sl kids, hx => by
    rw [exRng] at hx
    rw [refF]
    exact refTopF_rng h ⟨hx.2.1, hx.2.2.1⟩ (refsF_rng h kids hx.2.2.2.2 0)
theorem refsF_rng {vals : List V3} (h : ∀ v ∈ vals, v.rng) : ∀ kids : List Ex, exsRng kids → ∀ i, ((refsF vals kids).getD i (zero3, 0)).1.rng
  | [], _, i => by rw [refsF]; exact zero3_rng
  | x :: xs, hx, i => by
    rw [exsRng] at hx
    rw [refsF]
    match i with
    | 0 => exact refF_rng h x hx.1
    | i + 1 => exact refsF_rng h xs hx.2 i
end
theorem sizeF_eq {b : Int} (h : I64 b) : sizeF b = b.natAbs := by
  obtain ⟨h1, h2⟩ := h
  unfold sizeF
  simp only [w64, wu64]
  split <;> omega
theorem sizeF_ne {b : Int} (h : I64 b) (hb : (b == 0) = false) : sizeF b ≠ 0 := by
  rw [sizeF_eq h]
  simp at hb
  omega
theorem c_ref12_add (a b : Int) : CallTy Try.prog f_ref12_add [.is (.int .i64 a), .is (.int .i64 b)] (.tup2 (.is (.int .i64 (addF a b).1)) (.is (.bool (addF a b).2))) :=
  CallTy.of (fn := Try.f62) Try.func62 (n := 40) rfl rfl rfl (fun _ _ => by kernel_rfl) fun E W => by
  repeat refine J.seq ?_
  refine J.plain ?_
  refine JO.t (ob_assign rfl) rfl ?_
  refine JO.t (ob_assign rfl) rfl ?_
  refine JO.nil ?_
  repeat (first | refine JX.next ?_ | refine JX.normal_block ?_)
  refine J.sel [0, 1] (.cons rfl (.cons rfl .nil)) ?_
  repeat refine J.seq ?_
  refine J.plain ?_
  refine JO.t (ob_move rfl) rfl ?_
  refine JO.t (ob_lss rfl rfl) rfl ?_
  refine JO.t (ob_move rfl) rfl ?_
  refine JO.t (ob_lss rfl rfl) rfl ?_
  refine JO.t (ob_beql un_bool rfl rfl) rfl ?_
  refine JO.nil ?_
  repeat (first | refine JX.next ?_ | refine JX.normal_block ?_)
  refine J.sel [0, 1, 12] (.cons rfl (.cons rfl (.cons rfl .nil))) ?_
  repeat refine J.seq ?_
  refine J.cond rfl (fun ht12 => ?_) (fun ht12 => ?_)
  ·
    try simp only [decide_eq_true_eq, decide_eq_false_iff_not] at ht12
    repeat refine J.seq ?_
    refine J.plain ?_
    refine JO.t (ob_move rfl) rfl ?_
    refine JO.t (ob_call rfl (c_ref12_size _) (.one rfl .nil)) rfl ?_
    refine JO.t (ob_assign rfl) rfl ?_
    refine JO.nil ?_
    repeat (first | refine JX.next ?_ | refine JX.normal_block ?_)
    refine J.sel [0, 1, 6] (.cons rfl (.cons rfl (.cons rfl .nil))) ?_
    repeat refine J.seq ?_
    refine J.plain ?_
    refine JO.t (ob_move rfl) rfl ?_
    refine JO.t (ob_call rfl (c_ref12_size _) (.one rfl .nil)) rfl ?_
    refine JO.t (ob_assign rfl) rfl ?_
    refine JO.nil ?_
    repeat (first | refine JX.next ?_ | refine JX.normal_block ?_)
    refine J.sel [0, 6, 7] (.cons rfl (.cons rfl (.cons rfl .nil))) ?_
    repeat refine J.seq ?_
    refine J.reg0 hmx (by kernel_rfl) (by kernel_rfl) ?_
    refine RT.t (ob_move rfl) ?_
    refine RT.t (ob_move rfl) ?_
    refine RT.t (ob_sub rfl rfl) ?_
    refine RT.t (ob_gtr rfl rfl) ?_
    refine RT.t (ob_move rfl) ?_
    refine RT.g rfl rfl rfl (fun hg => ob_move (.inl rfl)) ?_
    refine RT.g rfl rfl rfl (fun hg => ob_gtr (.inr ⟨_, rfl, fun h => h⟩) (.inl rfl)) ?_
    refine RT.t (ob_pickAnd rfl rfl rfl id) ?_
    refine RT.t (ob_move rfl) ?_
    refine RT.g rfl rfl rfl (fun hg => ob_move (.inl rfl)) ?_
    refine RT.g rfl rfl rfl (fun hg => ob_gtr (.inr ⟨_, rfl, fun h => h⟩) (.inl rfl)) ?_
    refine RT.t (ob_pickAnd rfl rfl rfl id) ?_
    refine RT.nil ?_
    refine FinS.nil0 ?_
    repeat (first | refine JX.next ?_ | refine JX.normal_block ?_)
    refine J.sel [0, 6, 7, 28] (.cons rfl (.cons rfl (.cons rfl (.cons rfl .nil)))) ?_
    repeat refine J.seq ?_
    refine J.cond rfl (fun ht28 => ?_) (fun ht28 => ?_)
    ·
      try simp only [decide_eq_true_eq, decide_eq_false_iff_not] at ht28
      repeat refine J.seq ?_
      refine J.plain ?_
      refine JO.t (ob_assign rfl) rfl ?_
      refine JO.t (ob_assign rfl) rfl ?_
      refine JO.nil ?_
      repeat (first | refine JX.next ?_ | refine JX.normal_block ?_)
      refine J.sel [4, 5] (.cons rfl (.cons rfl .nil)) ?_
      repeat refine J.seq ?_
      refine J.ret ?_
      repeat (first | refine JX.ret_pass ?_ | refine JX.ret_block ?_)
      exact JX.ret2is rfl rfl rfl (by first | (simp +decide only [addF, *, ↓reduceIte] <;> rfl) | (simp_all [addF]; done) | (simp only [addF, *, ↓reduceIte, Bool.false_eq_true]; done) | (simp_all [addF]; done) | (simp [addF, *]; done)) (by first | (simp +decide only [addF, *, ↓reduceIte] <;> rfl) | (simp_all [addF]; done) | (simp only [addF, *, ↓reduceIte, Bool.false_eq_true]; done) | (simp_all [addF]; done) | (simp [addF, *]; done))
    ·
      try simp only [decide_eq_true_eq, decide_eq_false_iff_not] at ht28
      refine J.skip ?_
      repeat (first | refine JX.next ?_ | refine JX.normal_block ?_)
      repeat refine J.seq ?_
      refine J.plain ?_
      refine JO.t (ob_move rfl) rfl ?_
      refine JO.t (ob_move rfl) rfl ?_
      refine JO.t (ob_add rfl rfl) rfl ?_
      refine JO.t (ob_move rfl) rfl ?_
      refine JO.t (ob_lss rfl rfl) rfl ?_
      refine JO.t (ob_call rfl (c_ref12_signed _ _) (.one rfl (.one rfl .nil))) rfl ?_
      refine JO.t (ob_extract0 rfl) rfl ?_
      refine JO.t (ob_extract1 rfl) rfl ?_
      refine JO.t (ob_assign rfl) rfl ?_
      refine JO.t (ob_assign rfl) rfl ?_
      refine JO.nil ?_
      repeat (first | refine JX.next ?_ | refine JX.normal_block ?_)
      refine J.sel [4, 5] (.cons rfl (.cons rfl .nil)) ?_
      repeat refine J.seq ?_
      refine J.ret ?_
      repeat (first | refine JX.ret_pass ?_ | refine JX.ret_block ?_)
      exact JX.ret2is rfl rfl rfl (by first | (simp +decide only [addF, *, ↓reduceIte] <;> rfl) | (simp_all [addF]; done) | (simp only [addF, *, ↓reduceIte, Bool.false_eq_true]; done) | (simp_all [addF]; done) | (simp [addF, *]; done)) (by first | (simp +decide only [addF, *, ↓reduceIte] <;> rfl) | (simp_all [addF]; done) | (simp only [addF, *, ↓reduceIte, Bool.false_eq_true]; done) | (simp_all [addF]; done) | (simp [addF, *]; done))
  ·
    try simp only [decide_eq_true_eq, decide_eq_false_iff_not] at ht12
    refine J.skip ?_
    repeat (first | refine JX.next ?_ | refine JX.normal_block ?_)
    repeat refine J.seq ?_
    refine J.plain ?_
    refine JO.t (ob_move rfl) rfl ?_
    refine JO.t (ob_move rfl) rfl ?_
    refine JO.t (ob_add rfl rfl) rfl ?_
    refine JO.t (ob_assign rfl) rfl ?_
    refine JO.t (ob_assign rfl) rfl ?_
    refine JO.nil ?_
    repeat (first | refine JX.next ?_ | refine JX.normal_block ?_)
    refine J.sel [4, 5] (.cons rfl (.cons rfl .nil)) ?_
    repeat refine J.seq ?_
    refine J.ret ?_
    repeat (first | refine JX.ret_pass ?_ | refine JX.ret_block ?_)
    exact JX.ret2is rfl rfl rfl (by first | (simp +decide only [addF, *, ↓reduceIte] <;> rfl) | (simp_all [addF]; done) | (simp only [addF, *, ↓reduceIte, Bool.false_eq_true]; done) | (simp_all [addF]; done) | (simp [addF, *]; done)) (by first | (simp +decide only [addF, *, ↓reduceIte] <;> rfl) | (simp_all [addF]; done) | (simp only [addF, *, ↓reduceIte, Bool.false_eq_true]; done) | (simp_all [addF]; done) | (simp [addF, *]; done))
theorem c_ref12_mul (a b : Int) : CallTy Try.prog f_ref12_mul [.is (.int .i64 a), .is (.int .i64 b)] (.tup2 (.is (.int .i64 (mulF a b).1)) (.is (.bool (mulF a b).2))) :=
  CallTy.of (fn := Try.f63) Try.func63 (n := 31) rfl rfl rfl (fun _ _ => by kernel_rfl) fun E W => by
  repeat refine J.seq ?_
  refine J.plain ?_
  refine JO.t (ob_assign rfl) rfl ?_
  refine JO.t (ob_assign rfl) rfl ?_
  refine JO.nil ?_
  repeat (first | refine JX.next ?_ | refine JX.normal_block ?_)
  refine J.sel [0, 1] (.cons rfl (.cons rfl .nil)) ?_
  repeat refine J.seq ?_
  refine J.plain ?_
  refine JO.t (ob_move rfl) rfl ?_
  refine JO.t (ob_call rfl (c_ref12_size _) (.one rfl .nil)) rfl ?_
  refine JO.t (ob_assign rfl) rfl ?_
  refine JO.nil ?_
  repeat (first | refine JX.next ?_ | refine JX.normal_block ?_)
  refine J.sel [0, 1, 6] (.cons rfl (.cons rfl (.cons rfl .nil))) ?_
  repeat refine J.seq ?_
  refine J.plain ?_
  refine JO.t (ob_move rfl) rfl ?_
  refine JO.t (ob_call rfl (c_ref12_size _) (.one rfl .nil)) rfl ?_
  refine JO.t (ob_assign rfl) rfl ?_
  refine JO.nil ?_
  repeat (first | refine JX.next ?_ | refine JX.normal_block ?_)
  refine J.sel [0, 1, 6, 7] (.cons rfl (.cons rfl (.cons rfl (.cons rfl .nil)))) ?_
  repeat refine J.seq ?_
  refine J.reg0 hmx (by kernel_rfl) (by kernel_rfl) ?_
  refine RT.t (ob_move rfl) ?_
  refine RT.t (ob_gtr rfl rfl) ?_
  refine RT.t (ob_move rfl) ?_
  refine RT.g rfl rfl rfl (fun hg => ob_move (.inl rfl)) ?_
  refine RT.g rfl rfl rfl (fun hg => ob_move (.inl rfl)) ?_
  refine RT.g rfl rfl rfl (fun hg => ob_quo (.inl rfl) (.inr ⟨_, rfl, fun h => h⟩) (by first | decide | (simp at hg; omega) | simp_all)) ?_
  refine RT.g rfl rfl rfl (fun hg => ob_gtr (.inr ⟨_, rfl, fun h => h⟩) (.inr ⟨_, rfl, fun h => h⟩)) ?_
  refine RT.t (ob_pickAnd rfl rfl rfl id) ?_
  refine RT.nil ?_
  refine FinS.nil0 ?_
  repeat (first | refine JX.next ?_ | refine JX.normal_block ?_)
  refine J.sel [0, 1, 6, 7, 19] (.cons rfl (.cons rfl (.cons rfl (.cons rfl (.cons rfl .nil))))) ?_
  repeat refine J.seq ?_
  refine J.cond rfl (fun ht19 => ?_) (fun ht19 => ?_)
  ·
    try simp only [decide_eq_true_eq, decide_eq_false_iff_not] at ht19
    repeat refine J.seq ?_
    refine J.plain ?_
    refine JO.t (ob_assign rfl) rfl ?_
    refine JO.t (ob_assign rfl) rfl ?_
    refine JO.nil ?_
    repeat (first | refine JX.next ?_ | refine JX.normal_block ?_)
    refine J.sel [4, 5] (.cons rfl (.cons rfl .nil)) ?_
    repeat refine J.seq ?_
    refine J.ret ?_
    repeat (first | refine JX.ret_pass ?_ | refine JX.ret_block ?_)
    exact JX.ret2is rfl rfl rfl (by first | (simp +decide only [mulF, *, ↓reduceIte] <;> rfl) | (simp_all [mulF]; done) | (simp only [mulF, *, ↓reduceIte, Bool.false_eq_true]; done) | (simp_all [mulF]; done) | (simp [mulF, *]; done)) (by first | (simp +decide only [mulF, *, ↓reduceIte] <;> rfl) | (simp_all [mulF]; done) | (simp only [mulF, *, ↓reduceIte, Bool.false_eq_true]; done) | (simp_all [mulF]; done) | (simp [mulF, *]; done))
  ·
    try simp only [decide_eq_true_eq, decide_eq_false_iff_not] at ht19
    refine J.skip ?_
    repeat (first | refine JX.next ?_ | refine JX.normal_block ?_)
    repeat refine J.seq ?_
    refine J.plain ?_
    refine JO.t (ob_move rfl) rfl ?_
    refine JO.t (ob_move rfl) rfl ?_
    refine JO.t (ob_mul rfl rfl) rfl ?_
    refine JO.t (ob_move rfl) rfl ?_
    refine JO.t (ob_lss rfl rfl) rfl ?_
    refine JO.t (ob_move rfl) rfl ?_
    refine JO.t (ob_lss rfl rfl) rfl ?_
    refine JO.t (ob_bneq un_bool rfl rfl) rfl ?_
    refine JO.t (ob_call rfl (c_ref12_signed _ _) (.one rfl (.one rfl .nil))) rfl ?_
    refine JO.t (ob_extract0 rfl) rfl ?_
    refine JO.t (ob_extract1 rfl) rfl ?_
    refine JO.t (ob_assign rfl) rfl ?_
    refine JO.t (ob_assign rfl) rfl ?_
    refine JO.nil ?_
    repeat (first | refine JX.next ?_ | refine JX.normal_block ?_)
    refine J.sel [4, 5] (.cons rfl (.cons rfl .nil)) ?_
    repeat refine J.seq ?_
    refine J.ret ?_
    repeat (first | refine JX.ret_pass ?_ | refine JX.ret_block ?_)
    exact JX.ret2is rfl rfl rfl (by first | (simp +decide only [mulF, *, ↓reduceIte] <;> rfl) | (simp_all [mulF]; done) | (simp only [mulF, *, ↓reduceIte, Bool.false_eq_true]; done) | (simp_all [mulF]; done) | (simp [mulF, *]; done)) (by first | (simp +decide only [mulF, *, ↓reduceIte] <;> rfl) | (simp_all [mulF]; done) | (simp only [mulF, *, ↓reduceIte, Bool.false_eq_true]; done) | (simp_all [mulF]; done) | (simp [mulF, *]; done))
theorem c_ref12_number (k a b : Int) (hb : I64 b) : CallTy Try.prog f_ref12_number [.is (.int .i64 k), .is (.int .i64 a), .is (.int .i64 b)] (.tup2 (.is (vv (refNumF k a b).1)) (.is (.int .i64 (refNumF k a b).2))) :=
  CallTy.of (fn := Try.f42) Try.func42 (n := 85) rfl rfl rfl (fun _ _ => by kernel_rfl) fun E W => by
  repeat refine J.seq ?_
  refine J.plain ?_
  refine JO.alloc zo_api_Value rfl fun b6 => ?_
  refine JO.t (ob_assign rfl) rfl ?_
  refine JO.nil ?_
  repeat (first | refine JX.next ?_ | refine JX.normal_block ?_)
  refine J.sel [0, 1, 2, 6] (.cons rfl (.cons rfl (.cons rfl (.cons rfl .nil)))) ?_
  repeat refine J.seq ?_
  refine J.plain ?_
  refine JO.t (ob_assign rfl) rfl ?_
  refine JO.nil ?_
  repeat (first | refine JX.next ?_ | refine JX.normal_block ?_)
  refine J.sel [0, 1, 2, 6, 8] (.cons rfl (.cons rfl (.cons rfl (.cons rfl (.cons rfl .nil))))) ?_
  repeat refine J.seq ?_
  refine J.plain ?_
  refine JO.t (ob_assign rfl) rfl ?_
  refine JO.nil ?_
  repeat (first | refine JX.next ?_ | refine JX.normal_block ?_)
  refine J.sel [0, 1, 2, 6, 8, 9] (.cons rfl (.cons rfl (.cons rfl (.cons rfl (.cons rfl (.cons rfl .nil)))))) ?_
  repeat refine J.seq ?_
  refine J.plain ?_
  refine JO.t (ob_move rfl) rfl ?_
  refine JO.nil ?_
  repeat (first | refine JX.next ?_ | refine JX.normal_block ?_)
  refine J.sel [0, 1, 2, 6, 8, 9, 12] (.cons rfl (.cons rfl (.cons rfl (.cons rfl (.cons rfl (.cons rfl (.cons rfl .nil))))))) ?_
  repeat refine J.seq ?_
  refine J.block ?_
  repeat refine J.seq ?_
  refine J.plain ?_
  refine JO.t (ob_eql rfl rfl) rfl ?_
  refine JO.t (ob_assign rfl) rfl ?_
  refine JO.nil ?_
  repeat (first | refine JX.next ?_ | refine JX.normal_block ?_)
  refine J.sel [0, 1, 2, 6, 8, 9, 12, 13] (.cons rfl (.cons rfl (.cons rfl (.cons rfl (.cons rfl (.cons rfl (.cons rfl (.cons rfl .nil)))))))) ?_
  repeat refine J.seq ?_
  refine J.cond rfl (fun ht13 => ?_) (fun ht13 => ?_)
  ·
    try simp only [decide_eq_true_eq, decide_eq_false_iff_not] at ht13
    repeat refine J.seq ?_
    refine J.plain ?_
    refine JO.t (ob_move rfl) rfl ?_
    refine JO.t (ob_move rfl) rfl ?_
    refine JO.t (ob_call rfl (c_ref12_add _ _) (.one rfl (.one rfl .nil))) rfl ?_
    refine JO.t (ob_move rfl) rfl ?_
    refine JO.t (ob_extract0 rfl) rfl ?_
    refine JO.t (ob_extract1 rfl) rfl ?_
    refine JO.t (ob_assign rfl) rfl ?_
    refine JO.t (ob_assign rfl) rfl ?_
    refine JO.nil ?_
    repeat (first | refine JX.next ?_ | refine JX.normal_block ?_)
    refine J.sel [6, 8, 9] (.cons rfl (.cons rfl (.cons rfl .nil))) ?_
    repeat refine J.seq ?_
    refine J.plain ?_
    refine JO.t (ob_move rfl) rfl ?_
    refine JO.t (ob_not rfl) rfl ?_
    refine JO.nil ?_
    repeat (first | refine JX.next ?_ | refine JX.normal_block ?_)
    refine J.sel [6, 8, 81] (.cons rfl (.cons rfl (.cons rfl .nil))) ?_
    repeat refine J.seq ?_
    refine J.cond rfl (fun ht81 => ?_) (fun ht81 => ?_)
    ·
      try simp only [decide_eq_true_eq, decide_eq_false_iff_not] at ht81
      repeat refine J.seq ?_
      refine J.plain ?_
      refine JO.t (ob_build (cs := [_, _, _]) sh_api_Value .nil rfl rfl) rfl ?_
      refine JO.m (obm_store rfl rfl (by repeat (first | exact .here | apply Upd.there)) (by first | exact cnt_is rfl rfl | exact cnt_ex) (by first | exact cnt_is rfl rfl | exact cnt_ex | exact cnt_aggO) ss_api_Value) (by rfl) ?_
      refine JO.t (ob_assign rfl) rfl ?_
      refine JO.nil ?_
      repeat (first | refine JX.next ?_ | refine JX.normal_block ?_)
      refine J.sel [6, 7] (.cons rfl (.cons rfl .nil)) ?_
      repeat refine J.seq ?_
      refine J.ret ?_
      repeat (first | refine JX.ret_pass ?_ | refine JX.ret_block ?_)
      exact JX.retC1is rfl rfl sz_api_Value HasOwn.mem rfl rfl (by first | (simp +decide only [refNumF, *, ↓reduceIte] <;> rfl) | (simp_all [refNumF]; done) | (simp only [refNumF, finR, zero3, quoF, remF, *, ↓reduceIte, Bool.false_eq_true]; done) | (simp_all [refNumF, finR, zero3, quoF, remF]; done) | (simp [refNumF, finR, zero3, quoF, remF, *]; done)) (by first | (simp +decide only [refNumF, *, ↓reduceIte] <;> rfl) | (simp_all [refNumF]; done) | (simp only [refNumF, finR, zero3, quoF, remF, *, ↓reduceIte, Bool.false_eq_true]; done) | (simp_all [refNumF, finR, zero3, quoF, remF]; done) | (simp [refNumF, finR, zero3, quoF, remF, *]; done))
    ·
      try simp only [decide_eq_true_eq, decide_eq_false_iff_not] at ht81
      refine J.skip ?_
      repeat (first | refine JX.next ?_ | refine JX.normal_block ?_)
      repeat refine J.seq ?_
      refine J.plain ?_
      refine JO.t (ob_move rfl) rfl ?_
      refine JO.t (ob_build (cs := [_, _, _]) sh_api_Value (.cons rfl (.cons rfl .nil)) rfl rfl) rfl ?_
      refine JO.m (obm_store rfl rfl (by repeat (first | exact .here | apply Upd.there)) (by first | exact cnt_is rfl rfl | exact cnt_ex) (by first | exact cnt_is rfl rfl | exact cnt_ex | exact cnt_aggO) ss_api_Value) (by rfl) ?_
      refine JO.t (ob_assign rfl) rfl ?_
      refine JO.nil ?_
      repeat (first | refine JX.next ?_ | refine JX.normal_block ?_)
      refine J.sel [6, 7] (.cons rfl (.cons rfl .nil)) ?_
      repeat refine J.seq ?_
      refine J.ret ?_
      repeat (first | refine JX.ret_pass ?_ | refine JX.ret_block ?_)
      exact JX.retC1is rfl rfl sz_api_Value HasOwn.mem rfl rfl (by first | (simp +decide only [refNumF, *, ↓reduceIte] <;> rfl) | (simp_all [refNumF]; done) | (simp only [refNumF, finR, zero3, quoF, remF, *, ↓reduceIte, Bool.false_eq_true]; done) | (simp_all [refNumF, finR, zero3, quoF, remF]; done) | (simp [refNumF, finR, zero3, quoF, remF, *]; done)) (by first | (simp +decide only [refNumF, *, ↓reduceIte] <;> rfl) | (simp_all [refNumF]; done) | (simp only [refNumF, finR, zero3, quoF, remF, *, ↓reduceIte, Bool.false_eq_true]; done) | (simp_all [refNumF, finR, zero3, quoF, remF]; done) | (simp [refNumF, finR, zero3, quoF, remF, *]; done))
  ·
    try simp only [decide_eq_true_eq, decide_eq_false_iff_not] at ht13
    repeat refine J.seq ?_
    refine J.plain ?_
    refine JO.t (ob_eql rfl rfl) rfl ?_
    refine JO.t (ob_assign rfl) rfl ?_
    refine JO.nil ?_
    repeat (first | refine JX.next ?_ | refine JX.normal_block ?_)
    refine J.sel [0, 1, 2, 6, 8, 9, 12, 21] (.cons rfl (.cons rfl (.cons rfl (.cons rfl (.cons rfl (.cons rfl (.cons rfl (.cons rfl .nil)))))))) ?_
    repeat refine J.seq ?_
    refine J.cond rfl (fun ht21 => ?_) (fun ht21 => ?_)
    ·
      try simp only [decide_eq_true_eq, decide_eq_false_iff_not] at ht21
      repeat refine J.seq ?_
      refine J.plain ?_
      refine JO.t (ob_move rfl) rfl ?_
      refine JO.t (ob_eql rfl rfl) rfl ?_
      refine JO.nil ?_
      repeat (first | refine JX.next ?_ | refine JX.normal_block ?_)
      refine J.sel [1, 2, 6, 24] (.cons rfl (.cons rfl (.cons rfl (.cons rfl .nil)))) ?_
      repeat refine J.seq ?_
      refine J.cond rfl (fun ht24 => ?_) (fun ht24 => ?_)
      ·
        try simp only [decide_eq_true_eq, decide_eq_false_iff_not] at ht24
        repeat refine J.seq ?_
        refine J.plain ?_
        refine JO.t (ob_move rfl) rfl ?_
        refine JO.t (ob_lss rfl rfl) rfl ?_
        refine JO.t (ob_assign rfl) rfl ?_
        refine JO.nil ?_
        repeat (first | refine JX.next ?_ | refine JX.normal_block ?_)
        refine J.sel [1, 2, 6, 9] (.cons rfl (.cons rfl (.cons rfl (.cons rfl .nil)))) ?_
        repeat refine J.seq ?_
        refine J.plain ?_
        refine JO.t (ob_move rfl) rfl ?_
        refine JO.t (ob_move rfl) rfl ?_
        refine JO.t (ob_sub rfl rfl) rfl ?_
        refine JO.t (ob_assign rfl) rfl ?_
        refine JO.nil ?_
        repeat (first | refine JX.next ?_ | refine JX.normal_block ?_)
        refine J.sel [6, 8, 9] (.cons rfl (.cons rfl (.cons rfl .nil))) ?_
        repeat refine J.seq ?_
        refine J.plain ?_
        refine JO.t (ob_move rfl) rfl ?_
        refine JO.t (ob_not rfl) rfl ?_
        refine JO.nil ?_
        repeat (first | refine JX.next ?_ | refine JX.normal_block ?_)
        refine J.sel [6, 8, 81] (.cons rfl (.cons rfl (.cons rfl .nil))) ?_
        repeat refine J.seq ?_
        refine J.cond rfl (fun ht81 => ?_) (fun ht81 => ?_)
        ·
          try simp only [decide_eq_true_eq, decide_eq_false_iff_not] at ht81
          repeat refine J.seq ?_
          refine J.plain ?_
          refine JO.t (ob_build (cs := [_, _, _]) sh_api_Value .nil rfl rfl) rfl ?_
          refine JO.m (obm_store rfl rfl (by repeat (first | exact .here | apply Upd.there)) (by first | exact cnt_is rfl rfl | exact cnt_ex) (by first | exact cnt_is rfl rfl | exact cnt_ex | exact cnt_aggO) ss_api_Value) (by rfl) ?_
          refine JO.t (ob_assign rfl) rfl ?_
          refine JO.nil ?_
          repeat (first | refine JX.next ?_ | refine JX.normal_block ?_)
          refine J.sel [6, 7] (.cons rfl (.cons rfl .nil)) ?_
          repeat refine J.seq ?_
          refine J.ret ?_
          repeat (first | refine JX.ret_pass ?_ | refine JX.ret_block ?_)
          exact JX.retC1is rfl rfl sz_api_Value HasOwn.mem rfl rfl (by first | (simp +decide only [refNumF, *, ↓reduceIte] <;> rfl) | (simp_all [refNumF]; done) | (simp only [refNumF, finR, zero3, quoF, remF, *, ↓reduceIte, Bool.false_eq_true]; done) | (simp_all [refNumF, finR, zero3, quoF, remF]; done) | (simp [refNumF, finR, zero3, quoF, remF, *]; done)) (by first | (simp +decide only [refNumF, *, ↓reduceIte] <;> rfl) | (simp_all [refNumF]; done) | (simp only [refNumF, finR, zero3, quoF, remF, *, ↓reduceIte, Bool.false_eq_true]; done) | (simp_all [refNumF, finR, zero3, quoF, remF]; done) | (simp [refNumF, finR, zero3, quoF, remF, *]; done))
        ·
          try simp only [decide_eq_true_eq, decide_eq_false_iff_not] at ht81
          refine J.skip ?_
          repeat (first | refine JX.next ?_ | refine JX.normal_block ?_)
          repeat refine J.seq ?_
          refine J.plain ?_
          refine JO.t (ob_move rfl) rfl ?_
          refine JO.t (ob_build (cs := [_, _, _]) sh_api_Value (.cons rfl (.cons rfl .nil)) rfl rfl) rfl ?_
          refine JO.m (obm_store rfl rfl (by repeat (first | exact .here | apply Upd.there)) (by first | exact cnt_is rfl rfl | exact cnt_ex) (by first | exact cnt_is rfl rfl | exact cnt_ex | exact cnt_aggO) ss_api_Value) (by rfl) ?_
          refine JO.t (ob_assign rfl) rfl ?_
          refine JO.nil ?_
          repeat (first | refine JX.next ?_ | refine JX.normal_block ?_)
          refine J.sel [6, 7] (.cons rfl (.cons rfl .nil)) ?_
          repeat refine J.seq ?_
          refine J.ret ?_
          repeat (first | refine JX.ret_pass ?_ | refine JX.ret_block ?_)
          exact JX.retC1is rfl rfl sz_api_Value HasOwn.mem rfl rfl (by first | (simp +decide only [refNumF, *, ↓reduceIte] <;> rfl) | (simp_all [refNumF]; done) | (simp only [refNumF, finR, zero3, quoF, remF, *, ↓reduceIte, Bool.false_eq_true]; done) | (simp_all [refNumF, finR, zero3, quoF, remF]; done) | (simp [refNumF, finR, zero3, quoF, remF, *]; done)) (by first | (simp +decide only [refNumF, *, ↓reduceIte] <;> rfl) | (simp_all [refNumF]; done) | (simp only [refNumF, finR, zero3, quoF, remF, *, ↓reduceIte, Bool.false_eq_true]; done) | (simp_all [refNumF, finR, zero3, quoF, remF]; done) | (simp [refNumF, finR, zero3, quoF, remF, *]; done))
      ·
        try simp only [decide_eq_true_eq, decide_eq_false_iff_not] at ht24
        repeat refine J.seq ?_
        refine J.plain ?_
        refine JO.t (ob_move rfl) rfl ?_
        refine JO.t (ob_move rfl) rfl ?_
        refine JO.t (ob_neg rfl) rfl ?_
        refine JO.t (ob_call rfl (c_ref12_add _ _) (.one rfl (.one rfl .nil))) rfl ?_
        refine JO.t (ob_move rfl) rfl ?_
        refine JO.t (ob_extract0 rfl) rfl ?_
        refine JO.t (ob_extract1 rfl) rfl ?_
        refine JO.t (ob_assign rfl) rfl ?_
        refine JO.t (ob_assign rfl) rfl ?_
        refine JO.nil ?_
        repeat (first | refine JX.next ?_ | refine JX.normal_block ?_)
        refine J.sel [6, 8, 9] (.cons rfl (.cons rfl (.cons rfl .nil))) ?_
        repeat refine J.seq ?_
        refine J.plain ?_
        refine JO.t (ob_move rfl) rfl ?_
        refine JO.t (ob_not rfl) rfl ?_
        refine JO.nil ?_
        repeat (first | refine JX.next ?_ | refine JX.normal_block ?_)
        refine J.sel [6, 8, 81] (.cons rfl (.cons rfl (.cons rfl .nil))) ?_
        repeat refine J.seq ?_
        refine J.cond rfl (fun ht81 => ?_) (fun ht81 => ?_)
        ·
          try simp only [decide_eq_true_eq, decide_eq_false_iff_not] at ht81
          repeat refine J.seq ?_
          refine J.plain ?_
          refine JO.t (ob_build (cs := [_, _, _]) sh_api_Value .nil rfl rfl) rfl ?_
          refine JO.m (obm_store rfl rfl (by repeat (first | exact .here | apply Upd.there)) (by first | exact cnt_is rfl rfl | exact cnt_ex) (by first | exact cnt_is rfl rfl | exact cnt_ex | exact cnt_aggO) ss_api_Value) (by rfl) ?_
          refine JO.t (ob_assign rfl) rfl ?_
          refine JO.nil ?_
          repeat (first | refine JX.next ?_ | refine JX.normal_block ?_)
          refine J.sel [6, 7] (.cons rfl (.cons rfl .nil)) ?_
          repeat refine J.seq ?_
          refine J.ret ?_
          repeat (first | refine JX.ret_pass ?_ | refine JX.ret_block ?_)
          exact JX.retC1is rfl rfl sz_api_Value HasOwn.mem rfl rfl (by first | (simp +decide only [refNumF, *, ↓reduceIte] <;> rfl) | (simp_all [refNumF]; done) | (simp only [refNumF, finR, zero3, quoF, remF, *, ↓reduceIte, Bool.false_eq_true]; done) | (simp_all [refNumF, finR, zero3, quoF, remF]; done) | (simp [refNumF, finR, zero3, quoF, remF, *]; done)) (by first | (simp +decide only [refNumF, *, ↓reduceIte] <;> rfl) | (simp_all [refNumF]; done) | (simp only [refNumF, finR, zero3, quoF, remF, *, ↓reduceIte, Bool.false_eq_true]; done) | (simp_all [refNumF, finR, zero3, quoF, remF]; done) | (simp [refNumF, finR, zero3, quoF, remF, *]; done))
        ·
          try simp only [decide_eq_true_eq, decide_eq_false_iff_not] at ht81
          refine J.skip ?_
          repeat (first | refine JX.next ?_ | refine JX.normal_block ?_)
          repeat refine J.seq ?_
          refine J.plain ?_
          refine JO.t (ob_move rfl) rfl ?_
          refine JO.t (ob_build (cs := [_, _, _]) sh_api_Value (.cons rfl (.cons rfl .nil)) rfl rfl) rfl ?_
          refine JO.m (obm_store rfl rfl (by repeat (first | exact .here | apply Upd.there)) (by first | exact cnt_is rfl rfl | exact cnt_ex) (by first | exact cnt_is rfl rfl | exact cnt_ex | exact cnt_aggO) ss_api_Value) (by rfl) ?_
          refine JO.t (ob_assign rfl) rfl ?_
          refine JO.nil ?_
          repeat (first | refine JX.next ?_ | refine JX.normal_block ?_)
          refine J.sel [6, 7] (.cons rfl (.cons rfl .nil)) ?_
          repeat refine J.seq ?_
          refine J.ret ?_
          repeat (first | refine JX.ret_pass ?_ | refine JX.ret_block ?_)
          exact JX.retC1is rfl rfl sz_api_Value HasOwn.mem rfl rfl (by first | (simp +decide only [refNumF, *, ↓reduceIte] <;> rfl) | (simp_all [refNumF]; done) | (simp only [refNumF, finR, zero3, quoF, remF, *, ↓reduceIte, Bool.false_eq_true]; done) | (simp_all [refNumF, finR, zero3, quoF, remF]; done) | (simp [refNumF, finR, zero3, quoF, remF, *]; done)) (by first | (simp +decide only [refNumF, *, ↓reduceIte] <;> rfl) | (simp_all [refNumF]; done) | (simp only [refNumF, finR, zero3, quoF, remF, *, ↓reduceIte, Bool.false_eq_true]; done) | (simp_all [refNumF, finR, zero3, quoF, remF]; done) | (simp [refNumF, finR, zero3, quoF, remF, *]; done))
    ·
      try simp only [decide_eq_true_eq, decide_eq_false_iff_not] at ht21
      repeat refine J.seq ?_
      refine J.plain ?_
      refine JO.t (ob_eql rfl rfl) rfl ?_
      refine JO.t (ob_assign rfl) rfl ?_
      refine JO.nil ?_
      repeat (first | refine JX.next ?_ | refine JX.normal_block ?_)
      refine J.sel [0, 1, 2, 6, 8, 9, 12, 37] (.cons rfl (.cons rfl (.cons rfl (.cons rfl (.cons rfl (.cons rfl (.cons rfl (.cons rfl .nil)))))))) ?_
      repeat refine J.seq ?_
      refine J.cond rfl (fun ht37 => ?_) (fun ht37 => ?_)
      ·
        try simp only [decide_eq_true_eq, decide_eq_false_iff_not] at ht37
        repeat refine J.seq ?_
        refine J.plain ?_
        refine JO.t (ob_move rfl) rfl ?_
        refine JO.t (ob_move rfl) rfl ?_
        refine JO.t (ob_call rfl (c_ref12_mul _ _) (.one rfl (.one rfl .nil))) rfl ?_
        refine JO.t (ob_move rfl) rfl ?_
        refine JO.t (ob_extract0 rfl) rfl ?_
        refine JO.t (ob_extract1 rfl) rfl ?_
        refine JO.t (ob_assign rfl) rfl ?_
        refine JO.t (ob_assign rfl) rfl ?_
        refine JO.nil ?_
        repeat (first | refine JX.next ?_ | refine JX.normal_block ?_)
        refine J.sel [6, 8, 9] (.cons rfl (.cons rfl (.cons rfl .nil))) ?_
        repeat refine J.seq ?_
        refine J.plain ?_
        refine JO.t (ob_move rfl) rfl ?_
        refine JO.t (ob_not rfl) rfl ?_
        refine JO.nil ?_
        repeat (first | refine JX.next ?_ | refine JX.normal_block ?_)
        refine J.sel [6, 8, 81] (.cons rfl (.cons rfl (.cons rfl .nil))) ?_
        repeat refine J.seq ?_
        refine J.cond rfl (fun ht81 => ?_) (fun ht81 => ?_)
        ·
          try simp only [decide_eq_true_eq, decide_eq_false_iff_not] at ht81
          repeat refine J.seq ?_
          refine J.plain ?_
          refine JO.t (ob_build (cs := [_, _, _]) sh_api_Value .nil rfl rfl) rfl ?_
          refine JO.m (obm_store rfl rfl (by repeat (first | exact .here | apply Upd.there)) (by first | exact cnt_is rfl rfl | exact cnt_ex) (by first | exact cnt_is rfl rfl | exact cnt_ex | exact cnt_aggO) ss_api_Value) (by rfl) ?_
          refine JO.t (ob_assign rfl) rfl ?_
          refine JO.nil ?_
          repeat (first | refine JX.next ?_ | refine JX.normal_block ?_)
          refine J.sel [6, 7] (.cons rfl (.cons rfl .nil)) ?_
          repeat refine J.seq ?_
          refine J.ret ?_
          repeat (first | refine JX.ret_pass ?_ | refine JX.ret_block ?_)
          exact JX.retC1is rfl rfl sz_api_Value HasOwn.mem rfl rfl (by first | (simp +decide only [refNumF, *, ↓reduceIte] <;> rfl) | (simp_all [refNumF]; done) | (simp only [refNumF, finR, zero3, quoF, remF, *, ↓reduceIte, Bool.false_eq_true]; done) | (simp_all [refNumF, finR, zero3, quoF, remF]; done) | (simp [refNumF, finR, zero3, quoF, remF, *]; done)) (by first | (simp +decide only [refNumF, *, ↓reduceIte] <;> rfl) | (simp_all [refNumF]; done) | (simp only [refNumF, finR, zero3, quoF, remF, *, ↓reduceIte, Bool.false_eq_true]; done) | (simp_all [refNumF, finR, zero3, quoF, remF]; done) | (simp [refNumF, finR, zero3, quoF, remF, *]; done))
        ·
          try simp only [decide_eq_true_eq, decide_eq_false_iff_not] at ht81
          refine J.skip ?_
          repeat (first | refine JX.next ?_ | refine JX.normal_block ?_)
          repeat refine J.seq ?_
          refine J.plain ?_
          refine JO.t (ob_move rfl) rfl ?_
          refine JO.t (ob_build (cs := [_, _, _]) sh_api_Value (.cons rfl (.cons rfl .nil)) rfl rfl) rfl ?_
          refine JO.m (obm_store rfl rfl (by repeat (first | exact .here | apply Upd.there)) (by first | exact cnt_is rfl rfl | exact cnt_ex) (by first | exact cnt_is rfl rfl | exact cnt_ex | exact cnt_aggO) ss_api_Value) (by rfl) ?_
          refine JO.t (ob_assign rfl) rfl ?_
          refine JO.nil ?_
          repeat (first | refine JX.next ?_ | refine JX.normal_block ?_)
          refine J.sel [6, 7] (.cons rfl (.cons rfl .nil)) ?_
          repeat refine J.seq ?_
          refine J.ret ?_
          repeat (first | refine JX.ret_pass ?_ | refine JX.ret_block ?_)
          exact JX.retC1is rfl rfl sz_api_Value HasOwn.mem rfl rfl (by first | (simp +decide only [refNumF, *, ↓reduceIte] <;> rfl) | (simp_all [refNumF]; done) | (simp only [refNumF, finR, zero3, quoF, remF, *, ↓reduceIte, Bool.false_eq_true]; done) | (simp_all [refNumF, finR, zero3, quoF, remF]; done) | (simp [refNumF, finR, zero3, quoF, remF, *]; done)) (by first | (simp +decide only [refNumF, *, ↓reduceIte] <;> rfl) | (simp_all [refNumF]; done) | (simp only [refNumF, finR, zero3, quoF, remF, *, ↓reduceIte, Bool.false_eq_true]; done) | (simp_all [refNumF, finR, zero3, quoF, remF]; done) | (simp [refNumF, finR, zero3, quoF, remF, *]; done))
      ·
        try simp only [decide_eq_true_eq, decide_eq_false_iff_not] at ht37
        repeat refine J.seq ?_
        refine J.plain ?_
        refine JO.t (ob_eql rfl rfl) rfl ?_
        refine JO.t (ob_assign rfl) rfl ?_
        refine JO.nil ?_
        repeat (first | refine JX.next ?_ | refine JX.normal_block ?_)
        refine J.sel [0, 1, 2, 6, 8, 9, 12, 45] (.cons rfl (.cons rfl (.cons rfl (.cons rfl (.cons rfl (.cons rfl (.cons rfl (.cons rfl .nil)))))))) ?_
        first | apply J.or [0, 1, 2, 6, 8, 9] rfl (.cons rfl (.cons rfl (.cons rfl (.cons rfl (.cons rfl (.cons rfl .nil)))))) | apply J.orN [0, 1, 2, 6, 8, 9] rfl (.cons rfl (.cons rfl (.cons rfl (.cons rfl (.cons rfl (.cons rfl .nil))))))
        · intro ht45
          repeat refine J.seq ?_
          refine J.plain ?_
          refine JO.t (ob_eql rfl rfl) rfl ?_
          refine JO.t (ob_assign rfl) rfl ?_
          refine JO.nil ?_
          exact JX.mids [45, 0, 1, 2, 6, 8, 9] (.cons rfl (.cons rfl (.cons rfl (.cons rfl (.cons rfl (.cons rfl (.cons rfl .nil)))))))
        repeat refine J.seq ?_
        refine J.cond rfl (fun ht45 => ?_) (fun ht45 => ?_)
        ·
          try simp only [decide_eq_true_eq, decide_eq_false_iff_not] at ht45
          repeat refine J.seq ?_
          refine J.plain ?_
          refine JO.t (ob_move rfl) rfl ?_
          refine JO.t (ob_eql rfl rfl) rfl ?_
          refine JO.nil ?_
          repeat (first | refine JX.next ?_ | refine JX.normal_block ?_)
          refine J.sel [0, 1, 2, 6, 49] (.cons rfl (.cons rfl (.cons rfl (.cons rfl (.cons rfl .nil))))) ?_
          repeat refine J.seq ?_
          refine J.cond rfl (fun ht49 => ?_) (fun ht49 => ?_)
          ·
            try simp only [decide_eq_true_eq, decide_eq_false_iff_not] at ht49
            repeat refine J.seq ?_
            refine J.plain ?_
            refine JO.t (ob_build (cs := [_, _, _]) sh_api_Value .nil rfl rfl) rfl ?_
            refine JO.m (obm_store rfl rfl (by repeat (first | exact .here | apply Upd.there)) (by first | exact cnt_is rfl rfl | exact cnt_ex) (by first | exact cnt_is rfl rfl | exact cnt_ex | exact cnt_aggO) ss_api_Value) (by rfl) ?_
            refine JO.t (ob_assign rfl) rfl ?_
            refine JO.nil ?_
            repeat (first | refine JX.next ?_ | refine JX.normal_block ?_)
            refine J.sel [6, 7] (.cons rfl (.cons rfl .nil)) ?_
            repeat refine J.seq ?_
            refine J.ret ?_
            repeat (first | refine JX.ret_pass ?_ | refine JX.ret_block ?_)
            exact JX.retC1is rfl rfl sz_api_Value HasOwn.mem rfl rfl (by first | (simp +decide only [refNumF, *, ↓reduceIte] <;> rfl) | (simp_all [refNumF]; done) | (simp only [refNumF, finR, zero3, quoF, remF, *, ↓reduceIte, Bool.false_eq_true]; done) | (simp_all [refNumF, finR, zero3, quoF, remF]; done) | (simp [refNumF, finR, zero3, quoF, remF, *]; done)) (by first | (simp +decide only [refNumF, *, ↓reduceIte] <;> rfl) | (simp_all [refNumF]; done) | (simp only [refNumF, finR, zero3, quoF, remF, *, ↓reduceIte, Bool.false_eq_true]; done) | (simp_all [refNumF, finR, zero3, quoF, remF]; done) | (simp [refNumF, finR, zero3, quoF, remF, *]; done))
          ·
            try simp only [decide_eq_true_eq, decide_eq_false_iff_not] at ht49
            refine J.skip ?_
            repeat (first | refine JX.next ?_ | refine JX.normal_block ?_)
            repeat refine J.seq ?_
            refine J.plain ?_
            refine JO.t (ob_move rfl) rfl ?_
            refine JO.t (ob_call rfl (c_ref12_size _) (.one rfl .nil)) rfl ?_
            refine JO.t (ob_move rfl) rfl ?_
            refine JO.t (ob_call rfl (c_ref12_size _) (.one rfl .nil)) rfl ?_
            refine JO.t (ob_quo rfl rfl (sizeF_ne hb (by assumption))) rfl ?_
            refine JO.t (ob_move rfl) rfl ?_
            refine JO.t (ob_lss rfl rfl) rfl ?_
            refine JO.t (ob_move rfl) rfl ?_
            refine JO.t (ob_lss rfl rfl) rfl ?_
            refine JO.t (ob_bneq un_bool rfl rfl) rfl ?_
            refine JO.t (ob_call rfl (c_ref12_signed _ _) (.one rfl (.one rfl .nil))) rfl ?_
            refine JO.t (ob_move rfl) rfl ?_
            refine JO.t (ob_extract0 rfl) rfl ?_
            refine JO.t (ob_extract1 rfl) rfl ?_
            refine JO.t (ob_assign rfl) rfl ?_
            refine JO.t (ob_assign rfl) rfl ?_
            refine JO.nil ?_
            repeat (first | refine JX.next ?_ | refine JX.normal_block ?_)
            refine J.sel [0, 1, 2, 6, 10, 11] (.cons rfl (.cons rfl (.cons rfl (.cons rfl (.cons rfl (.cons rfl .nil)))))) ?_
            repeat refine J.seq ?_
            refine J.plain ?_
            refine JO.t (ob_move rfl) rfl ?_
            refine JO.t (ob_assign rfl) rfl ?_
            refine JO.nil ?_
            repeat (first | refine JX.next ?_ | refine JX.normal_block ?_)
            refine J.sel [0, 1, 2, 6, 8, 11] (.cons rfl (.cons rfl (.cons rfl (.cons rfl (.cons rfl (.cons rfl .nil)))))) ?_
            repeat refine J.seq ?_
            refine J.plain ?_
            refine JO.t (ob_move rfl) rfl ?_
            refine JO.t (ob_assign rfl) rfl ?_
            refine JO.nil ?_
            repeat (first | refine JX.next ?_ | refine JX.normal_block ?_)
            refine J.sel [0, 1, 2, 6, 8, 9] (.cons rfl (.cons rfl (.cons rfl (.cons rfl (.cons rfl (.cons rfl .nil)))))) ?_
            repeat refine J.seq ?_
            refine J.plain ?_
            refine JO.t (ob_move rfl) rfl ?_
            refine JO.t (ob_eql rfl rfl) rfl ?_
            refine JO.nil ?_
            repeat (first | refine JX.next ?_ | refine JX.normal_block ?_)
            refine J.sel [1, 2, 6, 8, 9, 68] (.cons rfl (.cons rfl (.cons rfl (.cons rfl (.cons rfl (.cons rfl .nil)))))) ?_
            repeat refine J.seq ?_
            refine J.cond rfl (fun ht68 => ?_) (fun ht68 => ?_)
            ·
              try simp only [decide_eq_true_eq, decide_eq_false_iff_not] at ht68
              repeat refine J.seq ?_
              refine J.plain ?_
              refine JO.t (ob_move rfl) rfl ?_
              refine JO.t (ob_call rfl (c_ref12_size _) (.one rfl .nil)) rfl ?_
              refine JO.t (ob_move rfl) rfl ?_
              refine JO.t (ob_call rfl (c_ref12_size _) (.one rfl .nil)) rfl ?_
              refine JO.t (ob_rem rfl rfl (sizeF_ne hb (by assumption))) rfl ?_
              refine JO.t (ob_move rfl) rfl ?_
              refine JO.t (ob_lss rfl rfl) rfl ?_
              refine JO.t (ob_call rfl (c_ref12_signed _ _) (.one rfl (.one rfl .nil))) rfl ?_
              refine JO.t (ob_move rfl) rfl ?_
              refine JO.t (ob_extract0 rfl) rfl ?_
              refine JO.t (ob_extract1 rfl) rfl ?_
              refine JO.t (ob_assign rfl) rfl ?_
              refine JO.nil ?_
              repeat (first | refine JX.next ?_ | refine JX.normal_block ?_)
              refine J.sel [6, 8] (.cons rfl (.cons rfl .nil)) ?_
              repeat refine J.seq ?_
              refine J.plain ?_
              refine JO.t (ob_assign rfl) rfl ?_
              refine JO.nil ?_
              repeat (first | refine JX.next ?_ | refine JX.normal_block ?_)
              refine J.sel [6, 8, 9] (.cons rfl (.cons rfl (.cons rfl .nil))) ?_
              repeat refine J.seq ?_
              refine J.plain ?_
              refine JO.t (ob_move rfl) rfl ?_
              refine JO.t (ob_not rfl) rfl ?_
              refine JO.nil ?_
              repeat (first | refine JX.next ?_ | refine JX.normal_block ?_)
              refine J.sel [6, 8, 81] (.cons rfl (.cons rfl (.cons rfl .nil))) ?_
              repeat refine J.seq ?_
              refine J.cond rfl (fun ht81 => ?_) (fun ht81 => ?_)
              ·
                try simp only [decide_eq_true_eq, decide_eq_false_iff_not] at ht81
                repeat refine J.seq ?_
                refine J.plain ?_
                refine JO.t (ob_build (cs := [_, _, _]) sh_api_Value .nil rfl rfl) rfl ?_
                refine JO.m (obm_store rfl rfl (by repeat (first | exact .here | apply Upd.there)) (by first | exact cnt_is rfl rfl | exact cnt_ex) (by first | exact cnt_is rfl rfl | exact cnt_ex | exact cnt_aggO) ss_api_Value) (by rfl) ?_
                refine JO.t (ob_assign rfl) rfl ?_
                refine JO.nil ?_
                repeat (first | refine JX.next ?_ | refine JX.normal_block ?_)
                refine J.sel [6, 7] (.cons rfl (.cons rfl .nil)) ?_
                repeat refine J.seq ?_
                refine J.ret ?_
                repeat (first | refine JX.ret_pass ?_ | refine JX.ret_block ?_)
                exact JX.retC1is rfl rfl sz_api_Value HasOwn.mem rfl rfl (by first | (simp +decide only [refNumF, *, ↓reduceIte] <;> rfl) | (simp_all [refNumF]; done) | (simp only [refNumF, finR, zero3, quoF, remF, *, ↓reduceIte, Bool.false_eq_true]; done) | (simp_all [refNumF, finR, zero3, quoF, remF]; done) | (simp [refNumF, finR, zero3, quoF, remF, *]; done)) (by first | (simp +decide only [refNumF, *, ↓reduceIte] <;> rfl) | (simp_all [refNumF]; done) | (simp only [refNumF, finR, zero3, quoF, remF, *, ↓reduceIte, Bool.false_eq_true]; done) | (simp_all [refNumF, finR, zero3, quoF, remF]; done) | (simp [refNumF, finR, zero3, quoF, remF, *]; done))
              ·
                try simp only [decide_eq_true_eq, decide_eq_false_iff_not] at ht81
                refine J.skip ?_
                repeat (first | refine JX.next ?_ | refine JX.normal_block ?_)
                repeat refine J.seq ?_
                refine J.plain ?_
                refine JO.t (ob_move rfl) rfl ?_
                refine JO.t (ob_build (cs := [_, _, _]) sh_api_Value (.cons rfl (.cons rfl .nil)) rfl rfl) rfl ?_
                refine JO.m (obm_store rfl rfl (by repeat (first | exact .here | apply Upd.there)) (by first | exact cnt_is rfl rfl | exact cnt_ex) (by first | exact cnt_is rfl rfl | exact cnt_ex | exact cnt_aggO) ss_api_Value) (by rfl) ?_
                refine JO.t (ob_assign rfl) rfl ?_
                refine JO.nil ?_
                repeat (first | refine JX.next ?_ | refine JX.normal_block ?_)
                refine J.sel [6, 7] (.cons rfl (.cons rfl .nil)) ?_
                repeat refine J.seq ?_
                refine J.ret ?_
                repeat (first | refine JX.ret_pass ?_ | refine JX.ret_block ?_)
                exact JX.retC1is rfl rfl sz_api_Value HasOwn.mem rfl rfl (by first | (simp +decide only [refNumF, *, ↓reduceIte] <;> rfl) | (simp_all [refNumF]; done) | (simp only [refNumF, finR, zero3, quoF, remF, *, ↓reduceIte, Bool.false_eq_true]; done) | (simp_all [refNumF, finR, zero3, quoF, remF]; done) | (simp [refNumF, finR, zero3, quoF, remF, *]; done)) (by first | (simp +decide only [refNumF, *, ↓reduceIte] <;> rfl) | (simp_all [refNumF]; done) | (simp only [refNumF, finR, zero3, quoF, remF, *, ↓reduceIte, Bool.false_eq_true]; done) | (simp_all [refNumF, finR, zero3, quoF, remF]; done) | (simp [refNumF, finR, zero3, quoF, remF, *]; done))
            ·
              try simp only [decide_eq_true_eq, decide_eq_false_iff_not] at ht68
              refine J.skip ?_
              repeat (first | refine JX.next ?_ | refine JX.normal_block ?_)
              repeat refine J.seq ?_
              refine J.plain ?_
              refine JO.t (ob_move rfl) rfl ?_
              refine JO.t (ob_not rfl) rfl ?_
              refine JO.nil ?_
              repeat (first | refine JX.next ?_ | refine JX.normal_block ?_)
              refine J.sel [6, 8, 81] (.cons rfl (.cons rfl (.cons rfl .nil))) ?_
              repeat refine J.seq ?_
              refine J.cond rfl (fun ht81 => ?_) (fun ht81 => ?_)
              ·
                try simp only [decide_eq_true_eq, decide_eq_false_iff_not] at ht81
                repeat refine J.seq ?_
                refine J.plain ?_
                refine JO.t (ob_build (cs := [_, _, _]) sh_api_Value .nil rfl rfl) rfl ?_
                refine JO.m (obm_store rfl rfl (by repeat (first | exact .here | apply Upd.there)) (by first | exact cnt_is rfl rfl | exact cnt_ex) (by first | exact cnt_is rfl rfl | exact cnt_ex | exact cnt_aggO) ss_api_Value) (by rfl) ?_
                refine JO.t (ob_assign rfl) rfl ?_
                refine JO.nil ?_
                repeat (first | refine JX.next ?_ | refine JX.normal_block ?_)
                refine J.sel [6, 7] (.cons rfl (.cons rfl .nil)) ?_
                repeat refine J.seq ?_
                refine J.ret ?_
                repeat (first | refine JX.ret_pass ?_ | refine JX.ret_block ?_)
                exact JX.retC1is rfl rfl sz_api_Value HasOwn.mem rfl rfl (by first | (simp +decide only [refNumF, *, ↓reduceIte] <;> rfl) | (simp_all [refNumF]; done) | (simp only [refNumF, finR, zero3, quoF, remF, *, ↓reduceIte, Bool.false_eq_true]; done) | (simp_all [refNumF, finR, zero3, quoF, remF]; done) | (simp [refNumF, finR, zero3, quoF, remF, *]; done)) (by first | (simp +decide only [refNumF, *, ↓reduceIte] <;> rfl) | (simp_all [refNumF]; done) | (simp only [refNumF, finR, zero3, quoF, remF, *, ↓reduceIte, Bool.false_eq_true]; done) | (simp_all [refNumF, finR, zero3, quoF, remF]; done) | (simp [refNumF, finR, zero3, quoF, remF, *]; done))
              ·
                try simp only [decide_eq_true_eq, decide_eq_false_iff_not] at ht81
                refine J.skip ?_
                repeat (first | refine JX.next ?_ | refine JX.normal_block ?_)
                repeat refine J.seq ?_
                refine J.plain ?_
                refine JO.t (ob_move rfl) rfl ?_
                refine JO.t (ob_build (cs := [_, _, _]) sh_api_Value (.cons rfl (.cons rfl .nil)) rfl rfl) rfl ?_
                refine JO.m (obm_store rfl rfl (by repeat (first | exact .here | apply Upd.there)) (by first | exact cnt_is rfl rfl | exact cnt_ex) (by first | exact cnt_is rfl rfl | exact cnt_ex | exact cnt_aggO) ss_api_Value) (by rfl) ?_
                refine JO.t (ob_assign rfl) rfl ?_
                refine JO.nil ?_
                repeat (first | refine JX.next ?_ | refine JX.normal_block ?_)
                refine J.sel [6, 7] (.cons rfl (.cons rfl .nil)) ?_
                repeat refine J.seq ?_
                refine J.ret ?_
                repeat (first | refine JX.ret_pass ?_ | refine JX.ret_block ?_)
                exact JX.retC1is rfl rfl sz_api_Value HasOwn.mem rfl rfl (by first | (simp +decide only [refNumF, *, ↓reduceIte] <;> rfl) | (simp_all [refNumF]; done) | (simp only [refNumF, finR, zero3, quoF, remF, *, ↓reduceIte, Bool.false_eq_true]; done) | (simp_all [refNumF, finR, zero3, quoF, remF]; done) | (simp [refNumF, finR, zero3, quoF, remF, *]; done)) (by first | (simp +decide only [refNumF, *, ↓reduceIte] <;> rfl) | (simp_all [refNumF]; done) | (simp only [refNumF, finR, zero3, quoF, remF, *, ↓reduceIte, Bool.false_eq_true]; done) | (simp_all [refNumF, finR, zero3, quoF, remF]; done) | (simp [refNumF, finR, zero3, quoF, remF, *]; done))
        ·
          try simp only [decide_eq_true_eq, decide_eq_false_iff_not] at ht45
          refine J.skip ?_
          repeat (first | refine JX.next ?_ | refine JX.normal_block ?_)
          repeat refine J.seq ?_
          refine J.plain ?_
          refine JO.t (ob_move rfl) rfl ?_
          refine JO.t (ob_not rfl) rfl ?_
          refine JO.nil ?_
          repeat (first | refine JX.next ?_ | refine JX.normal_block ?_)
          refine J.sel [6, 8, 81] (.cons rfl (.cons rfl (.cons rfl .nil))) ?_
          repeat refine J.seq ?_
          refine J.cond rfl (fun ht81 => ?_) (fun ht81 => ?_)
          ·
            try simp only [decide_eq_true_eq, decide_eq_false_iff_not] at ht81
            repeat refine J.seq ?_
            refine J.plain ?_
            refine JO.t (ob_build (cs := [_, _, _]) sh_api_Value .nil rfl rfl) rfl ?_
            refine JO.m (obm_store rfl rfl (by repeat (first | exact .here | apply Upd.there)) (by first | exact cnt_is rfl rfl | exact cnt_ex) (by first | exact cnt_is rfl rfl | exact cnt_ex | exact cnt_aggO) ss_api_Value) (by rfl) ?_
            refine JO.t (ob_assign rfl) rfl ?_
            refine JO.nil ?_
            repeat (first | refine JX.next ?_ | refine JX.normal_block ?_)
            refine J.sel [6, 7] (.cons rfl (.cons rfl .nil)) ?_
            repeat refine J.seq ?_
            refine J.ret ?_
            repeat (first | refine JX.ret_pass ?_ | refine JX.ret_block ?_)
            exact JX.retC1is rfl rfl sz_api_Value HasOwn.mem rfl rfl (by first | (simp +decide only [refNumF, *, ↓reduceIte] <;> rfl) | (simp_all [refNumF]; done) | (simp only [refNumF, finR, zero3, quoF, remF, *, ↓reduceIte, Bool.false_eq_true]; done) | (simp_all [refNumF, finR, zero3, quoF, remF]; done) | (simp [refNumF, finR, zero3, quoF, remF, *]; done)) (by first | (simp +decide only [refNumF, *, ↓reduceIte] <;> rfl) | (simp_all [refNumF]; done) | (simp only [refNumF, finR, zero3, quoF, remF, *, ↓reduceIte, Bool.false_eq_true]; done) | (simp_all [refNumF, finR, zero3, quoF, remF]; done) | (simp [refNumF, finR, zero3, quoF, remF, *]; done))
          ·
            try simp only [decide_eq_true_eq, decide_eq_false_iff_not] at ht81
            refine J.skip ?_
            repeat (first | refine JX.next ?_ | refine JX.normal_block ?_)
            repeat refine J.seq ?_
            refine J.plain ?_
            refine JO.t (ob_move rfl) rfl ?_
            refine JO.t (ob_build (cs := [_, _, _]) sh_api_Value (.cons rfl (.cons rfl .nil)) rfl rfl) rfl ?_
            refine JO.m (obm_store rfl rfl (by repeat (first | exact .here | apply Upd.there)) (by first | exact cnt_is rfl rfl | exact cnt_ex) (by first | exact cnt_is rfl rfl | exact cnt_ex | exact cnt_aggO) ss_api_Value) (by rfl) ?_
            refine JO.t (ob_assign rfl) rfl ?_
            refine JO.nil ?_
            repeat (first | refine JX.next ?_ | refine JX.normal_block ?_)
            refine J.sel [6, 7] (.cons rfl (.cons rfl .nil)) ?_
            repeat refine J.seq ?_
            refine J.ret ?_
            repeat (first | refine JX.ret_pass ?_ | refine JX.ret_block ?_)
            exact JX.retC1is rfl rfl sz_api_Value HasOwn.mem rfl rfl (by first | (simp +decide only [refNumF, *, ↓reduceIte] <;> rfl) | (simp_all [refNumF]; done) | (simp only [refNumF, finR, zero3, quoF, remF, *, ↓reduceIte, Bool.false_eq_true]; done) | (simp_all [refNumF, finR, zero3, quoF, remF]; done) | (simp [refNumF, finR, zero3, quoF, remF, *]; done)) (by first | (simp +decide only [refNumF, *, ↓reduceIte] <;> rfl) | (simp_all [refNumF]; done) | (simp only [refNumF, finR, zero3, quoF, remF, *, ↓reduceIte, Bool.false_eq_true]; done) | (simp_all [refNumF, finR, zero3, quoF, remF]; done) | (simp [refNumF, finR, zero3, quoF, remF, *]; done))
end Go.Proofs.Ytjlojkchgfeenaa
