/- Expressions, bound. No condition. -/
import Derived.Test.YtjlojkchgfeenaaXV
import Derived.Test.YtjlojkchgfeenaaXF
import Derived.Test.YtjlojkchgfeenaaXG2
set_option maxRecDepth 20000
namespace Go.Proofs.Ytjlojkchgfeenaa
open Go Go.Vc
abbrev BR := Ex × Int × Int
def firstE : List BR → Int
  | [] => 0
  | r :: rs => if (r.2.2 != 0) then r.2.2 else firstE rs
def bindTop (cols : List C3) (k vk vn : Int) (vs tb nm : ByteArray) (n : Nat) (rs : List BR) : BR :=
  if aggF k then (exD, 0, 33)
  else if ((n : Int) != kidsB k) then (exD, 0, 1)
  else if (k == 1 && okF vk vn vs) then (.mk k vk vn vs ⟨#[]⟩ ⟨#[]⟩ 0 [], vk, 0)
  else if (k == 1) then (exD, 0, 1)
  else if (k == 2) then (if ((findCF tb nm cols).2 != 0) then (exD, 0, (findCF tb nm cols).2) else (.mk 24 0 0 ⟨#[]⟩ ⟨#[]⟩ ⟨#[]⟩ (findCF tb nm cols).1 [], (cols.getD (findCF tb nm cols).1.toNat c3D).ty, 0))
  else if (firstE rs != 0) then (exD, 0, firstE rs)
  else if !(typedF k (rs.map (·.2.1))).2 then (exD, 0, 33)
  else (nodeE k (rs.map (·.1)), (typedF k (rs.map (·.2.1))).1, 0)
mutual
def bindF (cols : List C3) : Ex → BR
  | .mk k vk vn vs tb nm _ kids => bindTop cols k vk vn vs tb nm kids.length (bindsF cols kids)
def bindsF (cols : List C3) : List Ex → List BR
  | [] => []
  | x :: xs => bindF cols x :: bindsF cols xs
end
theorem bindsF_eq (cols : List C3) : ∀ kids : List Ex, bindsF cols kids = kids.map (bindF cols)
  | [] => by rw [bindsF]; rfl
  | x :: xs => by rw [bindsF, bindsF_eq cols xs]; rfl
theorem firstE_at : ∀ (rs : List BR) (i : Nat) (r : BR), (∀ q ∈ rs.take i, q.2.2 = 0) → rs[i]? = some r → r.2.2 ≠ 0 → firstE rs = r.2.2
  | [], i, r, _, h, _ => by simp at h
  | q :: rs, 0, r, _, h, hr => by
    simp only [List.getElem?_cons_zero, Option.some.injEq] at h
    subst h
    simp [firstE, hr]
  | q :: rs, i + 1, r, hq, h, hr => by
    have h0 := hq q (by simp)
    rw [firstE, h0]
    simp only [bne_self_eq_false, Bool.false_eq_true, ↓reduceIte]
    exact firstE_at rs i r (fun p hp => hq p (by simp [hp])) (by simpa using h) hr
theorem firstE_zero : ∀ (rs : List BR), (∀ q ∈ rs, q.2.2 = 0) → firstE rs = 0
  | [], _ => rfl
  | q :: rs, hq => by
    rw [firstE, hq q (by simp)]
    simp only [bne_self_eq_false, Bool.false_eq_true, ↓reduceIte]
    exact firstE_zero rs fun p hp => hq p (by simp [hp])
theorem fgo_rng (t n : ByteArray) : ∀ (cs : List C3) (i : Nat) (at_ : Int), at_ < i → (fgoF t n cs i at_).2 = 0 → 0 ≤ (fgoF t n cs i at_).1 ∧ (fgoF t n cs i at_).1 < (i + cs.length : Nat)
  | [], i, at_, h, h0 => by
    unfold fgoF at h0 ⊢
    split
    · rename_i h1; rw [if_pos h1] at h0; simp at h0
    · rename_i h1
      simp at h1
      simp only [List.length_nil]
      omega
  | c :: cs, i, at_, h, h0 => by
    have ih1 := fgo_rng t n cs (i + 1) at_ (by omega)
    have ih2 := fgo_rng t n cs (i + 1) i (by omega)
    unfold fgoF at h0 ⊢
    simp only [List.length_cons]
    split
    · rename_i h1
      rw [if_pos h1] at h0
      have := ih1 h0
      push_cast at this ⊢
      omega
    · rename_i h1
      rw [if_neg h1] at h0
      split
      · rename_i h2; rw [if_pos h2] at h0; simp at h0
      · rename_i h2
        rw [if_neg h2] at h0
        have := ih2 h0
        push_cast at this ⊢
        omega
theorem find_rng {t n : ByteArray} {cols : List C3} (h : (findCF t n cols).2 = 0) : 0 ≤ (findCF t n cols).1 ∧ (findCF t n cols).1 < cols.length := by
  have := fgo_rng t n cols 0 (-1) (by omega) h
  simpa [findCF] using this
abbrev BindOK (cols : List C3) (x : Ex) : Prop := CallTy Try.prog f_bind_Bind [.rep (ExR x), .rep (SlG C3.cells 3 cols)] (.tup3 (.rep (ExR (bindF cols x).1)) (.is (.int .i64 (bindF cols x).2.1)) (.is (.int .i64 (bindF cols x).2.2)))
theorem kid_take {kids : List Ex} {i : Nat} (h : i < kids.length) : kids.take i ++ [kids.getD i exD] = kids.take (i + 1) := by
  rw [List.take_add_one]
  simp [h]
theorem c_bind_BindM (cols : List C3) (hl : cols.length ≤ 9223372036854775806) (k vk vn : Int) (vs tb nm : ByteArray) (sl : Int) (kids : List Ex) (hk : ∀ x ∈ kids, BindOK cols x) : CallTy Try.prog f_bind_Bind [.rep (ExR (.mk k vk vn vs tb nm sl kids)), .rep (SlG C3.cells 3 cols)] (.tup3 (.rep (ExR (bindTop cols k vk vn vs tb nm kids.length (kids.map (bindF cols))).1)) (.is (.int .i64 (bindTop cols k vk vn vs tb nm kids.length (kids.map (bindF cols))).2.1)) (.is (.int .i64 (bindTop cols k vk vn vs tb nm kids.length (kids.map (bindF cols))).2.2))) :=
  CallTy.of (fn := Try.f17) Try.func17 (n := 120) rfl rfl rfl (fun _ _ => by kernel_rfl) fun E W => by
  refine J.openEx (s := 0) rfl (fun a len cap b o hlen ha => ?_)
  refine J.openSl (s := 1) rfl (fun ca clen ccap cb co hclen hca => ?_)
  subst hlen hclen
  repeat refine J.seq ?_
  refine J.plain ?_
  refine JO.box rfl rfl fun b2 => ?_
  refine JO.alloc zo_api_Expr rfl fun b4 => ?_
  refine JO.t (ob_assign rfl) rfl ?_
  refine JO.t (ob_assign rfl) rfl ?_
  refine JO.nil ?_
  repeat (first | refine JX.next ?_ | refine JX.normal_block ?_)
  refine J.sel [1, 2, 4] (.cons rfl (.cons rfl (.cons rfl .nil))) ?_
  repeat refine J.seq ?_
  refine J.plain ?_
  refine JO.t (ob_fieldAddr fo_api_Expr_0 rfl) rfl ?_
  refine JO.t (ob_ld1 sz_int rfl rfl) rfl ?_
  refine JO.t (ob_call rfl (c_bind_aggregate _) (.one rfl .nil)) rfl ?_
  refine JO.nil ?_
  repeat (first | refine JX.next ?_ | refine JX.normal_block ?_)
  refine J.sel [1, 2, 4, 20] (.cons rfl (.cons rfl (.cons rfl (.cons rfl .nil)))) ?_
  repeat refine J.seq ?_
  refine J.cond rfl (fun ht20 => ?_) (fun ht20 => ?_)
  ·
    try simp only [decide_eq_true_eq, decide_eq_false_iff_not] at ht20
    repeat refine J.seq ?_
    refine J.plain ?_
    refine JO.t (ob_build (cs := [_, _, _, _, _, _, _, _]) sh_api_Expr .nil rfl rfl) rfl ?_
    refine JO.m (obm_store rfl rfl (by repeat (first | exact .here | apply Upd.there)) (by first | exact cnt_is rfl rfl | exact cnt_ex) (by first | exact cnt_is rfl rfl | exact cnt_ex | exact cnt_aggO) ss_api_Expr) (by rfl) ?_
    refine JO.t (ob_assign rfl) rfl ?_
    refine JO.t (ob_assign rfl) rfl ?_
    refine JO.nil ?_
    repeat (first | refine JX.next ?_ | refine JX.normal_block ?_)
    refine J.sel [4, 5, 6] (.cons rfl (.cons rfl (.cons rfl .nil))) ?_
    repeat refine J.seq ?_
    refine J.ret ?_
    repeat (first | refine JX.ret_pass ?_ | refine JX.ret_block ?_)
    exact JX.retC2sub rfl rfl sz_api_Expr HasOwn.mem (agg_is rfl) rfl rfl rfl (Sub.ex_eq Sub.exNil (by first | (simp +decide only [bindTop, *, ↓reduceIte] <;> rfl) | (simp_all [bindTop]; done) | (simp only [bindTop, *, ↓reduceIte, Bool.false_eq_true]; done) | (simp_all [bindTop]; done) | (simp [bindTop, *]; done))) (by first | (simp +decide only [bindTop, *, ↓reduceIte] <;> rfl) | (simp_all [bindTop]; done) | (simp only [bindTop, *, ↓reduceIte, Bool.false_eq_true]; done) | (simp_all [bindTop]; done) | (simp [bindTop, *]; done)) (by first | (simp +decide only [bindTop, *, ↓reduceIte] <;> rfl) | (simp_all [bindTop]; done) | (simp only [bindTop, *, ↓reduceIte, Bool.false_eq_true]; done) | (simp_all [bindTop]; done) | (simp [bindTop, *]; done))
  ·
    try simp only [decide_eq_true_eq, decide_eq_false_iff_not] at ht20
    refine J.skip ?_
    repeat (first | refine JX.next ?_ | refine JX.normal_block ?_)
    repeat refine J.seq ?_
    refine J.reg0 hmx (by kernel_rfl) (by kernel_rfl) ?_
    refine RT.t (ob_fieldAddr fo_api_Expr_5 rfl) ?_
    refine RT.t (ob_ld1 sz_sl_api_Expr rfl rfl) ?_
    refine RT.t (ob_len un_sl_api_Expr rfl) ?_
    refine RT.t (ob_fieldAddr fo_api_Expr_0 rfl) ?_
    refine RT.t (ob_ld1 sz_int rfl rfl) ?_
    refine RT.t (ob_call rfl (c_bind_kids _) (.one rfl .nil)) ?_
    refine RT.t (ob_neq rfl rfl) ?_
    refine RT.nil ?_
    refine FinS.nil0 ?_
    repeat (first | refine JX.next ?_ | refine JX.normal_block ?_)
    refine J.sel [1, 2, 4, 28] (.cons rfl (.cons rfl (.cons rfl (.cons rfl .nil)))) ?_
    repeat refine J.seq ?_
    refine J.cond rfl (fun ht28 => ?_) (fun ht28 => ?_)
    ·
      try simp only [decide_eq_true_eq, decide_eq_false_iff_not] at ht28
      repeat refine J.seq ?_
      refine J.plain ?_
      refine JO.t (ob_build (cs := [_, _, _, _, _, _, _, _]) sh_api_Expr .nil rfl rfl) rfl ?_
      refine JO.m (obm_store rfl rfl (by repeat (first | exact .here | apply Upd.there)) (by first | exact cnt_is rfl rfl | exact cnt_ex) (by first | exact cnt_is rfl rfl | exact cnt_ex | exact cnt_aggO) ss_api_Expr) (by rfl) ?_
      refine JO.t (ob_assign rfl) rfl ?_
      refine JO.t (ob_assign rfl) rfl ?_
      refine JO.nil ?_
      repeat (first | refine JX.next ?_ | refine JX.normal_block ?_)
      refine J.sel [4, 5, 6] (.cons rfl (.cons rfl (.cons rfl .nil))) ?_
      repeat refine J.seq ?_
      refine J.ret ?_
      repeat (first | refine JX.ret_pass ?_ | refine JX.ret_block ?_)
      exact JX.retC2sub rfl rfl sz_api_Expr HasOwn.mem (agg_is rfl) rfl rfl rfl (Sub.ex_eq Sub.exNil (by first | (simp +decide only [bindTop, *, ↓reduceIte] <;> rfl) | (simp_all [bindTop]; done) | (simp only [bindTop, *, ↓reduceIte, Bool.false_eq_true]; done) | (simp_all [bindTop]; done) | (simp [bindTop, *]; done))) (by first | (simp +decide only [bindTop, *, ↓reduceIte] <;> rfl) | (simp_all [bindTop]; done) | (simp only [bindTop, *, ↓reduceIte, Bool.false_eq_true]; done) | (simp_all [bindTop]; done) | (simp [bindTop, *]; done)) (by first | (simp +decide only [bindTop, *, ↓reduceIte] <;> rfl) | (simp_all [bindTop]; done) | (simp only [bindTop, *, ↓reduceIte, Bool.false_eq_true]; done) | (simp_all [bindTop]; done) | (simp [bindTop, *]; done))
    ·
      try simp only [decide_eq_true_eq, decide_eq_false_iff_not] at ht28
      refine J.skip ?_
      repeat (first | refine JX.next ?_ | refine JX.normal_block ?_)
      repeat refine J.seq ?_
      refine J.block ?_
      repeat refine J.seq ?_
      refine J.reg0 hmx (by kernel_rfl) (by kernel_rfl) ?_
      refine RT.t (ob_fieldAddr fo_api_Expr_0 rfl) ?_
      refine RT.t (ob_ld1 sz_int rfl rfl) ?_
      refine RT.t (ob_eql rfl rfl) ?_
      refine RT.t (ob_move rfl) ?_
      refine RT.g rfl rfl rfl (fun hg => ob_fieldAddr fo_api_Expr_1 (.inl rfl)) ?_
      refine RT.g rfl rfl rfl (fun hg => ob_ldN (cs := [_, _, _]) sz_api_Value (.inr ⟨_, rfl, fun h => h⟩) rfl rfl) ?_
      refine RT.g rfl rfl rfl (fun hg => ob_call (.inl rfl) (c_value_Ok _ _ _) (.one (.inr ⟨_, rfl, fun h => h⟩) .nil)) ?_
      refine RT.t (ob_pickAnd rfl rfl rfl id) ?_
      refine RT.t (ob_assign rfl) ?_
      refine RT.nil ?_
      refine FinS.nil0 ?_
      repeat (first | refine JX.next ?_ | refine JX.normal_block ?_)
      refine J.sel [1, 2, 4, 30] (.cons rfl (.cons rfl (.cons rfl (.cons rfl .nil)))) ?_
      repeat refine J.seq ?_
      refine J.cond rfl (fun ht30 => ?_) (fun ht30 => ?_)
      ·
        try simp only [decide_eq_true_eq, decide_eq_false_iff_not] at ht30
        repeat refine J.seq ?_
        refine J.front b4 (by repeat (first | exact .here | apply Front.there)) ?_
        refine J.reg1 hmx (by kernel_rfl) (by kernel_rfl) ?_
        refine RT.t (ob_fieldAddr fo_api_Expr_0 rfl) ?_
        refine RT.t (ob_ld1 sz_int rfl rfl) ?_
        refine RT.t (ob_fieldAddr fo_api_Expr_1 rfl) ?_
        refine RT.t (ob_ldN (cs := [_, _, _]) sz_api_Value rfl rfl rfl) ?_
        refine RT.t (ob_build (cs := [_, _, _, _, _, _, _, _]) sh_api_Expr (.cons rfl (.cons rfl .nil)) rfl rfl) ?_
        refine RT.t (ob_fieldAddr fo_api_Expr_1 rfl) ?_
        refine RT.t (ob_fieldAddr fo_api_Value_0 rfl) ?_
        refine RT.t (ob_ld1 sz_int rfl rfl) ?_
        refine RT.m rfl (obm_store rfl rfl (by repeat (first | exact .here | apply Upd.there)) (by first | exact cnt_is rfl rfl | exact cnt_ex) (by first | exact cnt_is rfl rfl | exact cnt_ex | exact cnt_aggO) ss_api_Expr) (by rfl) ?_
        refine RT.t (ob_assign rfl) ?_
        refine RT.t (ob_assign rfl) ?_
        refine RT.nil ?_
        refine FinS.nil1 ?_
        repeat (first | refine JX.next ?_ | refine JX.normal_block ?_)
        refine J.sel [4, 5, 6] (.cons rfl (.cons rfl (.cons rfl .nil))) ?_
        repeat refine J.seq ?_
        refine J.ret ?_
        repeat (first | refine JX.ret_pass ?_ | refine JX.ret_block ?_)
        exact JX.retC2sub rfl rfl sz_api_Expr HasOwn.mem (agg_is rfl) rfl rfl rfl (Sub.ex_eq Sub.exNil (by first | (simp +decide only [bindTop, *, ↓reduceIte] <;> rfl) | (simp_all [bindTop]; done) | (simp only [bindTop, *, ↓reduceIte, Bool.false_eq_true]; done) | (simp_all [bindTop]; done) | (simp [bindTop, *]; done))) (by first | (simp +decide only [bindTop, *, ↓reduceIte] <;> rfl) | (simp_all [bindTop]; done) | (simp only [bindTop, *, ↓reduceIte, Bool.false_eq_true]; done) | (simp_all [bindTop]; done) | (simp [bindTop, *]; done)) (by first | (simp +decide only [bindTop, *, ↓reduceIte] <;> rfl) | (simp_all [bindTop]; done) | (simp only [bindTop, *, ↓reduceIte, Bool.false_eq_true]; done) | (simp_all [bindTop]; done) | (simp [bindTop, *]; done))
      ·
        try simp only [decide_eq_true_eq, decide_eq_false_iff_not] at ht30
        repeat refine J.seq ?_
        refine J.plain ?_
        refine JO.t (ob_fieldAddr fo_api_Expr_0 rfl) rfl ?_
        refine JO.t (ob_ld1 sz_int rfl rfl) rfl ?_
        refine JO.t (ob_eql rfl rfl) rfl ?_
        refine JO.t (ob_assign rfl) rfl ?_
        refine JO.nil ?_
        repeat (first | refine JX.next ?_ | refine JX.normal_block ?_)
        refine J.sel [1, 2, 4, 47] (.cons rfl (.cons rfl (.cons rfl (.cons rfl .nil)))) ?_
        repeat refine J.seq ?_
        refine J.cond rfl (fun ht47 => ?_) (fun ht47 => ?_)
        ·
          try simp only [decide_eq_true_eq, decide_eq_false_iff_not] at ht47
          repeat refine J.seq ?_
          refine J.plain ?_
          refine JO.t (ob_build (cs := [_, _, _, _, _, _, _, _]) sh_api_Expr .nil rfl rfl) rfl ?_
          refine JO.m (obm_store rfl rfl (by repeat (first | exact .here | apply Upd.there)) (by first | exact cnt_is rfl rfl | exact cnt_ex) (by first | exact cnt_is rfl rfl | exact cnt_ex | exact cnt_aggO) ss_api_Expr) (by rfl) ?_
          refine JO.t (ob_assign rfl) rfl ?_
          refine JO.t (ob_assign rfl) rfl ?_
          refine JO.nil ?_
          repeat (first | refine JX.next ?_ | refine JX.normal_block ?_)
          refine J.sel [4, 5, 6] (.cons rfl (.cons rfl (.cons rfl .nil))) ?_
          repeat refine J.seq ?_
          refine J.ret ?_
          repeat (first | refine JX.ret_pass ?_ | refine JX.ret_block ?_)
          exact JX.retC2sub rfl rfl sz_api_Expr HasOwn.mem (agg_is rfl) rfl rfl rfl (Sub.ex_eq Sub.exNil (by have h30 := ht30; simp only [ht47, Bool.true_and] at h30; simp +decide only [bindTop, *, ↓reduceIte] <;> rfl)) (by have h30 := ht30; simp only [ht47, Bool.true_and] at h30; simp +decide only [bindTop, *, ↓reduceIte] <;> rfl) (by have h30 := ht30; simp only [ht47, Bool.true_and] at h30; simp +decide only [bindTop, *, ↓reduceIte] <;> rfl)
        ·
          try simp only [decide_eq_true_eq, decide_eq_false_iff_not] at ht47
          repeat refine J.seq ?_
          refine J.plain ?_
          refine JO.t (ob_fieldAddr fo_api_Expr_0 rfl) rfl ?_
          refine JO.t (ob_ld1 sz_int rfl rfl) rfl ?_
          refine JO.t (ob_eql rfl rfl) rfl ?_
          refine JO.t (ob_assign rfl) rfl ?_
          refine JO.nil ?_
          repeat (first | refine JX.next ?_ | refine JX.normal_block ?_)
          refine J.sel [1, 2, 4, 52] (.cons rfl (.cons rfl (.cons rfl (.cons rfl .nil)))) ?_
          repeat refine J.seq ?_
          refine J.cond rfl (fun ht52 => ?_) (fun ht52 => ?_)
          ·
            try simp only [decide_eq_true_eq, decide_eq_false_iff_not] at ht52
            repeat refine J.seq ?_
            refine J.plain ?_
            refine JO.t (ob_fieldAddr fo_api_Expr_2 rfl) rfl ?_
            refine JO.t (ob_ld1 sz_string rfl rfl) rfl ?_
            refine JO.t (ob_fieldAddr fo_api_Expr_3 rfl) rfl ?_
            refine JO.t (ob_ld1 sz_string rfl rfl) rfl ?_
            refine JO.t (ob_move rfl) rfl ?_
            refine JO.t (ob_call rfl (c_bind_Find tb nm cols (by omega)) (.one rfl (.one rfl (.sub rfl (Sub.slFact (by simp)) .nil)))) rfl ?_
            refine JO.t (ob_move rfl) rfl ?_
            refine JO.t (ob_extract0 rfl) rfl ?_
            refine JO.t (ob_extract1 rfl) rfl ?_
            refine JO.t (ob_assign rfl) rfl ?_
            refine JO.t (ob_assign rfl) rfl ?_
            refine JO.nil ?_
            repeat (first | refine JX.next ?_ | refine JX.normal_block ?_)
            refine J.sel [1, 4, 7, 8] (.cons rfl (.cons rfl (.cons rfl (.cons rfl .nil)))) ?_
            repeat refine J.seq ?_
            refine J.plain ?_
            refine JO.t (ob_move rfl) rfl ?_
            refine JO.t (ob_neq rfl rfl) rfl ?_
            refine JO.nil ?_
            repeat (first | refine JX.next ?_ | refine JX.normal_block ?_)
            refine J.sel [1, 4, 7, 8, 66] (.cons rfl (.cons rfl (.cons rfl (.cons rfl (.cons rfl .nil))))) ?_
            repeat refine J.seq ?_
            refine J.cond rfl (fun ht66 => ?_) (fun ht66 => ?_)
            ·
              try simp only [decide_eq_true_eq, decide_eq_false_iff_not] at ht66
              repeat refine J.seq ?_
              refine J.plain ?_
              refine JO.t (ob_build (cs := [_, _, _, _, _, _, _, _]) sh_api_Expr .nil rfl rfl) rfl ?_
              refine JO.t (ob_move rfl) rfl ?_
              refine JO.m (obm_store rfl rfl (by repeat (first | exact .here | apply Upd.there)) (by first | exact cnt_is rfl rfl | exact cnt_ex) (by first | exact cnt_is rfl rfl | exact cnt_ex | exact cnt_aggO) ss_api_Expr) (by rfl) ?_
              refine JO.t (ob_assign rfl) rfl ?_
              refine JO.t (ob_assign rfl) rfl ?_
              refine JO.nil ?_
              repeat (first | refine JX.next ?_ | refine JX.normal_block ?_)
              refine J.sel [4, 5, 6] (.cons rfl (.cons rfl (.cons rfl .nil))) ?_
              repeat refine J.seq ?_
              refine J.ret ?_
              repeat (first | refine JX.ret_pass ?_ | refine JX.ret_block ?_)
              exact JX.retC2sub rfl rfl sz_api_Expr HasOwn.mem (agg_is rfl) rfl rfl rfl (Sub.ex_eq Sub.exNil (by first | (simp +decide only [bindTop, *, ↓reduceIte] <;> rfl) | (simp_all [bindTop]; done) | (simp only [bindTop, *, ↓reduceIte, Bool.false_eq_true]; done) | (simp_all [bindTop]; done) | (simp [bindTop, *]; done))) (by first | (simp +decide only [bindTop, *, ↓reduceIte] <;> rfl) | (simp_all [bindTop]; done) | (simp only [bindTop, *, ↓reduceIte, Bool.false_eq_true]; done) | (simp_all [bindTop]; done) | (simp [bindTop, *]; done)) (by first | (simp +decide only [bindTop, *, ↓reduceIte] <;> rfl) | (simp_all [bindTop]; done) | (simp only [bindTop, *, ↓reduceIte, Bool.false_eq_true]; done) | (simp_all [bindTop]; done) | (simp [bindTop, *]; done))
            ·
              try simp only [decide_eq_true_eq, decide_eq_false_iff_not] at ht66
              refine J.skip ?_
              repeat (first | refine JX.next ?_ | refine JX.normal_block ?_)
              have hfr := find_rng (t := tb) (n := nm) (cols := cols) (by simpa using ht66)
              repeat refine J.seq ?_
              refine J.front b4 (by repeat (first | exact .here | apply Front.there)) ?_
              refine J.reg1 hmx (by kernel_rfl) (by kernel_rfl) ?_
              refine RT.t (ob_move rfl) ?_
              refine RT.t (ob_build (cs := [_, _, _, _, _, _, _, _]) sh_api_Expr (.cons rfl (.cons rfl .nil)) rfl rfl) ?_
              refine RT.t (ob_move rfl) ?_
              refine RT.t (ob_move rfl) ?_
              refine RT.t (ob_indexAddr el_sl_bind_Col rfl (hca (by omega)) rfl (by omega) (by omega)) ?_
              refine RT.t (ob_fieldAddr fo_bind_Col_2 rfl) ?_
              refine RT.t (ob_loadG1 (enc := C3.cells) (sz := 3) (i := (findCF tb nm cols).1.toNat) (j := 2) (y := cols.getD (findCF tb nm cols).1.toNat c3D) sz_int rfl (List.mem_cons_self) (hca (by omega)) (c3_get (by omega)) (by omega) rfl) ?_
              refine RT.m rfl (obm_store rfl rfl (by repeat (first | exact .here | apply Upd.there)) (by first | exact cnt_is rfl rfl | exact cnt_ex) (by first | exact cnt_is rfl rfl | exact cnt_ex | exact cnt_aggO) ss_api_Expr) (by rfl) ?_
              refine RT.t (ob_assign rfl) ?_
              refine RT.t (ob_assign rfl) ?_
              refine RT.nil ?_
              refine FinS.nil1 ?_
              repeat (first | refine JX.next ?_ | refine JX.normal_block ?_)
              refine J.sel [4, 5, 6] (.cons rfl (.cons rfl (.cons rfl .nil))) ?_
              repeat refine J.seq ?_
              refine J.ret ?_
              repeat (first | refine JX.ret_pass ?_ | refine JX.ret_block ?_)
              exact JX.retC2sub rfl rfl sz_api_Expr HasOwn.mem (agg_is rfl) rfl rfl rfl (Sub.ex_eq Sub.exNil (by first | (simp +decide only [bindTop, *, ↓reduceIte] <;> rfl) | (simp_all [bindTop]; done) | (simp only [bindTop, *, ↓reduceIte, Bool.false_eq_true]; done) | (simp_all [bindTop]; done) | (simp [bindTop, *]; done))) (by first | (simp +decide only [bindTop, *, ↓reduceIte] <;> rfl) | (simp_all [bindTop]; done) | (simp only [bindTop, *, ↓reduceIte, Bool.false_eq_true]; done) | (simp_all [bindTop]; done) | (simp [bindTop, *]; done)) (by first | (simp +decide only [bindTop, *, ↓reduceIte] <;> rfl) | (simp_all [bindTop]; done) | (simp only [bindTop, *, ↓reduceIte, Bool.false_eq_true]; done) | (simp_all [bindTop]; done) | (simp [bindTop, *]; done))
          ·
            try simp only [decide_eq_true_eq, decide_eq_false_iff_not] at ht52
            refine J.skip ?_
            repeat (first | refine JX.next ?_ | refine JX.normal_block ?_)
            have hkb : (kids.length : Int) = kidsB k := by simpa using ht28
            have hk2 : kids.length ≤ 2 := by have := hkb; unfold kidsB at this; (repeat' split at this) <;> omega
            repeat refine J.seq ?_
            refine J.plain ?_
            refine JO.t (ob_fieldAddr fo_api_Expr_0 rfl) rfl ?_
            refine JO.t (ob_ld1 sz_int rfl rfl) rfl ?_
            refine JO.t (ob_build (cs := [_, _, _, _, _, _, _, _]) sh_api_Expr (.cons rfl .nil) rfl rfl) rfl ?_
            refine JO.alloc zo_api_Expr rfl fun b9 => ?_
            refine JO.m (obm_store rfl rfl (by repeat (first | exact .here | apply Upd.there)) (by first | exact cnt_is rfl rfl | exact cnt_ex) (by first | exact cnt_is rfl rfl | exact cnt_ex | exact cnt_aggO) ss_api_Expr) (by rfl) ?_
            refine JO.nil ?_
            repeat (first | refine JX.next ?_ | refine JX.normal_block ?_)
            refine J.sel [1, 2, 4, 9] (.cons rfl (.cons rfl (.cons rfl (.cons rfl .nil)))) ?_
            repeat refine J.seq ?_
            refine J.plain ?_
            refine JO.t (ob_assign rfl) rfl ?_
            refine JO.nil ?_
            repeat (first | refine JX.next ?_ | refine JX.normal_block ?_)
            refine J.sel [1, 2, 4, 9, 10] (.cons rfl (.cons rfl (.cons rfl (.cons rfl (.cons rfl .nil))))) ?_
            repeat refine J.seq ?_
            refine J.plain ?_
            refine JO.t (ob_fieldAddr fo_api_Expr_5 rfl) rfl ?_
            refine JO.t (ob_ld1 sz_sl_api_Expr rfl rfl) rfl ?_
            refine JO.t (ob_len un_sl_api_Expr rfl) rfl ?_
            refine JO.t (ob_move rfl) rfl ?_
            refine JO.nil ?_
            repeat (first | refine JX.next ?_ | refine JX.normal_block ?_)
            refine J.sel [1, 2, 4, 9, 10, 80, 81, 82] (.cons rfl (.cons rfl (.cons rfl (.cons rfl (.cons rfl (.cons rfl (.cons rfl (.cons rfl .nil)))))))) ?_
            repeat refine J.seq ?_
            refine J.block ?_
            repeat refine J.seq ?_
            refine J.loopG (α := Nat × List XC × List Int × Option (Nat × List Value) × Nat × Option (Nat × List Value) × Nat) (fun s => [(1, .is (.slice ca cols.length ccap)), (2, .is (.pointer (some ⟨b2, 0, none⟩))), (4, .is (.pointer (some ⟨b4, 0, none⟩))), (9, .is (.pointer (some ⟨b9, 0, none⟩))), (10, .is (sliceO s.2.2.2.2.2.1 s.2.2.1.length s.2.2.2.2.2.2)), (80, .is (.slice a kids.length cap)), (81, .is (.int .i64 kids.length)), (82, .is (.int .i64 (s.1 : Nat)))]) (fun s => ⟨b9, ty_api_Expr, .is (.agg [.int .i64 k, .int .i64 0, .int .i64 0, .string ⟨#[]⟩, .string ⟨#[]⟩, .string ⟨#[]⟩, .int .i64 0, sliceO s.2.2.2.1 s.2.1.length s.2.2.2.2.1].toArray)⟩ :: ⟨b4, ty_api_Expr, .is (.agg [.int .i64 0, .int .i64 0, .int .i64 0, .string ⟨#[]⟩, .string ⟨#[]⟩, .string ⟨#[]⟩, .int .i64 0, .slice none 0 0].toArray)⟩ :: ⟨b2, ty_api_Expr, .is (.agg (exCells k vk vn vs tb nm sl a kids.length cap).toArray)⟩ :: ownO s.2.2.2.1 ty_api_Expr (ownO s.2.2.2.2.2.1 ty_int [])) (fun s => XCF s.2.1) (fun s => s.1 ≤ kids.length ∧ s.2.1.map (·.e) = (kids.take s.1).map (fun x => (bindF cols x).1) ∧ s.2.2.1 = (kids.take s.1).map (fun x => (bindF cols x).2.1) ∧ (∀ x ∈ kids.take s.1, (bindF cols x).2.2 = 0) ∧ Grows XC.cs 8 s.2.1 s.2.2.2.1 s.2.2.2.2.1 ∧ Grows encI 1 s.2.2.1 s.2.2.2.2.2.1 s.2.2.2.2.2.2) (fun s => kids.length - s.1) (0, [], [], none, 0, none, 0) [1, 2, 4, 9, 10, 80, 81, 82] (.cons rfl (.cons rfl (.cons rfl (.cons rfl (.cons rfl (.cons rfl (.cons rfl (.cons rfl .nil)))))))) rfl (fun w p hp => by cases hp) ⟨by omega, rfl, rfl, fun x hx => by simp at hx, rfl, rfl⟩ fun ⟨i, zs, ts, st1, cp1, st2, cp2⟩ ⟨hi, hz, hts, hok, hG1, hG2⟩ => ?_
            dsimp only
            try dsimp only at zs
            try dsimp only at ts
            try dsimp only at st1
            try dsimp only at cp1
            try dsimp only at st2
            try dsimp only at cp2
            try dsimp only at hi
            try dsimp only at hz
            try dsimp only at hts
            try dsimp only at hok
            try dsimp only at hG1
            try dsimp only at hG2
            repeat refine J.seq ?_
            refine J.plain ?_
            refine JO.t (ob_lss rfl rfl) rfl ?_
            refine JO.nil ?_
            repeat (first | refine JX.next ?_ | refine JX.normal_block ?_)
            refine J.sel [1, 2, 4, 9, 10, 80, 81, 82, 83] (.cons rfl (.cons rfl (.cons rfl (.cons rfl (.cons rfl (.cons rfl (.cons rfl (.cons rfl (.cons rfl .nil))))))))) ?_
            repeat refine J.seq ?_
            refine J.cond rfl (fun ht83 => ?_) (fun ht83 => ?_)
            ·
              try simp only [decide_eq_true_eq, decide_eq_false_iff_not] at ht83
              refine J.skip ?_
              repeat (first | refine JX.next ?_ | refine JX.normal_block ?_)
              repeat refine J.seq ?_
              refine J.block ?_
              repeat refine J.seq ?_
              refine J.plain ?_
              refine JO.t (ob_indexAddr el_sl_api_Expr rfl (ha (by omega)) rfl (by omega) (by omega)) rfl ?_
              refine JO.t (ob_loadKid (i := i) (len := kids.length) (kid := kids.getD i exD) sz_api_Expr rfl (by simp) (ha (by omega)) (kid_get (by omega)) (by omega)) rfl ?_
              refine JO.alloc zo_api_Expr rfl fun b12 => ?_
              refine JO.m (obm_store rfl rfl (by repeat (first | exact .here | apply Upd.there)) (by first | exact cnt_is rfl rfl | exact cnt_ex) (by first | exact cnt_is rfl rfl | exact cnt_ex | exact cnt_aggO) ss_api_Expr) (by rfl) ?_
              refine JO.nil ?_
              repeat (first | refine JX.next ?_ | refine JX.normal_block ?_)
              refine J.sel [1, 2, 4, 9, 10, 12, 80, 81, 82] (.cons rfl (.cons rfl (.cons rfl (.cons rfl (.cons rfl (.cons rfl (.cons rfl (.cons rfl (.cons rfl .nil))))))))) ?_
              repeat refine J.seq ?_
              refine J.plain ?_
              refine JO.t (ob_ldEx sz_api_Expr rfl) rfl ?_
              refine JO.t (ob_move rfl) rfl ?_
              refine JO.t (ob_call rfl (hk _ (kid_mem (by omega))) (.one rfl (.sub rfl (Sub.slFact (by simp)) .nil))) rfl ?_
              refine JO.t (ob_move rfl) rfl ?_
              refine JO.t (ob_extract30 rfl) rfl ?_
              refine JO.t (ob_extract31 rfl) rfl ?_
              refine JO.t (ob_extract32 rfl) rfl ?_
              refine JO.alloc zo_api_Expr rfl fun b13 => ?_
              refine JO.m (obm_store rfl rfl (by repeat (first | exact .here | apply Upd.there)) (by first | exact cnt_is rfl rfl | exact cnt_ex) (by first | exact cnt_is rfl rfl | exact cnt_ex | exact cnt_aggO) ss_api_Expr) (by rfl) ?_
              refine JO.t (ob_assign rfl) rfl ?_
              refine JO.t (ob_assign rfl) rfl ?_
              refine JO.nil ?_
              repeat (first | refine JX.next ?_ | refine JX.normal_block ?_)
              refine J.sel [1, 2, 4, 9, 10, 13, 14, 15, 80, 81, 82] (.cons rfl (.cons rfl (.cons rfl (.cons rfl (.cons rfl (.cons rfl (.cons rfl (.cons rfl (.cons rfl (.cons rfl (.cons rfl .nil))))))))))) ?_
              repeat refine J.seq ?_
              refine J.plain ?_
              refine JO.t (ob_move rfl) rfl ?_
              refine JO.t (ob_neq rfl rfl) rfl ?_
              refine JO.nil ?_
              repeat (first | refine JX.next ?_ | refine JX.normal_block ?_)
              refine J.sel [1, 2, 4, 9, 10, 13, 14, 15, 80, 81, 82, 94] (.cons rfl (.cons rfl (.cons rfl (.cons rfl (.cons rfl (.cons rfl (.cons rfl (.cons rfl (.cons rfl (.cons rfl (.cons rfl (.cons rfl .nil)))))))))))) ?_
              repeat refine J.seq ?_
              refine J.cond rfl (fun ht94 => ?_) (fun ht94 => ?_)
              ·
                try simp only [decide_eq_true_eq, decide_eq_false_iff_not] at ht94
                have herr : firstE (kids.map (bindF cols)) = (bindF cols (kids.getD i exD)).2.2 := firstE_at _ i _ (fun q hq => by rw [← List.map_take] at hq; obtain ⟨x, hx, rfl⟩ := List.mem_map.1 hq; exact hok x hx) (by simp [show i < kids.length by omega]) (by simpa using ht94)
                repeat refine J.seq ?_
                refine J.plain ?_
                refine JO.t (ob_build (cs := [_, _, _, _, _, _, _, _]) sh_api_Expr .nil rfl rfl) rfl ?_
                refine JO.t (ob_move rfl) rfl ?_
                refine JO.m (obm_store rfl rfl (by repeat (first | exact .here | apply Upd.there)) (by first | exact cnt_is rfl rfl | exact cnt_ex) (by first | exact cnt_is rfl rfl | exact cnt_ex | exact cnt_aggO) ss_api_Expr) (by rfl) ?_
                refine JO.t (ob_assign rfl) rfl ?_
                refine JO.t (ob_assign rfl) rfl ?_
                refine JO.nil ?_
                repeat (first | refine JX.next ?_ | refine JX.normal_block ?_)
                refine J.sel [4, 5, 6] (.cons rfl (.cons rfl (.cons rfl .nil))) ?_
                repeat refine J.seq ?_
                refine J.ret ?_
                repeat (first | refine JX.ret_pass ?_ | refine JX.ret_block ?_)
                exact JX.retC2sub rfl rfl sz_api_Expr HasOwn.mem (agg_is rfl) rfl rfl rfl (Sub.ex_eq Sub.exNil (by simp +decide only [bindTop, herr, ht20, ht28, ht30, ht47, ht52, ht94, bne_self_eq_false, ↓reduceIte] <;> rfl)) (by simp +decide only [bindTop, herr, ht20, ht28, ht30, ht47, ht52, ht94, bne_self_eq_false, ↓reduceIte] <;> rfl) (by simp +decide only [bindTop, herr, ht20, ht28, ht30, ht47, ht52, ht94, bne_self_eq_false, ↓reduceIte] <;> rfl)
              ·
                try simp only [decide_eq_true_eq, decide_eq_false_iff_not] at ht94
                refine J.skip ?_
                repeat (first | refine JX.next ?_ | refine JX.normal_block ?_)
                repeat refine J.seq ?_
                refine J.plain ?_
                refine JO.t (ob_fieldAddr fo_api_Expr_5 rfl) rfl ?_
                refine JO.t (ob_ld1 sz_sl_api_Expr rfl rfl) rfl ?_
                refine JO.t (ob_ldEx sz_api_Expr rfl) rfl ?_
                refine JO.openX (s := 99) rfl (fun k1 vk1 vn1 vs1 tb1 nm1 sl1 a1 len1 cap1 => ?_)
                refine JO.t (ob_buildSlice (cs := [_, _, _, _, _, _, _, _]) sl_sl_api_Expr (by omega) (by omega) (.cons rfl .nil) rfl rfl rfl) rfl ?_
                have hzl : zs.length = i := by have := congrArg List.length hz; simp at this; omega
                have htl : ts.length = i := by have := congrArg List.length hts; simp at this; omega
                refine JO.apP [XC.mk' (bindF cols (kids.getD i exD)).1 k1 vk1 vn1 vs1 tb1 nm1 sl1 a1 len1 cap1] ap_sl_api_Expr (fun x => x.h) (by repeat (first | exact .here | apply Cx.past | apply Cx.there)) hG1 rfl rfl (fun L => src_new un_sl_api_Expr rfl rfl) (by simp) (by simp; omega) (by simp; omega) rfl (fun st3 cp3 hG3 => ?_)
                try dsimp only
                refine JO.t (ob_move rfl) rfl ?_
                refine JO.t (ob_move rfl) rfl ?_
                refine JO.t (ob_buildSlice (cs := [_]) sl_sl_int (by omega) (by omega) (.cons rfl .nil) rfl rfl rfl) rfl ?_
                refine JO.apP [(bindF cols (kids.getD i exD)).2.1] ap_sl_int encI_len (by repeat (first | exact .here | apply Cx.past | apply Cx.there)) hG2 rfl rfl (fun L => src_new un_sl_int rfl rfl) (by simp) (by simp; omega) (by simp; omega) rfl (fun st4 cp4 hG4 => ?_)
                try dsimp only
                refine JO.t (ob_fieldAddr fo_api_Expr_5 rfl) rfl ?_
                refine JO.m (obm_storeF1 (cs' := [_, _, _, _, _, _, _, _]) (sliceO_cells _ _ _) (sliceO_one _ _ _) rfl rfl (by repeat (first | exact .here | apply Upd.there)) rfl rfl ss_sl_api_Expr) (by rfl) ?_
                refine JO.t (ob_assign rfl) rfl ?_
                refine JO.nil ?_
                repeat (first | refine JX.next ?_ | refine JX.normal_block ?_)
                refine J.sel [1, 2, 4, 9, 10, 80, 81, 82] (.cons rfl (.cons rfl (.cons rfl (.cons rfl (.cons rfl (.cons rfl (.cons rfl (.cons rfl .nil)))))))) ?_
                repeat refine J.seq ?_
                refine J.plain ?_
                refine JO.t (ob_addc (cc := ((i + 1 : Nat) : Int)) rfl rfl (by omega) (by omega) (by omega)) rfl ?_
                refine JO.t (ob_move rfl) rfl ?_
                refine JO.nil ?_
                refine JX.roundG (x := ⟨i, zs, ts, st1, cp1, st2, cp2⟩) (i + 1, zs ++ [XC.mk' (bindF cols (kids.getD i exD)).1 k1 vk1 vn1 vs1 tb1 nm1 sl1 a1 len1 cap1], ts ++ [(bindF cols (kids.getD i exD)).2.1], st3, cp3, st4, cp4) ?_ ?_ [1, 2, 4, 9, 10, 80, 81, 82] ?_ ?_ ?_ ?_
                · exact ⟨by omega, by rw [List.map_append, hz, ← kid_take (by omega), List.map_append]; rfl, by rw [hts, ← kid_take (by omega), List.map_append]; rfl, fun x hx => by rw [← kid_take (by omega)] at hx; rcases List.mem_append.1 hx with hx | hx; exact hok x hx; (simp only [List.mem_singleton] at hx; subst hx; simpa using ht94), hG3, hG4⟩
                · exact (by simp only; omega)
                · exact (.cons rfl (.cons rfl (.cons rfl (.cons rfl (.cons rfl (.cons rfl (.cons rfl (.cons rfl .nil))))))))
                · repeat (first | exact .all | exact .nil | refine Has.own (by repeat (first | exact .here | apply Tl.past | apply Tl.there)) ?_ | refine Has.cons (by repeat (first | exact .here | apply Pk.past | apply Pk.there)) ?_)
                · exact fun G hG => by repeat (first | exact hG | refine List.mem_cons_of_mem _ ?_)
                · exact fun E w hG w1 hk1 => (hG (XCF zs) (by simp) w1 hk1).snoc (hG (ExR (bindF cols (kids.getD i exD)).1 (.agg (exCells k1 vk1 vn1 vs1 tb1 nm1 sl1 a1 len1 cap1).toArray)) (by simp) w1 hk1)
            ·
              try simp only [decide_eq_true_eq, decide_eq_false_iff_not] at ht83
              repeat refine J.seq ?_
              refine J.exit ?_
              repeat (first | refine JX.hit ?_ | refine JX.miss rfl ?_ | refine JX.exit_pass ?_)
              repeat (first | refine JX.next ?_ | refine JX.normal_block ?_)
              have hie : i = kids.length := by omega
              subst hie
              rw [List.take_length] at hz hts hok
              have herr : firstE (kids.map (bindF cols)) = 0 := firstE_zero _ (fun q hq => by obtain ⟨x, hx, rfl⟩ := List.mem_map.1 hq; exact hok x hx)
              have hts2 : ts = (kids.map (bindF cols)).map (·.2.1) := by rw [hts, List.map_map]; rfl
              clear hts
              subst hts2
              refine J.freezeO encI_len hG2 (e := ty_int) (by repeat (first | exact .here | apply Tl.past | apply Tl.there)) (fun _ h => h) rfl (by first | rfl | (simp only [List.all_cons, ownO_out]; rfl)) ?_
              refine J.freezeO (en := XC.cs) (fun x => x.h) hG1 (e := ty_api_Expr) (by repeat (first | exact .here | apply Tl.past | apply Tl.there)) (fun _ h => h) rfl (by first | rfl | (simp only [List.all_cons, ownO_out]; rfl)) ?_
              refine J.fact (KidsR (zs.map (·.e)) (adO st1) zs.length) (fun E w hG _ => fun w1 hk => kids_of_row (hG _ List.mem_cons_self w1 hk) (hG (XCF zs) (by simp) w1 hk)) ?_
              repeat refine J.seq ?_
              refine J.plain ?_
              refine JO.t (ob_fieldAddr fo_api_Expr_0 rfl) rfl ?_
              refine JO.t (ob_ld1 sz_int rfl rfl) rfl ?_
              refine JO.t (ob_move rfl) rfl ?_
              refine JO.t (ob_call rfl (c_bind_typed k ((kids.map (bindF cols)).map (·.2.1)) (by simp; omega) (by simp; intro h1 h2; have := hkb; simp [kidsB] at this; omega) (by have := hkb; simp [kidsB] at this; simp [aggF] at ht20; simp at ht47 ht52; omega)) (.one rfl (.sub rfl (Sub.slO hG2 (by simp)) .nil))) rfl ?_
              refine JO.t (ob_move rfl) rfl ?_
              refine JO.t (ob_extract0 rfl) rfl ?_
              refine JO.t (ob_extract1 rfl) rfl ?_
              refine JO.t (ob_assign rfl) rfl ?_
              refine JO.t (ob_assign rfl) rfl ?_
              refine JO.nil ?_
              repeat (first | refine JX.next ?_ | refine JX.normal_block ?_)
              refine J.sel [4, 9, 16, 17] (.cons rfl (.cons rfl (.cons rfl (.cons rfl .nil)))) ?_
              repeat refine J.seq ?_
              refine J.plain ?_
              refine JO.t (ob_move rfl) rfl ?_
              refine JO.t (ob_not rfl) rfl ?_
              refine JO.nil ?_
              repeat (first | refine JX.next ?_ | refine JX.normal_block ?_)
              refine J.sel [4, 9, 16, 116] (.cons rfl (.cons rfl (.cons rfl (.cons rfl .nil)))) ?_
              repeat refine J.seq ?_
              refine J.cond rfl (fun ht116 => ?_) (fun ht116 => ?_)
              ·
                try simp only [decide_eq_true_eq, decide_eq_false_iff_not] at ht116
                repeat refine J.seq ?_
                refine J.plain ?_
                refine JO.t (ob_build (cs := [_, _, _, _, _, _, _, _]) sh_api_Expr .nil rfl rfl) rfl ?_
                refine JO.m (obm_store rfl rfl (by repeat (first | exact .here | apply Upd.there)) (by first | exact cnt_is rfl rfl | exact cnt_ex) (by first | exact cnt_is rfl rfl | exact cnt_ex | exact cnt_aggO) ss_api_Expr) (by rfl) ?_
                refine JO.t (ob_assign rfl) rfl ?_
                refine JO.t (ob_assign rfl) rfl ?_
                refine JO.nil ?_
                repeat (first | refine JX.next ?_ | refine JX.normal_block ?_)
                refine J.sel [4, 5, 6] (.cons rfl (.cons rfl (.cons rfl .nil))) ?_
                repeat refine J.seq ?_
                refine J.ret ?_
                repeat (first | refine JX.ret_pass ?_ | refine JX.ret_block ?_)
                exact JX.retC2sub rfl rfl sz_api_Expr HasOwn.mem (agg_is rfl) rfl rfl rfl (Sub.ex_eq Sub.exNil (by simp +decide only [bindTop, herr, ht20, ht28, ht30, ht47, ht52, ht116, bne_self_eq_false, ↓reduceIte] <;> rfl)) (by simp +decide only [bindTop, herr, ht20, ht28, ht30, ht47, ht52, ht116, bne_self_eq_false, ↓reduceIte] <;> rfl) (by simp +decide only [bindTop, herr, ht20, ht28, ht30, ht47, ht52, ht116, bne_self_eq_false, ↓reduceIte] <;> rfl)
              ·
                try simp only [decide_eq_true_eq, decide_eq_false_iff_not] at ht116
                refine J.skip ?_
                repeat (first | refine JX.next ?_ | refine JX.normal_block ?_)
                repeat refine J.seq ?_
                refine J.plain ?_
                refine JO.t (ob_ldN (cs := [_, _, _, _, _, _, _, _]) sz_api_Expr rfl rfl rfl) rfl ?_
                refine JO.t (ob_move rfl) rfl ?_
                refine JO.m (obm_store rfl rfl (by repeat (first | exact .here | apply Upd.there)) (by first | exact cnt_is rfl rfl | exact cnt_ex) (by first | exact cnt_is rfl rfl | exact cnt_ex | exact cnt_aggO) ss_api_Expr) (by rfl) ?_
                refine JO.t (ob_assign rfl) rfl ?_
                refine JO.t (ob_assign rfl) rfl ?_
                refine JO.nil ?_
                repeat (first | refine JX.next ?_ | refine JX.normal_block ?_)
                refine J.sel [4, 5, 6] (.cons rfl (.cons rfl (.cons rfl .nil))) ?_
                repeat refine J.seq ?_
                refine J.ret ?_
                repeat (first | refine JX.ret_pass ?_ | refine JX.ret_block ?_)
                exact JX.retC2sub rfl rfl sz_api_Expr HasOwn.mem (agg_is rfl) rfl rfl rfl (Sub.ex_eq (Sub.exMkO hG1 List.mem_cons_self) (by simp +decide only [bindTop, herr, ht20, ht28, ht30, ht47, ht52, ht116, bne_self_eq_false, ↓reduceIte]; rw [hz, List.map_map]; rfl)) (by simp +decide only [bindTop, herr, ht20, ht28, ht30, ht47, ht52, ht116, bne_self_eq_false, ↓reduceIte] <;> rfl) (by simp +decide only [bindTop, herr, ht20, ht28, ht30, ht47, ht52, ht116, bne_self_eq_false, ↓reduceIte] <;> rfl)
mutual
theorem bindOK (cols : List C3) (hl : cols.length ≤ 9223372036854775806) : ∀ x : Ex, BindOK cols x
  | .mk k vk vn vs tb nm sl kids => by
    have h := c_bind_BindM cols hl k vk vn vs tb nm sl kids (bindOKs cols hl kids)
    rw [← bindsF_eq] at h
    show CallTy _ _ _ _
    rw [bindF]
    exact h
theorem bindOKs (cols : List C3) (hl : cols.length ≤ 9223372036854775806) : ∀ kids : List Ex, ∀ x ∈ kids, BindOK cols x
  | [], x, h => by cases h
  | y :: ys, x, h => by
    rcases List.mem_cons.1 h with e | h
    · rw [e]; exact bindOK cols hl y
    · exact bindOKs cols hl ys x h
end
end Go.Proofs.Ytjlojkchgfeenaa
