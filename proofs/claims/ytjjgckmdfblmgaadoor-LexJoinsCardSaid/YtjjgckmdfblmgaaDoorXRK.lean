/- The document's scanner: all tokens. No condition. -/
import Derived.Test.YtjjgckmdfblmgaaDoorXRJ
import Derived.Test.YtjjgckmdfblmgaaDoorXG4
set_option maxRecDepth 20000
namespace Go.Proofs.YtjjgckmdfblmgaaDoor
open Go Go.Vc
theorem k_let (b : UInt8) : (classF b.toNat == 1) = letB b := (cls_all b).1
theorem k_word (b : UInt8) : ((classF b.toNat == 1) || (classF b.toNat == 2)) = wordB b := (cls_all b).2.1
theorem k_dig (b : UInt8) : (classF b.toNat == 2) = digB b := (cls_all b).2.2.1
theorem k_sp (b : UInt8) : (classF b.toNat == 3) = isSp b := (cls_all b).2.2.2.1
theorem ref_next {s : ByteArray} {i : Nat} {xs : List T3} {X : List T3 × Int} {t : T3} {e : Int} {k : Nat} (h : i < s.size) (hsp : isSp (by_ s i) = false) (hst : stepL (dr s i) = ((t, e), k)) (he : e = 0) (hr : finA xs (allA (dr s i)) = X) : finA (xs ++ [t]) (allA (dr s (i + k))) = X := by
  have hs0 : runN isSp (dr s i) = 0 := run_stop fun _ => hsp
  subst he
  rw [← hr, allA_step hs0 (dr_ne h), hst, if_neg (by simp), finA_fin, dr_drop]
theorem ref_err {s : ByteArray} {i : Nat} {xs : List T3} {X : List T3 × Int} {t : T3} {e : Int} {k : Nat} (h : i < s.size) (hsp : isSp (by_ s i) = false) (hst : stepL (dr s i) = ((t, e), k)) (he : e ≠ 0) (hr : finA xs (allA (dr s i)) = X) : X = ([], e) := by
  have := lex_err h (run_stop fun _ => hsp) (by rw [hst]; exact he) hr
  rw [hst] at this
  exact this
theorem ref_space {s : ByteArray} {i : Nat} {xs : List T3} {X : List T3 × Int} (h : i < s.size) (hsp : isSp (by_ s i) = true) (hr : finA xs (allA (dr s i)) = X) : finA xs (allA (dr s (i + 1))) = X := by
  rw [← hr, ← allA_sp (dr s i), ← allA_sp (dr s (i + 1)), dr_drop, dr_drop, run_go h hsp, show i + (runN isSp (dr s (i + 1)) + 1) = i + 1 + runN isSp (dr s (i + 1)) by omega]
theorem ref_start {s : ByteArray} (h : s.size ≤ 2048) : finA [] (allA (dr s 0)) = lexL s.data.toList := by
  rw [finA_nil]
  unfold lexL
  rw [if_neg (by rw [len_bytes]; simp; omega)]
  rfl
theorem st_word {s : ByteArray} {i : Nat} (h : i < s.size) (hl : letB (by_ s i) = true) : stepL (dr s i) = (((wordL (s.extract i (i + runN wordB (dr s i))).data.toList).1, (wordL (s.extract i (i + runN wordB (dr s i))).data.toList).2), runN wordB (dr s i)) := by
  show _ = (wordL (s.extract i (i + runN wordB (dr s i))).data.toList, runN wordB (dr s i))
  rw [ext_bytes, dr_cons h, stepL, if_pos hl]
theorem st_num {s : ByteArray} {i : Nat} (h : i < s.size) (hl : letB (by_ s i) = false) (hd : digB (by_ s i) = true) : stepL (dr s i) = (numL (dr s i), runN digB (dr s i)) := by
  rw [dr_cons h, stepL, if_neg (by rw [hl]; simp), if_pos hd]
theorem st_text {s : ByteArray} {i : Nat} (h : i < s.size) (hl : letB (by_ s i) = false) (hd : digB (by_ s i) = false) (hq : (by_ s i == 39) = true) : stepL (dr s i) = ((textL (dr s (i + 1)) []).1, (textL (dr s (i + 1)) []).2 + 1) := by
  rw [dr_cons h, stepL, if_neg (by rw [hl]; simp), if_neg (by rw [hd]; simp), if_pos hq]
theorem st_sign {s : ByteArray} {i : Nat} (h : i < s.size) (hl : letB (by_ s i) = false) (hd : digB (by_ s i) = false) (hq : (by_ s i == 39) = false) : stepL (dr s i) = signL (dr s i) := by
  rw [dr_cons h, stepL, if_neg (by rw [hl]; simp), if_neg (by rw [hd]; simp), if_neg (by rw [hq]; simp)]
theorem ext_word (s : ByteArray) (n : Nat) : ∀ b ∈ (s.extract n (n + runN wordB (dr s n))).data.toList, wordB b = true := fun b h => by
  rw [ext_bytes] at h
  exact run_all wordB _ b h
theorem num_bad {s : ByteArray} {i : Nat} {xs : List T3} {X : List T3 × Int} (h : i < s.size) (hsp : isSp (by_ s i) = false) (hl : letB (by_ s i) = false) (hd : digB (by_ s i) = true) (hh : headP letB ((dr s i).drop (runN digB (dr s i))) = true) (hr : finA xs (allA (dr s i)) = X) : X = ([], 30) :=
  ref_err (t := t3D) (k := runN digB (dr s i)) h hsp (by rw [st_num h hl hd, num_let hh]) (by decide) hr
theorem num_over {s : ByteArray} {i : Nat} {xs : List T3} {X : List T3 × Int} (h : i < s.size) (hsp : isSp (by_ s i) = false) (hl : letB (by_ s i) = false) (hd : digB (by_ s i) = true) (hh : headP letB ((dr s i).drop (runN digB (dr s i))) = false) (ho : (refNum (s.extract i (i + runN digB (dr s i))).data.toList).2 = false) (hr : finA xs (allA (dr s i)) = X) : X = ([], 35) := by
  rw [ext_bytes] at ho
  exact ref_err (t := t3D) (k := runN digB (dr s i)) h hsp (by rw [st_num h hl hd, num_ref hh, if_neg (by rw [ho]; simp)]) (by decide) hr
theorem num_ok {s : ByteArray} {i : Nat} (h : i < s.size) (hl : letB (by_ s i) = false) (hd : digB (by_ s i) = true) (hh : headP letB ((dr s i).drop (runN digB (dr s i))) = false) (ho : (refNum (s.extract i (i + runN digB (dr s i))).data.toList).2 = true) : stepL (dr s i) = ((⟨3, ⟨#[]⟩, (refNum (s.extract i (i + runN digB (dr s i))).data.toList).1⟩, 0), runN digB (dr s i)) := by
  rw [ext_bytes] at ho ⊢
  rw [st_num h hl hd, num_ref hh, if_pos ho]
theorem txt_bad {s : ByteArray} {i : Nat} {xs : List T3} {X : List T3 × Int} (h : i < s.size) (hsp : isSp (by_ s i) = false) (hl : letB (by_ s i) = false) (hd : digB (by_ s i) = false) (hq : (by_ s i == 39) = true) (ht : (decide (quoE (quoP s i) < 0) || decide (64 < ((quoS (quoP s i)).size : Int))) = true) (hr : finA xs (allA (dr s i)) = X) : X = ([], 30) := by
  obtain ⟨q1, q2⟩ := quo_text (dr s (i + 1)) []
  refine ref_err (t := t3D) (k := (textL (dr s (i + 1)) []).2 + 1) h hsp ?_ (by decide) hr
  rw [st_text h hl hd hq]
  cases e : quoF (dr s (i + 1)) [] with
  | none => rw [q1 e]
  | some r =>
    have e2 : quoP s i = some (r.1, i + 1 + r.2) := by unfold quoP; rw [e]; rfl
    rw [e2] at ht
    have h3 : 64 < (r.1.length : Int) := by
      simp only [quoE, quoS, Bool.or_eq_true, decide_eq_true_eq, bl_size] at ht
      rcases ht with ht | ht
      · exact absurd (of_decide_eq_true ht) (Int.not_lt.2 (Int.natCast_nonneg _))
      · first | exact ht | exact of_decide_eq_true ht
    have : textL (dr s (i + 1)) [] = ((t3D, 30), r.2) := by
      rw [q2 r e]
      unfold endT
      rw [if_pos (decide_eq_true h3)]
    rw [this]
theorem txt_ok {s : ByteArray} {i : Nat} (h : i < s.size) (hl : letB (by_ s i) = false) (hd : digB (by_ s i) = false) (hq : (by_ s i == 39) = true) (ht : (decide (quoE (quoP s i) < 0) || decide (64 < ((quoS (quoP s i)).size : Int))) = false) :
    ∃ acc r, quoP s i = some (acc, i + r) ∧ 1 ≤ r ∧ stepL (dr s i) = ((⟨4, bl acc, 0⟩, 0), r) := by
  obtain ⟨q1, q2⟩ := quo_text (dr s (i + 1)) []
  cases e : quoF (dr s (i + 1)) [] with
  | none =>
    have e2 : quoP s i = none := by unfold quoP; rw [e]; rfl
    rw [e2] at ht
    simp [quoE] at ht
  | some r =>
    have e2 : quoP s i = some (r.1, i + 1 + r.2) := by unfold quoP; rw [e]; rfl
    rw [e2] at ht
    have h3 : ¬ 64 < (r.1.length : Int) := by
      simp only [quoE, quoS, Bool.or_eq_false_iff, decide_eq_false_iff_not, bl_size] at ht
      exact ht.2
    refine ⟨r.1, r.2 + 1, by rw [e2, show i + 1 + r.2 = i + (r.2 + 1) by omega], by omega, ?_⟩
    rw [st_text h hl hd hq, q2 r e]
    unfold endT
    rw [if_neg (by rw [decide_eq_false h3]; simp)]
theorem ext_lo (s : ByteArray) (i : Nat) (h : i ≤ s.size) : (s.extract i s.size).data.toList = dr s i := by
  have := ext_bytes s i (s.size - i)
  rw [show i + (s.size - i) = s.size by omega] at this
  rw [this, List.take_of_length_le (by rw [dr_len]; exact Nat.le_refl _)]
theorem sgn_nat (l : List UInt8) : ∃ k : Nat, signRF l = (k : Int) ∧ k ≤ 2 := by
  unfold signRF
  split
  · exact ⟨2, rfl, by omega⟩
  · split
    · exact ⟨1, rfl, by omega⟩
    · exact ⟨0, rfl, by omega⟩
theorem not_32 {b : UInt8} (h : isSp b = false) : b ≠ 32 := fun e => by subst e; cases h
theorem sgn_bad {s : ByteArray} {i k : Nat} {xs : List T3} {X : List T3 × Int} (h : i < s.size) (hsp : isSp (by_ s i) = false) (hl : letB (by_ s i) = false) (hd : digB (by_ s i) = false) (hq : (by_ s i == 39) = false) (hk : signRF (dr s i) = (k : Int)) (h0 : ((k : Int) == 0) = true) (hr : finA xs (allA (dr s i)) = X) : X = ([], 30) := by
  refine ref_err (t := t3D) (k := 0) h hsp ?_ (by decide) hr
  rw [st_sign h hl hd hq]
  have h1 := dr_cons h
  rw [h1] at hk ⊢
  rw [sign_is (not_32 hsp), hk, if_pos (by simpa using h0)]
theorem sgn_ok {s : ByteArray} {i k : Nat} (h : i < s.size) (hsp : isSp (by_ s i) = false) (hl : letB (by_ s i) = false) (hd : digB (by_ s i) = false) (hq : (by_ s i == 39) = false) (hk : signRF (dr s i) = (k : Int)) (h0 : ((k : Int) == 0) = false) : stepL (dr s i) = ((⟨5, s.extract i (i + k), 0⟩, 0), k) := by
  rw [st_sign h hl hd hq, ext_eq]
  have h1 := dr_cons h
  rw [h1] at hk ⊢
  rw [sign_is (not_32 hsp), hk, if_neg (by simpa using h0)]
  rfl
theorem c_ref09_All (s : ByteArray) : CallTy Tryd.prog f_ref09_All [.is (.string s)] (.tup2 (.rep (SlG T3.cells 3 (lexL s.data.toList).1)) (.is (.int .i64 (lexL s.data.toList).2))) :=
  CallTy.of (fn := Tryd.f10) Tryd.func10 (n := 156) rfl rfl rfl (fun _ _ => by kernel_rfl) fun E W => by
  repeat refine J.seq ?_
  refine J.plain ?_
  refine JO.t (ob_assign rfl) rfl ?_
  refine JO.t (ob_assign rfl) rfl ?_
  refine JO.nil ?_
  repeat (first | refine JX.next ?_ | refine JX.normal_block ?_)
  refine J.sel [0] (.cons rfl .nil) ?_
  repeat refine J.seq ?_
  refine J.plain ?_
  refine JO.t (ob_move rfl) rfl ?_
  refine JO.t (ob_slen un_string rfl) rfl ?_
  refine JO.t (ob_gtr rfl rfl) rfl ?_
  refine JO.nil ?_
  repeat (first | refine JX.next ?_ | refine JX.normal_block ?_)
  refine J.sel [0, 17] (.cons rfl (.cons rfl .nil)) ?_
  repeat refine J.seq ?_
  refine J.cond rfl (fun ht17 => ?_) (fun ht17 => ?_)
  ·
    try simp only [decide_eq_true_eq, decide_eq_false_iff_not] at ht17
    have hx : lexL s.data.toList = ([], 30) := by unfold lexL; rw [if_pos (by rw [len_bytes]; simpa using ht17)]
    repeat refine J.seq ?_
    refine J.plain ?_
    refine JO.t (ob_assign rfl) rfl ?_
    refine JO.t (ob_assign rfl) rfl ?_
    refine JO.nil ?_
    repeat (first | refine JX.next ?_ | refine JX.normal_block ?_)
    refine J.sel [2, 3] (.cons rfl (.cons rfl .nil)) ?_
    repeat refine J.seq ?_
    refine J.ret ?_
    repeat (first | refine JX.ret_pass ?_ | refine JX.ret_block ?_)
    exact JX.ret2sub rfl rfl rfl (by rw [hx]; exact Sub.slNil) rfl (Sub.isEq (by rw [hx]))
  ·
    try simp only [decide_eq_true_eq, decide_eq_false_iff_not] at ht17
    refine J.skip ?_
    repeat (first | refine JX.next ?_ | refine JX.normal_block ?_)
    have hsz : s.size ≤ 2048 := by omega
    repeat refine J.seq ?_
    refine J.plain ?_
    refine JO.t (ob_assign rfl) rfl ?_
    refine JO.nil ?_
    repeat (first | refine JX.next ?_ | refine JX.normal_block ?_)
    refine J.sel [0, 4] (.cons rfl (.cons rfl .nil)) ?_
    repeat refine J.seq ?_
    refine J.plain ?_
    refine JO.t (ob_assign rfl) rfl ?_
    refine JO.nil ?_
    repeat (first | refine JX.next ?_ | refine JX.normal_block ?_)
    refine J.sel [0, 4, 5] (.cons rfl (.cons rfl (.cons rfl .nil))) ?_
    repeat refine J.seq ?_
    refine J.block ?_
    repeat refine J.seq ?_
    refine J.loopG (α := Nat × List T3 × Option (Nat × List Value) × Nat) (fun z => [(0, .is (.string s)), (4, .is (sliceO z.2.2.1 z.2.1.length z.2.2.2)), (5, .is (.int .i64 (z.1 : Nat)))]) (fun z => ownO z.2.2.1 ty_api_Token []) (fun z => fun _ => True) (fun z => z.1 ≤ s.size ∧ finA z.2.1 (allA (dr s z.1)) = lexL s.data.toList ∧ Grows T3.cells 3 z.2.1 z.2.2.1 z.2.2.2 ∧ z.2.1.length ≤ z.1) (fun z => s.size - z.1) (0, [], none, 0) [0, 4, 5] (.cons rfl (.cons rfl (.cons rfl .nil))) rfl (fun _ => trivial) ⟨by omega, ref_start hsz, rfl, by simp⟩ fun ⟨i, xs, st, cp⟩ ⟨hi, hr, hG, hal⟩ => ?_
    try dsimp only
    try dsimp only at xs
    try dsimp only at st
    try dsimp only at cp
    try dsimp only at hi
    try dsimp only at hr
    try dsimp only at hG
    try dsimp only at hal
    repeat refine J.seq ?_
    refine J.plain ?_
    refine JO.t (ob_move rfl) rfl ?_
    refine JO.t (ob_move rfl) rfl ?_
    refine JO.t (ob_slen un_string rfl) rfl ?_
    refine JO.t (ob_lss rfl rfl) rfl ?_
    refine JO.nil ?_
    repeat (first | refine JX.next ?_ | refine JX.normal_block ?_)
    refine J.sel [0, 4, 5, 21] (.cons rfl (.cons rfl (.cons rfl (.cons rfl .nil)))) ?_
    repeat refine J.seq ?_
    refine J.cond rfl (fun ht21 => ?_) (fun ht21 => ?_)
    ·
      try simp only [decide_eq_true_eq, decide_eq_false_iff_not] at ht21
      refine J.skip ?_
      repeat (first | refine JX.next ?_ | refine JX.normal_block ?_)
      repeat refine J.seq ?_
      refine J.block ?_
      have hlt : i < s.size := by omega
      repeat refine J.seq ?_
      refine J.plain ?_
      refine JO.t (ob_move rfl) rfl ?_
      refine JO.t (ob_move rfl) rfl ?_
      refine JO.t (ob_sindex un_string rfl rfl (by omega) (by omega)) rfl ?_
      refine JO.t (ob_call rfl (c_ref09_class _) (.one rfl .nil)) rfl ?_
      refine JO.t (ob_assign rfl) rfl ?_
      refine JO.nil ?_
      repeat (first | refine JX.next ?_ | refine JX.normal_block ?_)
      refine J.sel [0, 4, 5, 6] (.cons rfl (.cons rfl (.cons rfl (.cons rfl .nil)))) ?_
      repeat refine J.seq ?_
      refine J.plain ?_
      refine JO.t (ob_move rfl) rfl ?_
      refine JO.t (ob_assign rfl) rfl ?_
      refine JO.nil ?_
      repeat (first | refine JX.next ?_ | refine JX.normal_block ?_)
      refine J.sel [0, 4, 5, 6, 7] (.cons rfl (.cons rfl (.cons rfl (.cons rfl (.cons rfl .nil))))) ?_
      repeat refine J.seq ?_
      refine J.block ?_
      repeat refine J.seq ?_
      refine J.plain ?_
      refine JO.t (ob_move rfl) rfl ?_
      refine JO.t (ob_eql rfl rfl) rfl ?_
      refine JO.t (ob_assign rfl) rfl ?_
      refine JO.nil ?_
      repeat (first | refine JX.next ?_ | refine JX.normal_block ?_)
      refine J.sel [0, 4, 5, 6, 7, 46] (.cons rfl (.cons rfl (.cons rfl (.cons rfl (.cons rfl (.cons rfl .nil)))))) ?_
      repeat refine J.seq ?_
      refine J.cond rfl (fun ht46 => ?_) (fun ht46 => ?_)
      ·
        try simp only [decide_eq_true_eq, decide_eq_false_iff_not] at ht46
        have hspt : isSp (by_ s i) = true := by rw [← k_sp]; exact ht46
        repeat refine J.seq ?_
        refine J.plain ?_
        refine JO.t (ob_move rfl) rfl ?_
        refine JO.t (ob_addc (cc := ((i + 1 : Nat) : Int)) rfl rfl (by omega) (by omega) (by omega)) rfl ?_
        refine JO.t (ob_assign rfl) rfl ?_
        refine JO.nil ?_
        repeat refine JX.normal_block ?_
        refine JX.roundG (x := ⟨i, xs, st, cp⟩) (i + 1, xs, st, cp) ?_ ?_ [0, 4, 5] ?_ ?_ ?_ ?_
        · exact ⟨by omega, ref_space hlt hspt hr, hG, by dsimp only; omega⟩
        · exact (by simp only; omega)
        · exact (.cons rfl (.cons rfl (.cons rfl .nil)))
        · repeat (first | exact .all | exact .nil | refine Has.own (by repeat (first | exact .here | apply Tl.past | apply Tl.there)) ?_ | refine Has.cons (by repeat (first | exact .here | apply Pk.past | apply Pk.there)) ?_)
        · exact fun G hG => by repeat (first | exact hG | refine List.mem_cons_of_mem _ ?_)
        · exact fun _ _ _ => fun _ _ => trivial
      ·
        try simp only [decide_eq_true_eq, decide_eq_false_iff_not] at ht46
        have hsp : isSp (by_ s i) = false := by rw [← k_sp]; exact ht46
        repeat refine J.seq ?_
        refine J.plain ?_
        refine JO.t (ob_move rfl) rfl ?_
        refine JO.t (ob_eql rfl rfl) rfl ?_
        refine JO.t (ob_assign rfl) rfl ?_
        refine JO.nil ?_
        repeat (first | refine JX.next ?_ | refine JX.normal_block ?_)
        refine J.sel [0, 4, 5, 6, 7, 51] (.cons rfl (.cons rfl (.cons rfl (.cons rfl (.cons rfl (.cons rfl .nil)))))) ?_
        repeat refine J.seq ?_
        refine J.cond rfl (fun ht51 => ?_) (fun ht51 => ?_)
        ·
          try simp only [decide_eq_true_eq, decide_eq_false_iff_not] at ht51
          repeat refine J.seq ?_
          refine J.block ?_
          repeat refine J.seq ?_
          refine J.loopG (α := Nat) (fun j => [(0, .is (.string s)), (4, .is (sliceO st xs.length cp)), (5, .is (.int .i64 (j : Nat))), (7, .is (.int .i64 (i : Nat)))]) (fun j => ownO st ty_api_Token []) (fun j => fun _ => True) (fun j => j ≤ s.size ∧ j + runN wordB (dr s j) = i + runN wordB (dr s i)) (fun j => s.size - j) i [0, 4, 5, 7] (.cons rfl (.cons rfl (.cons rfl (.cons rfl .nil)))) rfl (fun _ => trivial) ⟨hi, rfl⟩ fun j ⟨hj, hjr⟩ => ?_
          try dsimp only
          try dsimp only at hj
          try dsimp only at hjr
          skip
          repeat refine J.seq ?_
          refine J.reg0 hmx (by kernel_rfl) (by kernel_rfl) ?_
          refine RT.t (ob_move rfl) ?_
          refine RT.t (ob_move rfl) ?_
          refine RT.t (ob_slen un_string rfl) ?_
          refine RT.t (ob_lss rfl rfl) ?_
          refine RT.t (ob_move rfl) ?_
          refine RT.g rfl rfl rfl (fun hg => ob_move (.inl rfl)) ?_
          refine RT.g rfl rfl rfl (fun hg => ob_move (.inl rfl)) ?_
          refine RT.g rfl rfl rfl (fun hg => ob_sindex un_string (.inr ⟨_, rfl, fun h => h⟩) (.inr ⟨_, rfl, fun h => h⟩) (by omega) (by first | (have h := hg; simp only [decide_eq_true_eq] at h; omega) | (have h := hg.1; simp only [decide_eq_true_eq] at h; omega) | (simp at hg; omega))) ?_
          refine RT.g rfl rfl rfl (fun hg => ob_call (.inl rfl) (c_ref09_class _) (.one (.inr ⟨_, rfl, fun h => h⟩) .nil)) ?_
          refine RT.g rfl rfl rfl (fun hg => ob_eql (.inr ⟨_, rfl, fun h => h⟩) (.inl rfl)) ?_
          refine RT.g rfl rfl rfl (fun hg => ob_move (.inr ⟨_, rfl, fun h => h⟩)) ?_
          refine RT.gg rfl rfl rfl (fun hg => (ob_move (.inl rfl))) ?_
          refine RT.gg rfl rfl rfl (fun hg => (ob_move (.inl rfl))) ?_
          refine RT.gg rfl rfl rfl (fun hg => (ob_sindex un_string (.inr ⟨_, rfl, fun h => h⟩) (.inr ⟨_, rfl, fun h => h⟩) (by omega) (by first | (have h := hg; simp only [decide_eq_true_eq] at h; omega) | (have h := hg.1; simp only [decide_eq_true_eq] at h; omega) | (simp at hg; omega)))) ?_
          refine RT.gg rfl rfl rfl (fun hg => (ob_call (.inl rfl) (c_ref09_class _) (.one (.inr ⟨_, rfl, fun h => h⟩) .nil))) ?_
          refine RT.gg rfl rfl rfl (fun hg => (ob_eql (.inr ⟨_, rfl, fun h => h⟩) (.inl rfl))) ?_
          refine RT.g rfl rfl rfl (fun hg => ob_pickOr (.inr ⟨_, rfl, fun h => h⟩) (.inl rfl) (.inl rfl) (fun h => ⟨hg, h⟩)) ?_
          refine RT.t (ob_pickAnd rfl rfl rfl id) ?_
          refine RT.nil ?_
          refine FinS.nil0 ?_
          repeat (first | refine JX.next ?_ | refine JX.normal_block ?_)
          refine J.sel [0, 4, 5, 7, 71] (.cons rfl (.cons rfl (.cons rfl (.cons rfl (.cons rfl .nil))))) ?_
          repeat refine J.seq ?_
          refine J.cond rfl (fun ht71 => ?_) (fun ht71 => ?_)
          ·
            try simp only [decide_eq_true_eq, decide_eq_false_iff_not] at ht71
            refine J.skip ?_
            repeat (first | refine JX.next ?_ | refine JX.normal_block ?_)
            repeat refine J.seq ?_
            refine J.block ?_
            have hlj : j < s.size := by have h := (and_split ht71).1; simp only [decide_eq_true_eq] at h; omega
            repeat refine J.seq ?_
            refine J.plain ?_
            refine JO.t (ob_move rfl) rfl ?_
            refine JO.t (ob_addc (cc := ((j + 1 : Nat) : Int)) rfl rfl (by omega) (by omega) (by omega)) rfl ?_
            refine JO.t (ob_assign rfl) rfl ?_
            refine JO.nil ?_
            repeat refine JX.normal_block ?_
            refine JX.roundG (x := j) (j + 1) ?_ ?_ [0, 4, 5, 7] ?_ ?_ ?_ ?_
            · exact ⟨by omega, by rw [← hjr, run_go hlj (by rw [← k_word]; exact (and_split ht71).2)]; omega⟩
            · exact (by omega)
            · exact (.cons rfl (.cons rfl (.cons rfl (.cons rfl .nil))))
            · repeat (first | exact .all | exact .nil | refine Has.own (by repeat (first | exact .here | apply Tl.past | apply Tl.there)) ?_ | refine Has.cons (by repeat (first | exact .here | apply Pk.past | apply Pk.there)) ?_)
            · exact fun G hG => by repeat (first | exact hG | refine List.mem_cons_of_mem _ ?_)
            · exact fun _ _ _ => fun _ _ => trivial
          ·
            try simp only [decide_eq_true_eq, decide_eq_false_iff_not] at ht71
            repeat refine J.seq ?_
            refine J.exit ?_
            repeat (first | refine JX.hit ?_ | refine JX.miss rfl ?_ | refine JX.exit_pass ?_)
            repeat (first | refine JX.next ?_ | refine JX.normal_block ?_)
            have he : j = i + runN wordB (dr s i) := by
              rw [← hjr, run_stop fun h => by have h2 : (decide ((j : Int) < s.size) && wordB (by_ s j)) = false := (by rw [← k_word]; exact ht71); simpa [h] using h2]
              rfl
            subst he
            have hle : letB (by_ s i) = true := by rw [← k_let]; exact ht51
            have hpos : 1 ≤ runN wordB (dr s i) := by rw [run_go hlt (by rw [← k_word, Bool.or_eq_true]; exact Or.inl (by rw [k_let]; exact hle))]; omega
            repeat refine J.seq ?_
            refine J.plain ?_
            refine JO.t (ob_move rfl) rfl ?_
            refine JO.t (ob_move rfl) rfl ?_
            refine JO.t (ob_move rfl) rfl ?_
            refine JO.t (ob_sslice un_string rfl rfl rfl (by omega) (by omega) (by omega)) rfl ?_
            refine JO.t (ob_call rfl (c_ref09_word (s.extract i (i + runN wordB (dr s i))) (ext_word s i) (by have h1 := ext_size s i (runN wordB (dr s i)); omega)) (.one rfl .nil)) rfl ?_
            refine JO.t (ob_move rfl) rfl ?_
            refine JO.t (ob_extract0 rfl) rfl ?_
            refine JO.t (ob_extract1 rfl) rfl ?_
            refine JO.alloc zo_api_Token rfl fun b8 => ?_
            refine JO.m (obm_store rfl rfl (by repeat (first | exact .here | apply Upd.there)) (by first | exact cnt_is rfl rfl | exact cnt_ex) (by first | exact cnt_is rfl rfl | exact cnt_ex | exact cnt_aggO) ss_api_Token) (by rfl) ?_
            refine JO.t (ob_assign rfl) rfl ?_
            refine JO.nil ?_
            repeat (first | refine JX.next ?_ | refine JX.normal_block ?_)
            refine J.sel [0, 4, 5, 8, 9] (.cons rfl (.cons rfl (.cons rfl (.cons rfl (.cons rfl .nil))))) ?_
            repeat refine J.seq ?_
            refine J.plain ?_
            refine JO.t (ob_move rfl) rfl ?_
            refine JO.t (ob_neq rfl rfl) rfl ?_
            refine JO.nil ?_
            repeat (first | refine JX.next ?_ | refine JX.normal_block ?_)
            refine J.sel [0, 4, 5, 8, 9, 83] (.cons rfl (.cons rfl (.cons rfl (.cons rfl (.cons rfl (.cons rfl .nil)))))) ?_
            repeat refine J.seq ?_
            refine J.cond rfl (fun ht83 => ?_) (fun ht83 => ?_)
            ·
              try simp only [decide_eq_true_eq, decide_eq_false_iff_not] at ht83
              have hx := ref_err hlt hsp (st_word hlt hle) (by simpa using ht83) hr
              repeat refine J.seq ?_
              refine J.plain ?_
              refine JO.t (ob_move rfl) rfl ?_
              refine JO.t (ob_assign rfl) rfl ?_
              refine JO.t (ob_assign rfl) rfl ?_
              refine JO.nil ?_
              repeat (first | refine JX.next ?_ | refine JX.normal_block ?_)
              refine J.sel [2, 3] (.cons rfl (.cons rfl .nil)) ?_
              repeat refine J.seq ?_
              refine J.ret ?_
              repeat (first | refine JX.ret_pass ?_ | refine JX.ret_block ?_)
              exact JX.ret2sub rfl rfl rfl (by rw [hx]; exact Sub.slNil) rfl (Sub.isEq (by rw [hx]))
            ·
              try simp only [decide_eq_true_eq, decide_eq_false_iff_not] at ht83
              refine J.skip ?_
              repeat (first | refine JX.next ?_ | refine JX.normal_block ?_)
              repeat refine J.seq ?_
              refine J.plain ?_
              refine JO.t (ob_move rfl) rfl ?_
              refine JO.t (ob_ldN (cs := [_, _, _]) sz_api_Token rfl rfl rfl) rfl ?_
              refine JO.t (ob_buildSlice (cs := [_, _, _]) sl_sl_api_Token (by omega) (by omega) (.cons rfl .nil) rfl rfl rfl) rfl ?_
              refine JO.apP [(wordL (s.extract i (i + runN wordB (dr s i))).data.toList).1] ap_sl_api_Token T3.len (by repeat (first | exact .here | apply Cx.past | apply Cx.there)) hG rfl rfl (fun L => src_new un_sl_api_Token rfl rfl) (by simp) (by simp; omega) (by simp; omega) rfl (fun st1 cp1 hG1 => ?_)
              try dsimp only
              refine JO.t (ob_assign rfl) rfl ?_
              refine JO.nil ?_
              repeat refine JX.normal_block ?_
              refine JX.roundG (x := ⟨i, xs, st, cp⟩) (i + runN wordB (dr s i), xs ++ [(wordL (s.extract i (i + runN wordB (dr s i))).data.toList).1], st1, cp1) ?_ ?_ [0, 4, 5] ?_ ?_ ?_ ?_
              · exact ⟨run_le hi, ref_next hlt hsp (st_word hlt hle) (by simpa using ht83) hr, hG1, by simp; omega⟩
              · exact (by simp only; omega)
              · exact (.cons rfl (.cons rfl (.cons rfl .nil)))
              · repeat (first | exact .all | exact .nil | refine Has.own (by repeat (first | exact .here | apply Tl.past | apply Tl.there)) ?_ | refine Has.cons (by repeat (first | exact .here | apply Pk.past | apply Pk.there)) ?_)
              · exact fun G hG => by repeat (first | exact hG | refine List.mem_cons_of_mem _ ?_)
              · exact fun _ _ _ => fun _ _ => trivial
        ·
          try simp only [decide_eq_true_eq, decide_eq_false_iff_not] at ht51
          have hle : letB (by_ s i) = false := by rw [← k_let]; exact ht51
          repeat refine J.seq ?_
          refine J.plain ?_
          refine JO.t (ob_move rfl) rfl ?_
          refine JO.t (ob_eql rfl rfl) rfl ?_
          refine JO.t (ob_assign rfl) rfl ?_
          refine JO.nil ?_
          repeat (first | refine JX.next ?_ | refine JX.normal_block ?_)
          refine J.sel [0, 4, 5, 7, 89] (.cons rfl (.cons rfl (.cons rfl (.cons rfl (.cons rfl .nil))))) ?_
          repeat refine J.seq ?_
          refine J.cond rfl (fun ht89 => ?_) (fun ht89 => ?_)
          ·
            try simp only [decide_eq_true_eq, decide_eq_false_iff_not] at ht89
            repeat refine J.seq ?_
            refine J.block ?_
            repeat refine J.seq ?_
            refine J.loopG (α := Nat) (fun j => [(0, .is (.string s)), (4, .is (sliceO st xs.length cp)), (5, .is (.int .i64 (j : Nat))), (7, .is (.int .i64 (i : Nat)))]) (fun j => ownO st ty_api_Token []) (fun j => fun _ => True) (fun j => j ≤ s.size ∧ j + runN digB (dr s j) = i + runN digB (dr s i)) (fun j => s.size - j) i [0, 4, 5, 7] (.cons rfl (.cons rfl (.cons rfl (.cons rfl .nil)))) rfl (fun _ => trivial) ⟨hi, rfl⟩ fun j ⟨hj, hjr⟩ => ?_
            try dsimp only
            try dsimp only at hj
            try dsimp only at hjr
            repeat refine J.seq ?_
            refine J.reg0 hmx (by kernel_rfl) (by kernel_rfl) ?_
            refine RT.t (ob_move rfl) ?_
            refine RT.t (ob_move rfl) ?_
            refine RT.t (ob_slen un_string rfl) ?_
            refine RT.t (ob_lss rfl rfl) ?_
            refine RT.t (ob_move rfl) ?_
            refine RT.g rfl rfl rfl (fun hg => ob_move (.inl rfl)) ?_
            refine RT.g rfl rfl rfl (fun hg => ob_move (.inl rfl)) ?_
            refine RT.g rfl rfl rfl (fun hg => ob_sindex un_string (.inr ⟨_, rfl, fun h => h⟩) (.inr ⟨_, rfl, fun h => h⟩) (by omega) (by first | (have h := hg; simp only [decide_eq_true_eq] at h; omega) | (have h := hg.1; simp only [decide_eq_true_eq] at h; omega) | (simp at hg; omega))) ?_
            refine RT.g rfl rfl rfl (fun hg => ob_call (.inl rfl) (c_ref09_class _) (.one (.inr ⟨_, rfl, fun h => h⟩) .nil)) ?_
            refine RT.g rfl rfl rfl (fun hg => ob_eql (.inr ⟨_, rfl, fun h => h⟩) (.inl rfl)) ?_
            refine RT.t (ob_pickAnd rfl rfl rfl id) ?_
            refine RT.nil ?_
            refine FinS.nil0 ?_
            repeat (first | refine JX.next ?_ | refine JX.normal_block ?_)
            refine J.sel [0, 4, 5, 7, 102] (.cons rfl (.cons rfl (.cons rfl (.cons rfl (.cons rfl .nil))))) ?_
            repeat refine J.seq ?_
            refine J.cond rfl (fun ht102 => ?_) (fun ht102 => ?_)
            ·
              try simp only [decide_eq_true_eq, decide_eq_false_iff_not] at ht102
              refine J.skip ?_
              repeat (first | refine JX.next ?_ | refine JX.normal_block ?_)
              repeat refine J.seq ?_
              refine J.block ?_
              have hlj : j < s.size := by have h := (and_split ht102).1; simp only [decide_eq_true_eq] at h; omega
              repeat refine J.seq ?_
              refine J.plain ?_
              refine JO.t (ob_move rfl) rfl ?_
              refine JO.t (ob_addc (cc := ((j + 1 : Nat) : Int)) rfl rfl (by omega) (by omega) (by omega)) rfl ?_
              refine JO.t (ob_assign rfl) rfl ?_
              refine JO.nil ?_
              repeat refine JX.normal_block ?_
              refine JX.roundG (x := j) (j + 1) ?_ ?_ [0, 4, 5, 7] ?_ ?_ ?_ ?_
              · exact ⟨by omega, by rw [← hjr, run_go hlj (by rw [← k_dig]; exact (and_split ht102).2)]; omega⟩
              · exact (by omega)
              · exact (.cons rfl (.cons rfl (.cons rfl (.cons rfl .nil))))
              · repeat (first | exact .all | exact .nil | refine Has.own (by repeat (first | exact .here | apply Tl.past | apply Tl.there)) ?_ | refine Has.cons (by repeat (first | exact .here | apply Pk.past | apply Pk.there)) ?_)
              · exact fun G hG => by repeat (first | exact hG | refine List.mem_cons_of_mem _ ?_)
              · exact fun _ _ _ => fun _ _ => trivial
            ·
              try simp only [decide_eq_true_eq, decide_eq_false_iff_not] at ht102
              repeat refine J.seq ?_
              refine J.exit ?_
              repeat (first | refine JX.hit ?_ | refine JX.miss rfl ?_ | refine JX.exit_pass ?_)
              repeat (first | refine JX.next ?_ | refine JX.normal_block ?_)
              have he : j = i + runN digB (dr s i) := by
                rw [← hjr, run_stop fun h => by have h2 : (decide ((j : Int) < s.size) && digB (by_ s j)) = false := (by rw [← k_dig]; exact ht102); simpa [h] using h2]
                rfl
              subst he
              have hdg : digB (by_ s i) = true := by rw [← k_dig]; exact ht89
              have hpos : 1 ≤ runN digB (dr s i) := by rw [run_go hlt hdg]; omega
              have hrl : i + runN digB (dr s i) ≤ s.size := run_le hi
              have hh : headP letB ((dr s i).drop (runN digB (dr s i))) = (decide (((i + runN digB (dr s i) : Nat) : Int) < s.size) && letB (by_ s (i + runN digB (dr s i)))) := by rw [dr_drop]; exact head_dr letB s _
              rw [← k_let] at hh
              repeat refine J.seq ?_
              refine J.reg0 hmx (by kernel_rfl) (by kernel_rfl) ?_
              refine RT.t (ob_move rfl) ?_
              refine RT.t (ob_move rfl) ?_
              refine RT.t (ob_slen un_string rfl) ?_
              refine RT.t (ob_lss rfl rfl) ?_
              refine RT.t (ob_move rfl) ?_
              refine RT.g rfl rfl rfl (fun hg => ob_move (.inl rfl)) ?_
              refine RT.g rfl rfl rfl (fun hg => ob_move (.inl rfl)) ?_
              refine RT.g rfl rfl rfl (fun hg => ob_sindex un_string (.inr ⟨_, rfl, fun h => h⟩) (.inr ⟨_, rfl, fun h => h⟩) (by omega) (by first | (have h := hg; simp only [decide_eq_true_eq] at h; omega) | (have h := hg.1; simp only [decide_eq_true_eq] at h; omega) | (simp at hg; omega))) ?_
              refine RT.g rfl rfl rfl (fun hg => ob_call (.inl rfl) (c_ref09_class _) (.one (.inr ⟨_, rfl, fun h => h⟩) .nil)) ?_
              refine RT.g rfl rfl rfl (fun hg => ob_eql (.inr ⟨_, rfl, fun h => h⟩) (.inl rfl)) ?_
              refine RT.t (ob_pickAnd rfl rfl rfl id) ?_
              refine RT.nil ?_
              refine FinS.nil0 ?_
              repeat (first | refine JX.next ?_ | refine JX.normal_block ?_)
              refine J.sel [0, 4, 5, 7, 115] (.cons rfl (.cons rfl (.cons rfl (.cons rfl (.cons rfl .nil))))) ?_
              repeat refine J.seq ?_
              refine J.cond rfl (fun ht115 => ?_) (fun ht115 => ?_)
              ·
                try simp only [decide_eq_true_eq, decide_eq_false_iff_not] at ht115
                have hx := num_bad hlt hsp hle hdg (hh.trans ht115) hr
                repeat refine J.seq ?_
                refine J.plain ?_
                refine JO.t (ob_assign rfl) rfl ?_
                refine JO.t (ob_assign rfl) rfl ?_
                refine JO.nil ?_
                repeat (first | refine JX.next ?_ | refine JX.normal_block ?_)
                refine J.sel [2, 3] (.cons rfl (.cons rfl .nil)) ?_
                repeat refine J.seq ?_
                refine J.ret ?_
                repeat (first | refine JX.ret_pass ?_ | refine JX.ret_block ?_)
                exact JX.ret2sub rfl rfl rfl (by rw [hx]; exact Sub.slNil) rfl (Sub.isEq (by rw [hx]))
              ·
                try simp only [decide_eq_true_eq, decide_eq_false_iff_not] at ht115
                refine J.skip ?_
                repeat (first | refine JX.next ?_ | refine JX.normal_block ?_)
                repeat refine J.seq ?_
                refine J.plain ?_
                refine JO.t (ob_move rfl) rfl ?_
                refine JO.t (ob_move rfl) rfl ?_
                refine JO.t (ob_move rfl) rfl ?_
                refine JO.t (ob_sslice un_string rfl rfl rfl (by omega) (by omega) (by omega)) rfl ?_
                refine JO.t (ob_call rfl (c_ref09_number (s.extract i (i + runN digB (dr s i))) (by have h1 := ext_size s i (runN digB (dr s i)); omega)) (.one rfl .nil)) rfl ?_
                refine JO.t (ob_move rfl) rfl ?_
                refine JO.t (ob_extract0 rfl) rfl ?_
                refine JO.t (ob_extract1 rfl) rfl ?_
                refine JO.t (ob_assign rfl) rfl ?_
                refine JO.t (ob_assign rfl) rfl ?_
                refine JO.nil ?_
                repeat (first | refine JX.next ?_ | refine JX.normal_block ?_)
                refine J.sel [0, 4, 5, 10, 11] (.cons rfl (.cons rfl (.cons rfl (.cons rfl (.cons rfl .nil))))) ?_
                repeat refine J.seq ?_
                refine J.plain ?_
                refine JO.t (ob_move rfl) rfl ?_
                refine JO.t (ob_not rfl) rfl ?_
                refine JO.nil ?_
                repeat (first | refine JX.next ?_ | refine JX.normal_block ?_)
                refine J.sel [0, 4, 5, 10, 125] (.cons rfl (.cons rfl (.cons rfl (.cons rfl (.cons rfl .nil))))) ?_
                repeat refine J.seq ?_
                refine J.cond rfl (fun ht125 => ?_) (fun ht125 => ?_)
                ·
                  try simp only [decide_eq_true_eq, decide_eq_false_iff_not] at ht125
                  have hx := num_over hlt hsp hle hdg (hh.trans ht115) (by simpa using ht125) hr
                  repeat refine J.seq ?_
                  refine J.plain ?_
                  refine JO.t (ob_assign rfl) rfl ?_
                  refine JO.t (ob_assign rfl) rfl ?_
                  refine JO.nil ?_
                  repeat (first | refine JX.next ?_ | refine JX.normal_block ?_)
                  refine J.sel [2, 3] (.cons rfl (.cons rfl .nil)) ?_
                  repeat refine J.seq ?_
                  refine J.ret ?_
                  repeat (first | refine JX.ret_pass ?_ | refine JX.ret_block ?_)
                  exact JX.ret2sub rfl rfl rfl (by rw [hx]; exact Sub.slNil) rfl (Sub.isEq (by rw [hx]))
                ·
                  try simp only [decide_eq_true_eq, decide_eq_false_iff_not] at ht125
                  refine J.skip ?_
                  repeat (first | refine JX.next ?_ | refine JX.normal_block ?_)
                  have hst := num_ok hlt hle hdg (hh.trans ht115) (by simpa using ht125)
                  repeat refine J.seq ?_
                  refine J.plain ?_
                  refine JO.t (ob_move rfl) rfl ?_
                  refine JO.t (ob_move rfl) rfl ?_
                  refine JO.t (ob_build (cs := [_, _, _]) sh_api_Token (.cons rfl (.cons rfl .nil)) rfl rfl) rfl ?_
                  refine JO.t (ob_buildSlice (cs := [_, _, _]) sl_sl_api_Token (by omega) (by omega) (.cons rfl .nil) rfl rfl rfl) rfl ?_
                  refine JO.apP [⟨3, ⟨#[]⟩, (refNum (s.extract i (i + runN digB (dr s i))).data.toList).1⟩] ap_sl_api_Token T3.len (by repeat (first | exact .here | apply Cx.past | apply Cx.there)) hG rfl rfl (fun L => src_new un_sl_api_Token rfl rfl) (by simp) (by simp; omega) (by simp; omega) rfl (fun st1 cp1 hG1 => ?_)
                  try dsimp only
                  refine JO.t (ob_assign rfl) rfl ?_
                  refine JO.nil ?_
                  repeat refine JX.normal_block ?_
                  refine JX.roundG (x := ⟨i, xs, st, cp⟩) (i + runN digB (dr s i), xs ++ [⟨3, ⟨#[]⟩, (refNum (s.extract i (i + runN digB (dr s i))).data.toList).1⟩], st1, cp1) ?_ ?_ [0, 4, 5] ?_ ?_ ?_ ?_
                  · exact ⟨run_le hi, ref_next hlt hsp hst rfl hr, hG1, by simp; omega⟩
                  · exact (by simp only; omega)
                  · exact (.cons rfl (.cons rfl (.cons rfl .nil)))
                  · repeat (first | exact .all | exact .nil | refine Has.own (by repeat (first | exact .here | apply Tl.past | apply Tl.there)) ?_ | refine Has.cons (by repeat (first | exact .here | apply Pk.past | apply Pk.there)) ?_)
                  · exact fun G hG => by repeat (first | exact hG | refine List.mem_cons_of_mem _ ?_)
                  · exact fun _ _ _ => fun _ _ => trivial
          ·
            try simp only [decide_eq_true_eq, decide_eq_false_iff_not] at ht89
            have hdg : digB (by_ s i) = false := by rw [← k_dig]; exact ht89
            repeat refine J.seq ?_
            refine J.plain ?_
            refine JO.t (ob_move rfl) rfl ?_
            refine JO.t (ob_move rfl) rfl ?_
            refine JO.t (ob_sindex un_string rfl rfl (by omega) (by omega)) rfl ?_
            refine JO.t (ob_eql rfl rfl) rfl ?_
            refine JO.t (ob_assign rfl) rfl ?_
            refine JO.nil ?_
            repeat (first | refine JX.next ?_ | refine JX.normal_block ?_)
            refine J.sel [0, 4, 5, 131] (.cons rfl (.cons rfl (.cons rfl (.cons rfl .nil)))) ?_
            repeat refine J.seq ?_
            refine J.cond rfl (fun ht131 => ?_) (fun ht131 => ?_)
            ·
              try simp only [decide_eq_true_eq, decide_eq_false_iff_not] at ht131
              have hq39 : (by_ s i == 39) = true := by rw [← q39]; exact ht131
              repeat refine J.seq ?_
              refine J.plain ?_
              refine JO.t (ob_move rfl) rfl ?_
              refine JO.t (ob_move rfl) rfl ?_
              refine JO.t (ob_call rfl (c_ref09_quoted s i hlt hsz) (.one rfl (.one rfl .nil))) rfl ?_
              refine JO.t (ob_move rfl) rfl ?_
              refine JO.t (ob_extract0 rfl) rfl ?_
              refine JO.t (ob_extract1 rfl) rfl ?_
              refine JO.t (ob_assign rfl) rfl ?_
              refine JO.t (ob_assign rfl) rfl ?_
              refine JO.nil ?_
              repeat (first | refine JX.next ?_ | refine JX.normal_block ?_)
              refine J.sel [0, 4, 12, 13] (.cons rfl (.cons rfl (.cons rfl (.cons rfl .nil)))) ?_
              repeat refine J.seq ?_
              refine J.reg0 hmx (by kernel_rfl) (by kernel_rfl) ?_
              refine RT.t (ob_move rfl) ?_
              refine RT.t (ob_lss rfl rfl) ?_
              refine RT.t (ob_move rfl) ?_
              refine RT.g rfl rfl rfl (fun hg => ob_move (.inl rfl)) ?_
              refine RT.g rfl rfl rfl (fun hg => ob_slen un_string (.inr ⟨_, rfl, fun h => h⟩)) ?_
              refine RT.g rfl rfl rfl (fun hg => ob_gtr (.inr ⟨_, rfl, fun h => h⟩) (.inl rfl)) ?_
              refine RT.t (ob_pickOr rfl rfl rfl id) ?_
              refine RT.nil ?_
              refine FinS.nil0 ?_
              repeat (first | refine JX.next ?_ | refine JX.normal_block ?_)
              refine J.sel [0, 4, 12, 13, 148] (.cons rfl (.cons rfl (.cons rfl (.cons rfl (.cons rfl .nil))))) ?_
              repeat refine J.seq ?_
              refine J.cond rfl (fun ht148 => ?_) (fun ht148 => ?_)
              ·
                try simp only [decide_eq_true_eq, decide_eq_false_iff_not] at ht148
                have hx := txt_bad hlt hsp hle hdg hq39 ht148 hr
                repeat refine J.seq ?_
                refine J.plain ?_
                refine JO.t (ob_assign rfl) rfl ?_
                refine JO.t (ob_assign rfl) rfl ?_
                refine JO.nil ?_
                repeat (first | refine JX.next ?_ | refine JX.normal_block ?_)
                refine J.sel [2, 3] (.cons rfl (.cons rfl .nil)) ?_
                repeat refine J.seq ?_
                refine J.ret ?_
                repeat (first | refine JX.ret_pass ?_ | refine JX.ret_block ?_)
                exact JX.ret2sub rfl rfl rfl (by rw [hx]; exact Sub.slNil) rfl (Sub.isEq (by rw [hx]))
              ·
                try simp only [decide_eq_true_eq, decide_eq_false_iff_not] at ht148
                refine J.skip ?_
                repeat (first | refine JX.next ?_ | refine JX.normal_block ?_)
                obtain ⟨acc, r, hq, hr1, hst⟩ := txt_ok hlt hle hdg hq39 ht148
                have hlr : i + r ≤ s.size := by have h := step_le (dr s i); rw [hst, dr_len] at h; dsimp only at h; omega
                rw [hq]
                repeat refine J.seq ?_
                refine J.plain ?_
                refine JO.t (ob_move rfl) rfl ?_
                refine JO.t (ob_move rfl) rfl ?_
                refine JO.t (ob_build (cs := [_, _, _]) sh_api_Token (.cons rfl (.cons rfl .nil)) rfl rfl) rfl ?_
                refine JO.t (ob_buildSlice (cs := [_, _, _]) sl_sl_api_Token (by omega) (by omega) (.cons rfl .nil) rfl rfl rfl) rfl ?_
                refine JO.apP [⟨4, bl acc, 0⟩] ap_sl_api_Token T3.len (by repeat (first | exact .here | apply Cx.past | apply Cx.there)) hG rfl rfl (fun L => src_new un_sl_api_Token rfl rfl) (by simp) (by simp; omega) (by simp; omega) rfl (fun st1 cp1 hG1 => ?_)
                try dsimp only
                refine JO.t (ob_assign rfl) rfl ?_
                refine JO.nil ?_
                repeat (first | refine JX.next ?_ | refine JX.normal_block ?_)
                refine J.sel [0, 4, 13] (.cons rfl (.cons rfl (.cons rfl .nil))) ?_
                repeat refine J.seq ?_
                refine J.plain ?_
                refine JO.t (ob_move rfl) rfl ?_
                refine JO.t (ob_assign rfl) rfl ?_
                refine JO.nil ?_
                repeat refine JX.normal_block ?_
                refine JX.roundG (x := ⟨i, xs, st, cp⟩) (i + r, xs ++ [⟨4, bl acc, 0⟩], st1, cp1) ?_ ?_ [0, 4, 5] ?_ ?_ ?_ ?_
                · exact ⟨hlr, ref_next hlt hsp hst rfl hr, hG1, by simp; omega⟩
                · exact (by simp only; omega)
                · exact (.cons rfl (.cons rfl (.cons rfl .nil)))
                · repeat (first | exact .all | exact .nil | refine Has.own (by repeat (first | exact .here | apply Tl.past | apply Tl.there)) ?_ | refine Has.cons (by repeat (first | exact .here | apply Pk.past | apply Pk.there)) ?_)
                · exact fun G hG => by repeat (first | exact hG | refine List.mem_cons_of_mem _ ?_)
                · exact fun _ _ _ => fun _ _ => trivial
            ·
              try simp only [decide_eq_true_eq, decide_eq_false_iff_not] at ht131
              have hq39 : (by_ s i == 39) = false := by rw [← q39]; exact ht131
              obtain ⟨k, hk, hk2⟩ := sgn_nat (dr s i)
              repeat refine J.seq ?_
              refine J.plain ?_
              refine JO.t (ob_move rfl) rfl ?_
              refine JO.t (ob_move rfl) rfl ?_
              refine JO.t (ob_ssliceLo un_string rfl rfl (by omega) (by omega)) rfl ?_
              refine JO.t (ob_call rfl (c_ref09_sign (s.extract i s.size) (by rw [← len_bytes, ext_lo s i hi, dr_len]; omega) (by rw [← len_bytes, ext_lo s i hi, dr_len]; omega)) (.one rfl .nil)) rfl ?_
              refine JO.t (ob_assign rfl) rfl ?_
              refine JO.nil ?_
              repeat (first | refine JX.next ?_ | refine JX.normal_block ?_)
              refine J.sel [0, 4, 5, 14] (.cons rfl (.cons rfl (.cons rfl (.cons rfl .nil)))) ?_
              rw [ext_lo s i hi, hk]
              repeat refine J.seq ?_
              refine J.plain ?_
              refine JO.t (ob_move rfl) rfl ?_
              refine JO.t (ob_eql rfl rfl) rfl ?_
              refine JO.nil ?_
              repeat (first | refine JX.next ?_ | refine JX.normal_block ?_)
              refine J.sel [0, 4, 5, 14, 32] (.cons rfl (.cons rfl (.cons rfl (.cons rfl (.cons rfl .nil))))) ?_
              repeat refine J.seq ?_
              refine J.cond rfl (fun ht32 => ?_) (fun ht32 => ?_)
              ·
                try simp only [decide_eq_true_eq, decide_eq_false_iff_not] at ht32
                have hx := sgn_bad hlt hsp hle hdg hq39 hk ht32 hr
                repeat refine J.seq ?_
                refine J.plain ?_
                refine JO.t (ob_assign rfl) rfl ?_
                refine JO.t (ob_assign rfl) rfl ?_
                refine JO.nil ?_
                repeat (first | refine JX.next ?_ | refine JX.normal_block ?_)
                refine J.sel [2, 3] (.cons rfl (.cons rfl .nil)) ?_
                repeat refine J.seq ?_
                refine J.ret ?_
                repeat (first | refine JX.ret_pass ?_ | refine JX.ret_block ?_)
                exact JX.ret2sub rfl rfl rfl (by rw [hx]; exact Sub.slNil) rfl (Sub.isEq (by rw [hx]))
              ·
                try simp only [decide_eq_true_eq, decide_eq_false_iff_not] at ht32
                refine J.skip ?_
                repeat (first | refine JX.next ?_ | refine JX.normal_block ?_)
                have hst := sgn_ok hlt hsp hle hdg hq39 hk ht32
                have hlr : i + k ≤ s.size := by have h := step_le (dr s i); rw [hst, dr_len] at h; dsimp only at h; omega
                have hk1 : 1 ≤ k := by have h := ht32; simp at h; omega
                repeat refine J.seq ?_
                refine J.plain ?_
                refine JO.t (ob_move rfl) rfl ?_
                refine JO.t (ob_move rfl) rfl ?_
                refine JO.t (ob_move rfl) rfl ?_
                refine JO.t (ob_move rfl) rfl ?_
                refine JO.t (ob_move rfl) rfl ?_
                refine JO.t (ob_addc (cc := ((i + k : Nat) : Int)) rfl rfl (by omega) (by omega) (by omega)) rfl ?_
                refine JO.t (ob_sslice un_string rfl rfl rfl (by omega) (by omega) (by omega)) rfl ?_
                refine JO.t (ob_build (cs := [_, _, _]) sh_api_Token (.cons rfl (.cons rfl .nil)) rfl rfl) rfl ?_
                refine JO.t (ob_buildSlice (cs := [_, _, _]) sl_sl_api_Token (by omega) (by omega) (.cons rfl .nil) rfl rfl rfl) rfl ?_
                refine JO.apP [⟨5, s.extract i (i + k), 0⟩] ap_sl_api_Token T3.len (by repeat (first | exact .here | apply Cx.past | apply Cx.there)) hG rfl rfl (fun L => src_new un_sl_api_Token rfl rfl) (by simp) (by simp; omega) (by simp; omega) rfl (fun st1 cp1 hG1 => ?_)
                try dsimp only
                refine JO.t (ob_assign rfl) rfl ?_
                refine JO.nil ?_
                repeat (first | refine JX.next ?_ | refine JX.normal_block ?_)
                refine J.sel [0, 4, 5, 14] (.cons rfl (.cons rfl (.cons rfl (.cons rfl .nil)))) ?_
                repeat refine J.seq ?_
                refine J.plain ?_
                refine JO.t (ob_move rfl) rfl ?_
                refine JO.t (ob_move rfl) rfl ?_
                refine JO.t (ob_addc (cc := ((i + k : Nat) : Int)) rfl rfl (by omega) (by omega) (by omega)) rfl ?_
                refine JO.t (ob_assign rfl) rfl ?_
                refine JO.nil ?_
                repeat refine JX.normal_block ?_
                refine JX.roundG (x := ⟨i, xs, st, cp⟩) (i + k, xs ++ [⟨5, s.extract i (i + k), 0⟩], st1, cp1) ?_ ?_ [0, 4, 5] ?_ ?_ ?_ ?_
                · exact ⟨hlr, ref_next hlt hsp hst rfl hr, hG1, by simp; omega⟩
                · exact (by simp only; omega)
                · exact (.cons rfl (.cons rfl (.cons rfl .nil)))
                · repeat (first | exact .all | exact .nil | refine Has.own (by repeat (first | exact .here | apply Tl.past | apply Tl.there)) ?_ | refine Has.cons (by repeat (first | exact .here | apply Pk.past | apply Pk.there)) ?_)
                · exact fun G hG => by repeat (first | exact hG | refine List.mem_cons_of_mem _ ?_)
                · exact fun _ _ _ => fun _ _ => trivial
    ·
      try simp only [decide_eq_true_eq, decide_eq_false_iff_not] at ht21
      repeat refine J.seq ?_
      refine J.exit ?_
      repeat (first | refine JX.hit ?_ | refine JX.miss rfl ?_ | refine JX.exit_pass ?_)
      repeat (first | refine JX.next ?_ | refine JX.normal_block ?_)
      have hfin : lexL s.data.toList = (xs, 0) := by rw [← hr, dr_nil (by omega)]; simp [finA, allA_nil]
      refine J.freezeO T3.len hG (e := ty_api_Token) (by repeat (first | exact .here | apply Tl.past | apply Tl.there)) (fun _ h => h) rfl rfl ?_
      repeat refine J.seq ?_
      refine J.plain ?_
      refine JO.t (ob_move rfl) rfl ?_
      refine JO.t (ob_assign rfl) rfl ?_
      refine JO.t (ob_assign rfl) rfl ?_
      refine JO.nil ?_
      repeat (first | refine JX.next ?_ | refine JX.normal_block ?_)
      refine J.sel [2, 3] (.cons rfl (.cons rfl .nil)) ?_
      repeat refine J.seq ?_
      refine J.ret ?_
      repeat (first | refine JX.ret_pass ?_ | refine JX.ret_block ?_)
      exact JX.ret2sub rfl rfl rfl (by rw [hfin]; exact Sub.slO hG (by repeat (first | exact List.mem_cons_self | apply List.mem_cons_of_mem))) rfl (Sub.isEq (by rw [hfin]))
end Go.Proofs.YtjjgckmdfblmgaaDoor
