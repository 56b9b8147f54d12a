/- The document on groups: tell. No condition. -/
import Derived.Test.YtgpikmonklainaaXGW
set_option maxRecDepth 20000
namespace Go.Proofs.Ytgpikmonklainaa
open Go Go.Vc
open Go.Vl Go.Od
def bs1 (k : Int) (p v : V3) : V3 := if p.k == 0 || k == 22 && decide (cmpV v p < 0) || k == 23 && decide (0 < cmpV v p) then v else p
def bs (k : Int) (vs : List V3) : V3 := vs.foldl (bs1 k) v30
theorem bs_snoc (k : Int) (vs : List V3) (v : V3) : bs k (vs ++ [v]) = bs1 k (bs k vs) v := by unfold bs; rw [List.foldl_append]; rfl
theorem bs_null {k : Int} : ∀ (vs : List V3), (∀ v ∈ vs, v.k ≠ 0) → ((bs k vs).k = 0 ↔ vs = []) := by
  intro vs
  induction vs using snoc_ind with
  | h0 => intro _; simp [bs]
  | h1 l v ih =>
    intro h
    have h1 := ih fun x hx => h x (List.mem_append_left _ hx)
    have h2 := h v (by simp)
    rw [bs_snoc]
    unfold bs1
    split
    · simp [h2]
    · rename_i h3
      simp only [Bool.or_eq_true, not_or, beq_iff_eq] at h3
      simp [h3.1.1]
theorem bs_pk {k : Int} (hk : k = 22 ∨ k = 23) (vs : List V3) : bs k vs = pkA (sgK k) vs := by
  unfold bs pkA
  congr 1
  funext p v
  unfold bs1 pk1 sgK
  rcases hk with rfl | rfl
  · have : decide (0 < (-1 : Int) * cmpV v p) = decide (cmpV v p < 0) := decide_eq_decide.2 (by omega)
    simp [this]
  · simp
theorem nn_snoc (l : List V3) (v : V3) (h : v.k ≠ 0) : nn (l ++ [v]) = nn l ++ [v] := by
  unfold nn
  rw [List.filter_append]
  simp [h]
theorem nn_skip (l : List V3) (v : V3) (h : v.k = 0) : nn (l ++ [v]) = nn l := by
  unfold nn
  rw [List.filter_append]
  simp [h]
theorem sI_sm : ∀ vs : List V3, sI (vs.map fun v => v.n) = sm vs
  | [] => rfl
  | v :: vs => by
    show v.n + sI (vs.map fun v => v.n) = v.n + sm vs
    rw [sI_sm vs]
theorem nn_len (l : List V3) : (nn l).length ≤ l.length := List.length_filter_le _ _
theorem take_snocV {xs : List V3} {i : Nat} (h : i < xs.length) : xs.take (i + 1) = xs.take i ++ [xs.getD i v3E] := by
  rw [List.take_add_one, getD_some (d := v3E) h]; rfl
theorem nn_take {xs : List V3} {i : Nat} (h : i < xs.length) : nn (xs.take (i + 1)) = if (xs.getD i v3E).k = 0 then nn (xs.take i) else nn (xs.take i) ++ [xs.getD i v3E] := by
  rw [take_snocV h]
  split
  · exact nn_skip _ _ (by assumption)
  · exact nn_snoc _ _ (by assumption)
abbrev nmL (vs : List V3) : List Int := vs.map fun v => v.n
theorem tv20 (vs : List V3) : tellV 20 vs = (⟨1, vs.length, e0⟩, 0) := rfl
theorem tv21 (vs : List V3) : tellV 21 vs = if vs.length = 0 then (v30, 0) else if -9223372036854775808 ≤ sm vs ∧ sm vs < 9223372036854775808 then (⟨1, sm vs, e0⟩, 0) else (v30, 35) := rfl
theorem tvP {k : Int} (h1 : k ≠ 20) (h2 : k ≠ 21) (vs : List V3) : tellV k vs = (pkA (sgK k) vs, 0) := by unfold tellV; rw [if_neg h1, if_neg h2]
theorem c_ref16_tell (k : Int) (hk : 20 ≤ k ∧ k ≤ 23) (l : List V3) (hl : l.length ≤ 1048576) (hx : ∀ v ∈ l, I64 v.n) : CallTy Try.prog f_ref16_tell [.is (.int .i64 k), .rep (SlG V3.cells 3 l)] (.tup2 (.is (.agg #[.int .i64 (tellV k (nn l)).1.k, .int .i64 (tellV k (nn l)).1.n, .string (tellV k (nn l)).1.s])) (.is (.int .i64 (tellV k (nn l)).2))) :=
  CallTy.of (fn := Try.f39) Try.func39 (n := 84) rfl rfl rfl (fun _ _ => by kernel_rfl) fun E W => by
  refine J.openSl (enc := V3.cells) (sz := 3) (s := 1) rfl (fun a len cap b o hlen ha => ?_)
  subst hlen
  repeat refine J.seq ?_
  refine J.plain ?_
  refine JO.alloc zo_api_Value rfl fun b4 => ?_
  refine JO.t (ob_assign rfl) rfl ?_
  refine JO.nil ?_
  repeat (first | refine JX.next ?_ | refine JX.normal_block ?_)
  refine J.sel [0, 1, 4] (.cons rfl (.cons rfl (.cons rfl .nil))) ?_
  repeat refine J.seq ?_
  refine J.plain ?_
  refine JO.alloc zo_api_Value rfl fun b6 => ?_
  refine JO.nil ?_
  repeat (first | refine JX.next ?_ | refine JX.normal_block ?_)
  refine J.sel [0, 1, 4, 6] (.cons rfl (.cons rfl (.cons rfl (.cons rfl .nil)))) ?_
  repeat refine J.seq ?_
  refine J.plain ?_
  refine JO.t (ob_assign rfl) rfl ?_
  refine JO.nil ?_
  repeat (first | refine JX.next ?_ | refine JX.normal_block ?_)
  refine J.sel [0, 1, 4, 6, 7] (.cons rfl (.cons rfl (.cons rfl (.cons rfl (.cons rfl .nil))))) ?_
  repeat refine J.seq ?_
  refine J.plain ?_
  refine JO.t (ob_assign rfl) rfl ?_
  refine JO.nil ?_
  repeat (first | refine JX.next ?_ | refine JX.normal_block ?_)
  refine J.sel [0, 1, 4, 6, 7, 8] (.cons rfl (.cons rfl (.cons rfl (.cons rfl (.cons rfl (.cons rfl .nil)))))) ?_
  repeat refine J.seq ?_
  refine J.plain ?_
  refine JO.t (ob_assign rfl) rfl ?_
  refine JO.nil ?_
  repeat (first | refine JX.next ?_ | refine JX.normal_block ?_)
  refine J.sel [0, 1, 4, 6, 7, 8, 9] (.cons rfl (.cons rfl (.cons rfl (.cons rfl (.cons rfl (.cons rfl (.cons rfl .nil))))))) ?_
  repeat refine J.seq ?_
  refine J.block ?_
  repeat refine J.seq ?_
  refine J.loopG (α := Nat × Option (Nat × List Value) × Nat) (fun y => [(0, .is (.int .i64 k)), (1, .is (.slice a l.length cap)), (4, .is (.pointer (some ⟨b4, 0, none⟩))), (6, .is (.pointer (some ⟨b6, 0, none⟩))), (7, .is (sliceO y.2.1 (nmL (nn (l.take y.1))).length y.2.2)), (8, .is (.int .i64 ((nn (l.take y.1)).length : Nat))), (9, .is (.int .i64 (y.1 : Nat)))]) (fun y => ⟨b6, ty_api_Value, .is (.agg #[.int .i64 (bs k (nn (l.take y.1))).k, .int .i64 (bs k (nn (l.take y.1))).n, .string (bs k (nn (l.take y.1))).s])⟩ :: ⟨b4, ty_api_Value, .is (.agg #[.int .i64 0, .int .i64 0, .string e0])⟩ :: ownO y.2.1 ty_int64 []) (fun y => fun _ => True) (fun y => y.1 ≤ l.length ∧ Grows kC 1 (nmL (nn (l.take y.1))) y.2.1 y.2.2) (fun y => l.length - y.1) (0, none, 0) [0, 1, 4, 6, 7, 8, 9] (.cons rfl (.cons rfl (.cons rfl (.cons rfl (.cons rfl (.cons rfl (.cons rfl .nil))))))) rfl (fun _ => trivial) ⟨Nat.zero_le _, rfl⟩ fun ⟨i, st1, cp1⟩ ⟨hi, hG1⟩ => ?_
  try dsimp only
  try dsimp only at st1
  try dsimp only at cp1
  try dsimp only at hi
  try dsimp only at hG1
  repeat refine J.seq ?_
  refine J.plain ?_
  refine JO.t (ob_move rfl) rfl ?_
  refine JO.t (ob_move rfl) rfl ?_
  refine JO.t (ob_len un_sl_api_Value rfl) rfl ?_
  refine JO.t (ob_lss rfl rfl) rfl ?_
  refine JO.nil ?_
  repeat (first | refine JX.next ?_ | refine JX.normal_block ?_)
  refine J.sel [0, 1, 4, 6, 7, 8, 9, 16] (.cons rfl (.cons rfl (.cons rfl (.cons rfl (.cons rfl (.cons rfl (.cons rfl (.cons rfl .nil)))))))) ?_
  repeat refine J.seq ?_
  refine J.cond rfl (fun ht16 => ?_) (fun ht16 => ?_)
  ·
    try simp only [decide_eq_true_eq, decide_eq_false_iff_not] at ht16
    refine J.skip ?_
    repeat (first | refine JX.next ?_ | refine JX.normal_block ?_)
    repeat refine J.seq ?_
    refine J.block ?_
    repeat refine J.seq ?_
    refine J.plain ?_
    refine JO.t (ob_move rfl) rfl ?_
    refine JO.t (ob_move rfl) rfl ?_
    refine JO.t (ob_indexAddr el_sl_api_Value rfl (ha (by omega)) rfl (by omega) (by omega)) rfl ?_
    refine JO.t (ob_fieldAddr fo_api_Value_0 rfl) rfl ?_
    refine JO.t (ob_loadG1 (enc := V3.cells) (sz := 3) (len := l.length) (i := i) (j := 0) (y := l.getD i v3E) (u := .int .i64 (l.getD i v3E).k) sz_int rfl (by repeat (first | exact List.mem_cons_self | apply List.mem_cons_of_mem)) (ha (by omega)) (v3_get (by omega)) (by omega) rfl) rfl ?_
    refine JO.t (ob_eql rfl rfl) rfl ?_
    refine JO.nil ?_
    repeat (first | refine JX.next ?_ | refine JX.normal_block ?_)
    refine J.sel [0, 1, 4, 6, 7, 8, 9, 24] (.cons rfl (.cons rfl (.cons rfl (.cons rfl (.cons rfl (.cons rfl (.cons rfl (.cons rfl .nil)))))))) ?_
    repeat refine J.seq ?_
    refine J.cond rfl (fun ht24 => ?_) (fun ht24 => ?_)
    ·
      try simp only [decide_eq_true_eq, decide_eq_false_iff_not] at ht24
      repeat refine J.seq ?_
      refine J.exit ?_
      repeat (first | refine JX.hit ?_ | refine JX.miss rfl ?_ | refine JX.exit_pass ?_)
      repeat (first | refine JX.next ?_ | refine JX.normal_block ?_)
      have hskip : nn (l.take (i + 1)) = nn (l.take i) := by rw [nn_take (by omega), if_pos (by simpa [-List.getD_eq_getElem?_getD] using ht24)]
      rw [← hskip]
      repeat refine J.seq ?_
      refine J.plain ?_
      refine JO.t (ob_move rfl) rfl ?_
      refine JO.t (ob_addc (cc := ((i + 1 : Nat) : Int)) rfl rfl (by omega) (by omega) (by omega)) rfl ?_
      refine JO.t (ob_assign rfl) rfl ?_
      refine JO.nil ?_
      repeat refine JX.normal_block ?_
      refine JX.roundG (x := (i, st1, cp1)) (i + 1, st1, cp1) ?_ ?_ [0, 1, 4, 6, 7, 8, 9] ?_ ?_ ?_ ?_
      · exact ⟨by show i + 1 ≤ l.length; omega, by show Grows kC 1 (nmL (nn (l.take (i + 1)))) _ _; rw [hskip]; exact hG1⟩
      · exact (by show (l.length - (i + 1) < l.length - i); omega)
      · exact (.cons rfl (.cons rfl (.cons rfl (.cons rfl (.cons rfl (.cons rfl (.cons rfl .nil)))))))
      · repeat (first | exact .all | exact .nil | refine Has.own (by repeat (first | exact .here | apply Tl.past | apply Tl.there)) ?_ | refine Has.cons (by repeat (first | exact .here | apply Pk.past | apply Pk.there)) ?_)
      · exact fun G hG => by repeat (first | exact hG | refine List.mem_cons_of_mem _ ?_)
      · exact fun _ _ _ => fun _ _ => trivial
    ·
      try simp only [decide_eq_true_eq, decide_eq_false_iff_not] at ht24
      refine J.skip ?_
      repeat (first | refine JX.next ?_ | refine JX.normal_block ?_)
      have hnz : (l.getD i v3E).k ≠ 0 := by rw [beq_eq_false_iff_ne] at ht24; exact ht24
      have hnn : nn (l.take (i + 1)) = nn (l.take i) ++ [l.getD i v3E] := by rw [nn_take (by omega), if_neg hnz]
      have hnl : (nn (l.take i)).length ≤ i := Nat.le_trans (nn_len _) (by rw [List.length_take]; omega)
      have hnul := bs_null (k := k) (nn (l.take i)) (nn_ne _)
      have hz : (((nn (l.take i)).length : Int) == 0) = ((bs k (nn (l.take i))).k == 0) := by rw [Bool.eq_iff_iff, beq_iff_eq, beq_iff_eq, hnul, ← List.length_eq_zero_iff]; omega
      repeat refine J.seq ?_
      refine J.reg0 hmx (by kernel_rfl) (by kernel_rfl) ?_
      refine RT.t (ob_move rfl) ?_
      refine RT.t (ob_move rfl) ?_
      refine RT.t (ob_indexAddr el_sl_api_Value rfl (ha (by omega)) rfl (by omega) (by omega)) ?_
      refine RT.t (ob_loadG (enc := V3.cells) (sz := 3) (len := l.length) (i := i) (y := l.getD i v3E) (cs := V3.cells (l.getD i v3E)) sz_api_Value rfl (by repeat (first | exact List.mem_cons_self | apply List.mem_cons_of_mem)) (ha (by omega)) (v3_get (by omega)) (by omega) rfl) ?_
      refine RT.t (ob_ldN (cs := [_, _, _]) sz_api_Value rfl rfl rfl) ?_
      refine RT.t (ob_call rfl (c_ref01_Compare (l.getD i v3E) (bs k (nn (l.take i)))) (.one rfl (.one rfl .nil))) ?_
      refine RT.t (ob_assign rfl) ?_
      refine RT.nil ?_
      refine FinS.nil0 ?_
      repeat (first | refine JX.next ?_ | refine JX.normal_block ?_)
      refine J.sel [0, 1, 4, 6, 7, 8, 9, 10] (.cons rfl (.cons rfl (.cons rfl (.cons rfl (.cons rfl (.cons rfl (.cons rfl (.cons rfl .nil)))))))) ?_
      repeat refine J.seq ?_
      refine J.reg0 hmx (by kernel_rfl) (by kernel_rfl) ?_
      refine RT.t (ob_move rfl) ?_
      refine RT.t (ob_eql rfl rfl) ?_
      refine RT.t (ob_move rfl) ?_
      refine RT.g rfl rfl rfl (fun hg => ob_move (.inl rfl)) ?_
      refine RT.g rfl rfl rfl (fun hg => ob_eql (.inr ⟨_, rfl, fun h => h⟩) (.inl rfl)) ?_
      refine RT.g rfl rfl rfl (fun hg => ob_move (.inr ⟨_, rfl, fun h => h⟩)) ?_
      refine RT.gg rfl rfl rfl (fun hg => (ob_move (.inl rfl))) ?_
      refine RT.gg rfl rfl rfl (fun hg => (ob_lss (.inr ⟨_, rfl, fun h => h⟩) (.inl rfl))) ?_
      refine RT.g rfl rfl rfl (fun hg => ob_pickAnd (.inr ⟨_, rfl, fun h => h⟩) (.inl rfl) (.inl rfl) (fun h => ⟨hg, h⟩)) ?_
      refine RT.t (ob_pickOr rfl rfl rfl id) ?_
      refine RT.t (ob_move rfl) ?_
      refine RT.g rfl rfl rfl (fun hg => ob_move (.inl rfl)) ?_
      refine RT.g rfl rfl rfl (fun hg => ob_eql (.inr ⟨_, rfl, fun h => h⟩) (.inl rfl)) ?_
      refine RT.g rfl rfl rfl (fun hg => ob_move (.inr ⟨_, rfl, fun h => h⟩)) ?_
      refine RT.gg rfl rfl rfl (fun hg => (ob_move (.inl rfl))) ?_
      refine RT.gg rfl rfl rfl (fun hg => (ob_gtr (.inr ⟨_, rfl, fun h => h⟩) (.inl rfl))) ?_
      refine RT.g rfl rfl rfl (fun hg => ob_pickAnd (.inr ⟨_, rfl, fun h => h⟩) (.inl rfl) (.inl rfl) (fun h => ⟨hg, h⟩)) ?_
      refine RT.t (ob_pickOr rfl rfl rfl id) ?_
      refine RT.nil ?_
      refine FinS.nil0 ?_
      repeat (first | refine JX.next ?_ | refine JX.normal_block ?_)
      refine J.sel [0, 1, 4, 6, 7, 8, 9, 48] (.cons rfl (.cons rfl (.cons rfl (.cons rfl (.cons rfl (.cons rfl (.cons rfl (.cons rfl .nil)))))))) ?_
      repeat refine J.seq ?_
      refine J.cond rfl (fun ht48 => ?_) (fun ht48 => ?_)
      ·
        try simp only [decide_eq_true_eq, decide_eq_false_iff_not] at ht48
        repeat refine J.seq ?_
        refine J.plain ?_
        refine JO.t (ob_move rfl) rfl ?_
        refine JO.t (ob_move rfl) rfl ?_
        refine JO.t (ob_indexAddr el_sl_api_Value rfl (ha (by omega)) rfl (by omega) (by omega)) rfl ?_
        refine JO.t (ob_loadG (enc := V3.cells) (sz := 3) (len := l.length) (i := i) (y := l.getD i v3E) (cs := V3.cells (l.getD i v3E)) sz_api_Value rfl (by repeat (first | exact List.mem_cons_self | apply List.mem_cons_of_mem)) (ha (by omega)) (v3_get (by omega)) (by omega) rfl) rfl ?_
        refine JO.m (obm_store rfl rfl (by repeat (first | exact .here | apply Upd.there)) (by first | exact cnt_is rfl rfl | exact cnt_ex) (by first | exact cnt_is rfl rfl | exact cnt_ex | exact cnt_aggO) ss_api_Value) (by rfl) ?_
        refine JO.nil ?_
        repeat (first | refine JX.next ?_ | refine JX.normal_block ?_)
        refine J.sel [0, 1, 4, 6, 7, 8, 9] (.cons rfl (.cons rfl (.cons rfl (.cons rfl (.cons rfl (.cons rfl (.cons rfl .nil))))))) ?_
        have hbs : bs k (nn (l.take (i + 1))) = l.getD i v3E := by
          rw [hnn, bs_snoc]; unfold bs1; rw [if_pos (by rw [← hz]; exact ht48)]
        rw [← hbs]
        repeat refine J.seq ?_
        refine J.plain ?_
        refine JO.t (ob_move rfl) rfl ?_
        refine JO.t (ob_addc (cc := (((nn (l.take (i + 1))).length : Nat) : Int)) rfl rfl (by rw [hnn, List.length_append, List.length_singleton]; omega) (by omega) (by rw [hnn, List.length_append, List.length_singleton]; omega)) rfl ?_
        refine JO.t (ob_assign rfl) rfl ?_
        refine JO.nil ?_
        repeat (first | refine JX.next ?_ | refine JX.normal_block ?_)
        refine J.sel [0, 1, 4, 6, 7, 8, 9] (.cons rfl (.cons rfl (.cons rfl (.cons rfl (.cons rfl (.cons rfl (.cons rfl .nil))))))) ?_
        repeat refine J.seq ?_
        refine J.plain ?_
        refine JO.t (ob_move rfl) rfl ?_
        refine JO.t (ob_move rfl) rfl ?_
        refine JO.t (ob_move rfl) rfl ?_
        refine JO.t (ob_indexAddr el_sl_api_Value rfl (ha (by omega)) rfl (by omega) (by omega)) rfl ?_
        refine JO.t (ob_fieldAddr fo_api_Value_1 rfl) rfl ?_
        refine JO.t (ob_loadG1 (enc := V3.cells) (sz := 3) (len := l.length) (i := i) (j := 1) (y := l.getD i v3E) (u := .int .i64 (l.getD i v3E).n) sz_int64 rfl (by repeat (first | exact List.mem_cons_self | apply List.mem_cons_of_mem)) (ha (by omega)) (v3_get (by omega)) (by omega) rfl) rfl ?_
        refine JO.t (ob_buildSlice (cs := [_]) sl_sl_int64 (by omega) (by omega) (.cons rfl .nil) rfl rfl rfl) rfl ?_
        refine JO.apX ([(l.getD i v3E).n]) ap_sl_int64 kC_len (by repeat (first | exact .here | apply Cx.past | apply Cx.there)) hG1 rfl rfl (fun L => src_new un_sl_int64 rfl rfl) (by simp) (by simp <;> omega) (by simp <;> omega) rfl (fun st2 cp2 hG2 => ?_)
        try dsimp only
        rw [show nmL (nn (l.take i)) ++ [(l.getD i v3E).n] = nmL (nn (l.take (i + 1))) by rw [hnn]; simp] at hG2 ⊢
        refine JO.t (ob_assign rfl) rfl ?_
        refine JO.nil ?_
        repeat (first | refine JX.next ?_ | refine JX.normal_block ?_)
        refine J.sel [0, 1, 4, 6, 7, 8, 9] (.cons rfl (.cons rfl (.cons rfl (.cons rfl (.cons rfl (.cons rfl (.cons rfl .nil))))))) ?_
        repeat refine J.seq ?_
        refine J.plain ?_
        refine JO.t (ob_move rfl) rfl ?_
        refine JO.t (ob_addc (cc := ((i + 1 : Nat) : Int)) rfl rfl (by omega) (by omega) (by omega)) rfl ?_
        refine JO.t (ob_assign rfl) rfl ?_
        refine JO.nil ?_
        repeat refine JX.normal_block ?_
        refine JX.roundG (x := (i, st1, cp1)) (i + 1, st2, cp2) ?_ ?_ [0, 1, 4, 6, 7, 8, 9] ?_ ?_ ?_ ?_
        · exact ⟨by show i + 1 ≤ l.length; omega, hG2⟩
        · exact (by show (l.length - (i + 1) < l.length - i); omega)
        · exact (.cons rfl (.cons rfl (.cons rfl (.cons rfl (.cons rfl (.cons rfl (.cons rfl .nil)))))))
        · repeat (first | exact .all | exact .nil | refine Has.own (by repeat (first | exact .here | apply Tl.past | apply Tl.there)) ?_ | refine Has.cons (by repeat (first | exact .here | apply Pk.past | apply Pk.there)) ?_)
        · exact fun G hG => by repeat (first | exact hG | refine List.mem_cons_of_mem _ ?_)
        · exact fun _ _ _ => fun _ _ => trivial
      ·
        try simp only [decide_eq_true_eq, decide_eq_false_iff_not] at ht48
        refine J.skip ?_
        repeat (first | refine JX.next ?_ | refine JX.normal_block ?_)
        have hbs : bs k (nn (l.take (i + 1))) = bs k (nn (l.take i)) := by
          rw [hnn, bs_snoc]; unfold bs1; rw [if_neg (by rw [← hz, ht48]; decide)]
        rw [← hbs]
        repeat refine J.seq ?_
        refine J.plain ?_
        refine JO.t (ob_move rfl) rfl ?_
        refine JO.t (ob_addc (cc := (((nn (l.take (i + 1))).length : Nat) : Int)) rfl rfl (by rw [hnn, List.length_append, List.length_singleton]; omega) (by omega) (by rw [hnn, List.length_append, List.length_singleton]; omega)) rfl ?_
        refine JO.t (ob_assign rfl) rfl ?_
        refine JO.nil ?_
        repeat (first | refine JX.next ?_ | refine JX.normal_block ?_)
        refine J.sel [0, 1, 4, 6, 7, 8, 9] (.cons rfl (.cons rfl (.cons rfl (.cons rfl (.cons rfl (.cons rfl (.cons rfl .nil))))))) ?_
        repeat refine J.seq ?_
        refine J.plain ?_
        refine JO.t (ob_move rfl) rfl ?_
        refine JO.t (ob_move rfl) rfl ?_
        refine JO.t (ob_move rfl) rfl ?_
        refine JO.t (ob_indexAddr el_sl_api_Value rfl (ha (by omega)) rfl (by omega) (by omega)) rfl ?_
        refine JO.t (ob_fieldAddr fo_api_Value_1 rfl) rfl ?_
        refine JO.t (ob_loadG1 (enc := V3.cells) (sz := 3) (len := l.length) (i := i) (j := 1) (y := l.getD i v3E) (u := .int .i64 (l.getD i v3E).n) sz_int64 rfl (by repeat (first | exact List.mem_cons_self | apply List.mem_cons_of_mem)) (ha (by omega)) (v3_get (by omega)) (by omega) rfl) rfl ?_
        refine JO.t (ob_buildSlice (cs := [_]) sl_sl_int64 (by omega) (by omega) (.cons rfl .nil) rfl rfl rfl) rfl ?_
        refine JO.apX ([(l.getD i v3E).n]) ap_sl_int64 kC_len (by repeat (first | exact .here | apply Cx.past | apply Cx.there)) hG1 rfl rfl (fun L => src_new un_sl_int64 rfl rfl) (by simp) (by simp <;> omega) (by simp <;> omega) rfl (fun st2 cp2 hG2 => ?_)
        try dsimp only
        rw [show nmL (nn (l.take i)) ++ [(l.getD i v3E).n] = nmL (nn (l.take (i + 1))) by rw [hnn]; simp] at hG2 ⊢
        refine JO.t (ob_assign rfl) rfl ?_
        refine JO.nil ?_
        repeat (first | refine JX.next ?_ | refine JX.normal_block ?_)
        refine J.sel [0, 1, 4, 6, 7, 8, 9] (.cons rfl (.cons rfl (.cons rfl (.cons rfl (.cons rfl (.cons rfl (.cons rfl .nil))))))) ?_
        repeat refine J.seq ?_
        refine J.plain ?_
        refine JO.t (ob_move rfl) rfl ?_
        refine JO.t (ob_addc (cc := ((i + 1 : Nat) : Int)) rfl rfl (by omega) (by omega) (by omega)) rfl ?_
        refine JO.t (ob_assign rfl) rfl ?_
        refine JO.nil ?_
        repeat refine JX.normal_block ?_
        refine JX.roundG (x := (i, st1, cp1)) (i + 1, st2, cp2) ?_ ?_ [0, 1, 4, 6, 7, 8, 9] ?_ ?_ ?_ ?_
        · exact ⟨by show i + 1 ≤ l.length; omega, hG2⟩
        · exact (by show (l.length - (i + 1) < l.length - i); omega)
        · exact (.cons rfl (.cons rfl (.cons rfl (.cons rfl (.cons rfl (.cons rfl (.cons rfl .nil)))))))
        · repeat (first | exact .all | exact .nil | refine Has.own (by repeat (first | exact .here | apply Tl.past | apply Tl.there)) ?_ | refine Has.cons (by repeat (first | exact .here | apply Pk.past | apply Pk.there)) ?_)
        · exact fun G hG => by repeat (first | exact hG | refine List.mem_cons_of_mem _ ?_)
        · exact fun _ _ _ => fun _ _ => trivial
  ·
    try simp only [decide_eq_true_eq, decide_eq_false_iff_not] at ht16
    repeat refine J.seq ?_
    refine J.exit ?_
    repeat (first | refine JX.hit ?_ | refine JX.miss rfl ?_ | refine JX.exit_pass ?_)
    repeat (first | refine JX.next ?_ | refine JX.normal_block ?_)
    have hi2 : i = l.length := by omega
    subst hi2
    rw [List.take_length] at hG1 ⊢
    have hnl := nn_len l
    repeat refine J.seq ?_
    refine J.plain ?_
    refine JO.t (ob_move rfl) rfl ?_
    refine JO.nil ?_
    repeat (first | refine JX.next ?_ | refine JX.normal_block ?_)
    refine J.sel [4, 6, 7, 8, 63] (.cons rfl (.cons rfl (.cons rfl (.cons rfl (.cons rfl .nil))))) ?_
    repeat refine J.seq ?_
    refine J.block ?_
    repeat refine J.seq ?_
    refine J.plain ?_
    refine JO.t (ob_eql rfl rfl) rfl ?_
    refine JO.t (ob_assign rfl) rfl ?_
    refine JO.nil ?_
    repeat (first | refine JX.next ?_ | refine JX.normal_block ?_)
    refine J.sel [4, 6, 7, 8, 63, 64] (.cons rfl (.cons rfl (.cons rfl (.cons rfl (.cons rfl (.cons rfl .nil)))))) ?_
    repeat refine J.seq ?_
    refine J.cond rfl (fun ht64 => ?_) (fun ht64 => ?_)
    ·
      try simp only [decide_eq_true_eq, decide_eq_false_iff_not] at ht64
      have hk2 : k = 20 := by simpa using ht64
      repeat refine J.seq ?_
      refine J.plain ?_
      refine JO.t (ob_move rfl) rfl ?_
      refine JO.t (ob_build (cs := [_, _, _]) sh_api_Value (.cons rfl (.cons rfl .nil)) rfl rfl) rfl ?_
      refine JO.m (obm_store rfl rfl (by repeat (first | exact .here | apply Upd.there)) (by first | exact cnt_is rfl rfl | exact cnt_ex) (by first | exact cnt_is rfl rfl | exact cnt_ex | exact cnt_aggO) ss_api_Value) (by rfl) ?_
      refine JO.t (ob_assign rfl) rfl ?_
      refine JO.nil ?_
      repeat (first | refine JX.next ?_ | refine JX.normal_block ?_)
      refine J.sel [4, 5] (.cons rfl (.cons rfl .nil)) ?_
      repeat refine J.seq ?_
      refine J.ret ?_
      repeat (first | refine JX.ret_pass ?_ | refine JX.ret_block ?_)
      exact JX.retC1is rfl rfl sz_api_Value HasOwn.mem rfl rfl (by rw [hk2, tv20]) (by rw [hk2, tv20])
    ·
      try simp only [decide_eq_true_eq, decide_eq_false_iff_not] at ht64
      repeat refine J.seq ?_
      refine J.plain ?_
      refine JO.t (ob_eql rfl rfl) rfl ?_
      refine JO.t (ob_assign rfl) rfl ?_
      refine JO.nil ?_
      repeat (first | refine JX.next ?_ | refine JX.normal_block ?_)
      refine J.sel [4, 6, 7, 8, 68] (.cons rfl (.cons rfl (.cons rfl (.cons rfl (.cons rfl .nil))))) ?_
      repeat refine J.seq ?_
      refine J.cond rfl (fun ht68 => ?_) (fun ht68 => ?_)
      ·
        try simp only [decide_eq_true_eq, decide_eq_false_iff_not] at ht68
        have hk2 : k = 21 := by simpa using ht68
        subst hk2
        repeat refine J.seq ?_
        refine J.plain ?_
        refine JO.t (ob_move rfl) rfl ?_
        refine JO.t (ob_eql rfl rfl) rfl ?_
        refine JO.nil ?_
        repeat (first | refine JX.next ?_ | refine JX.normal_block ?_)
        refine J.sel [4, 7, 71] (.cons rfl (.cons rfl (.cons rfl .nil))) ?_
        repeat refine J.seq ?_
        refine J.cond rfl (fun ht71 => ?_) (fun ht71 => ?_)
        ·
          try simp only [decide_eq_true_eq, decide_eq_false_iff_not] at ht71
          have hv : tellV 21 (nn l) = (v30, 0) := by rw [tv21, if_pos (by rw [beq_iff_eq] at ht71; omega)]
          repeat refine J.seq ?_
          refine J.plain ?_
          refine JO.t (ob_build (cs := [_, _, _]) sh_api_Value .nil rfl rfl) rfl ?_
          refine JO.m (obm_store rfl rfl (by repeat (first | exact .here | apply Upd.there)) (by first | exact cnt_is rfl rfl | exact cnt_ex) (by first | exact cnt_is rfl rfl | exact cnt_ex | exact cnt_aggO) ss_api_Value) (by rfl) ?_
          refine JO.t (ob_assign rfl) rfl ?_
          refine JO.nil ?_
          repeat (first | refine JX.next ?_ | refine JX.normal_block ?_)
          refine J.sel [4, 5] (.cons rfl (.cons rfl .nil)) ?_
          repeat refine J.seq ?_
          refine J.ret ?_
          repeat (first | refine JX.ret_pass ?_ | refine JX.ret_block ?_)
          exact JX.retC1is rfl rfl sz_api_Value HasOwn.mem rfl rfl (by rw [hv]) (by rw [hv])
        ·
          try simp only [decide_eq_true_eq, decide_eq_false_iff_not] at ht71
          refine J.skip ?_
          repeat (first | refine JX.next ?_ | refine JX.normal_block ?_)
          have hn0 : (nn l).length ≠ 0 := by rw [beq_eq_false_iff_ne] at ht71; omega
          refine J.freezeO kC_len hG1 (e := ty_int64) (by repeat (first | exact .here | apply Tl.past | apply Tl.there)) (fun _ h => h) rfl rfl ?_
          repeat refine J.seq ?_
          refine J.plain ?_
          refine JO.t (ob_move rfl) rfl ?_
          refine JO.t (ob_call rfl (c_ref16_sum (nmL (nn l)) (by rw [List.length_map]; omega) (fun x hx2 => by obtain ⟨v, hv, rfl⟩ := List.mem_map.1 hx2; exact hx v (List.mem_filter.1 hv).1)) (.sub rfl (Sub.slO hG1 (by repeat (first | exact List.mem_cons_self | apply List.mem_cons_of_mem))) .nil)) rfl ?_
          refine JO.t (ob_move rfl) rfl ?_
          refine JO.t (ob_extract0 rfl) rfl ?_
          refine JO.t (ob_extract1 rfl) rfl ?_
          refine JO.t (ob_assign rfl) rfl ?_
          refine JO.t (ob_assign rfl) rfl ?_
          refine JO.nil ?_
          repeat (first | refine JX.next ?_ | refine JX.normal_block ?_)
          refine J.sel [4, 11, 12] (.cons rfl (.cons rfl (.cons rfl .nil))) ?_
          rw [sI_sm]
          repeat refine J.seq ?_
          refine J.plain ?_
          refine JO.t (ob_move rfl) rfl ?_
          refine JO.t (ob_not rfl) rfl ?_
          refine JO.nil ?_
          repeat (first | refine JX.next ?_ | refine JX.normal_block ?_)
          refine J.sel [4, 11, 79] (.cons rfl (.cons rfl (.cons rfl .nil))) ?_
          repeat refine J.seq ?_
          refine J.cond rfl (fun ht79 => ?_) (fun ht79 => ?_)
          ·
            try simp only [decide_eq_true_eq, decide_eq_false_iff_not] at ht79
            have hv : tellV 21 (nn l) = (v30, 35) := by rw [tv21, if_neg hn0, if_neg (by rw [Bool.not_eq_true', decide_eq_false_iff_not] at ht79; exact ht79)]
            repeat refine J.seq ?_
            refine J.plain ?_
            refine JO.t (ob_build (cs := [_, _, _]) sh_api_Value .nil rfl rfl) rfl ?_
            refine JO.m (obm_store rfl rfl (by repeat (first | exact .here | apply Upd.there)) (by first | exact cnt_is rfl rfl | exact cnt_ex) (by first | exact cnt_is rfl rfl | exact cnt_ex | exact cnt_aggO) ss_api_Value) (by rfl) ?_
            refine JO.t (ob_assign rfl) rfl ?_
            refine JO.nil ?_
            repeat (first | refine JX.next ?_ | refine JX.normal_block ?_)
            refine J.sel [4, 5] (.cons rfl (.cons rfl .nil)) ?_
            repeat refine J.seq ?_
            refine J.ret ?_
            repeat (first | refine JX.ret_pass ?_ | refine JX.ret_block ?_)
            exact JX.retC1is rfl rfl sz_api_Value HasOwn.mem rfl rfl (by rw [hv]) (by rw [hv])
          ·
            try simp only [decide_eq_true_eq, decide_eq_false_iff_not] at ht79
            refine J.skip ?_
            repeat (first | refine JX.next ?_ | refine JX.normal_block ?_)
            have hI : -9223372036854775808 ≤ sm (nn l) ∧ sm (nn l) < 9223372036854775808 := by rw [Bool.not_eq_false', decide_eq_true_eq] at ht79; exact ht79
            have hwS : IntKind.i64.wrap (sm (nn l)) = sm (nn l) := wrap64_eq hI.1 hI.2
            have hv : tellV 21 (nn l) = (⟨1, sm (nn l), e0⟩, 0) := by rw [tv21, if_neg hn0, if_pos hI]
            repeat refine J.seq ?_
            refine J.plain ?_
            refine JO.t (ob_move rfl) rfl ?_
            refine JO.t (ob_build (cs := [_, _, _]) sh_api_Value (.cons rfl (.cons rfl .nil)) rfl rfl) rfl ?_
            refine JO.m (obm_store rfl rfl (by repeat (first | exact .here | apply Upd.there)) (by first | exact cnt_is rfl rfl | exact cnt_ex) (by first | exact cnt_is rfl rfl | exact cnt_ex | exact cnt_aggO) ss_api_Value) (by rfl) ?_
            refine JO.t (ob_assign rfl) rfl ?_
            refine JO.nil ?_
            repeat (first | refine JX.next ?_ | refine JX.normal_block ?_)
            refine J.sel [4, 5] (.cons rfl (.cons rfl .nil)) ?_
            repeat refine J.seq ?_
            refine J.ret ?_
            repeat (first | refine JX.ret_pass ?_ | refine JX.ret_block ?_)
            exact JX.retC1is rfl rfl sz_api_Value HasOwn.mem rfl rfl (by rw [hv, hwS]) (by rw [hv])
      ·
        try simp only [decide_eq_true_eq, decide_eq_false_iff_not] at ht68
        refine J.skip ?_
        repeat (first | refine JX.next ?_ | refine JX.normal_block ?_)
        have hk2 : k ≠ 20 ∧ k ≠ 21 := ⟨by simpa using ht64, by simpa using ht68⟩
        have hv : tellV k (nn l) = (bs k (nn l), 0) := by rw [tvP hk2.1 hk2.2, bs_pk (by omega)]
        repeat refine J.seq ?_
        refine J.plain ?_
        refine JO.t (ob_ldN (cs := [_, _, _]) sz_api_Value rfl rfl rfl) rfl ?_
        refine JO.m (obm_store rfl rfl (by repeat (first | exact .here | apply Upd.there)) (by first | exact cnt_is rfl rfl | exact cnt_ex) (by first | exact cnt_is rfl rfl | exact cnt_ex | exact cnt_aggO) ss_api_Value) (by rfl) ?_
        refine JO.t (ob_assign rfl) rfl ?_
        refine JO.nil ?_
        repeat (first | refine JX.next ?_ | refine JX.normal_block ?_)
        refine J.sel [4, 5] (.cons rfl (.cons rfl .nil)) ?_
        repeat refine J.seq ?_
        refine J.ret ?_
        repeat (first | refine JX.ret_pass ?_ | refine JX.ret_block ?_)
        exact JX.retC1is rfl rfl sz_api_Value HasOwn.mem rfl rfl (by rw [hv]) (by rw [hv])
end Go.Proofs.Ytgpikmonklainaa
