/- group: what may be asked. No condition. -/
import Derived.Test.YtgpikmonklainaaXGK
set_option maxRecDepth 20000
namespace Go.Proofs.Ytgpikmonklainaa
open Go Go.Vc
open Go.Vl Go.Od
def kC (k : Int) : List Value := [.int .i64 k]
theorem kC_len (k : Int) : (kC k).length = 1 := rfl
def kOk (k : Int) : Bool := decide (20 ≤ k) && decide (k ≤ 23)
def ifx {α : Type} (bad : α → Bool) : List α → Nat → Int
  | [], _ => -1
  | x :: xs, i => if bad x then i else ifx bad xs (i + 1)
theorem ifx_drop {α : Type} {bad : α → Bool} {d : α} {xs : List α} {i : Nat} (h : i < xs.length) : ifx bad (xs.drop i) i = if bad (xs.getD i d) then (i : Int) else ifx bad (xs.drop (i + 1)) (i + 1) := by
  rw [List.drop_eq_getElem_cons h, getD_lt h]
  rfl
theorem ifx_any {α : Type} {bad : α → Bool} : ∀ (xs : List α) (i : Nat), decide (0 ≤ ifx bad xs i) = xs.any bad
  | [], i => by simp [ifx]
  | x :: xs, i => by
    unfold ifx
    cases h : bad x
    · simp [h, ifx_any xs (i + 1)]
    · simp [h]
abbrev badV (v : V3) : Bool := !okV v
abbrev badK (k : Int) : Bool := !kOk k
def bt (k : Int) (v : V3) : Bool := k == 21 && decide (1 < v.k)
def bT (ks : List Int) (a : List V3) : Bool := (ks.zip a).any fun p => bt p.1 p.2
def okR (ks : List Int) (p : List V3 × List V3) : Bool := p.2.length == ks.length && p.2.all okV && p.1.all okV
def e33 (b : Bool) : Int := if b then 33 else 0
def eU (ks : List Int) (args : List (List V3)) (i : Nat) : Bool := (args.take i).any (bT ks)
def eW (ks : List Int) (args : List (List V3)) (i : Nat) (a : List V3) (j : Nat) : Bool := eU ks args i || ((ks.zip a).take j).any fun p => bt p.1 p.2
def chk (keys args : List (List V3)) (ks : List Int) : Int :=
  if keys.length != args.length || ks.any badK then 1 else if !((keys.zip args).all (okR ks)) then 1 else e33 (args.any (bT ks))
theorem eU_step {ks : List Int} {args : List (List V3)} {i : Nat} (h : i < args.length) : eU ks args (i + 1) = (eU ks args i || bT ks (args.getD i [])) := by
  unfold eU
  rw [List.take_add_one, getD_some (d := []) h]
  simp [List.any_append]
theorem eW_step {ks : List Int} {args : List (List V3)} {i j : Nat} {a : List V3} (h1 : j < ks.length) (h2 : j < a.length) : eW ks args i a (j + 1) = (eW ks args i a j || bt (ks.getD j 0) (a.getD j v3E)) := by
  unfold eW
  have e : (ks.zip a)[j]? = some (ks.getD j 0, a.getD j v3E) := by
    rw [List.getElem?_zip_eq_some]
    exact ⟨getD_some h1, getD_some h2⟩
  rw [List.take_add_one, e]
  simp [List.any_append, Bool.or_assoc]
theorem eW_end {ks : List Int} {args : List (List V3)} {i j : Nat} (h : i < args.length) (hl : (args.getD i []).length ≤ j) : eW ks args i (args.getD i []) j = eU ks args (i + 1) := by
  rw [eU_step h]
  unfold eW bT
  rw [List.take_of_length_le (by rw [List.length_zip]; omega)]
theorem eW_zero (ks : List Int) (args : List (List V3)) (i : Nat) (a : List V3) : eW ks args i a 0 = eU ks args i := by simp [eW]
theorem chk_a {kps aps : List RV} {ks : List Int} (h : (((kps.length : Nat) : Int) != ((aps.length : Nat) : Int) || ks.any badK) = true) : 1 = chk (kps.map RV.row) (aps.map RV.row) ks := by
  unfold chk
  rw [if_pos (by
    rw [List.length_map, List.length_map]
    cases hk : ks.any badK
    · rw [hk, Bool.or_false] at h
      rw [Bool.or_false, bne_iff_ne]
      rw [bne_iff_ne] at h
      omega
    · simp)]
theorem chk_n {kps aps : List RV} {ks : List Int} (h1 : kps.length = aps.length) (h2 : ks.any badK = false) : ¬ (((kps.map RV.row).length != (aps.map RV.row).length || ks.any badK) = true) := by
  rw [h2, List.length_map, List.length_map, h1]
  simp
theorem zip_row {kps aps : List RV} {i : Nat} (h1 : i < kps.length) (h2 : i < aps.length) : ((kps.map RV.row).zip (aps.map RV.row))[i]? = some ((kps.getD i rv0).row, (aps.getD i rv0).row) := by
  rw [List.getElem?_zip_eq_some, List.getElem?_map, List.getElem?_map, getD_some (d := rv0) h1, getD_some (d := rv0) h2]
  exact ⟨rfl, rfl⟩
theorem chk_b {kps aps : List RV} {ks : List Int} {i : Nat} (h1 : kps.length = aps.length) (h2 : ks.any badK = false) (hi : i < aps.length) (hb : okR ks ((kps.getD i rv0).row, (aps.getD i rv0).row) = false) : 1 = chk (kps.map RV.row) (aps.map RV.row) ks := by
  unfold chk
  rw [if_neg (chk_n h1 h2), if_pos]
  have : ((kps.map RV.row).zip (aps.map RV.row)).all (okR ks) = false := by
    rw [List.all_eq_false]
    exact ⟨_, List.mem_of_getElem? (zip_row (by omega) hi), by rw [hb]; simp⟩
  rw [this]
  rfl
theorem chk_c {kps aps : List RV} {ks : List Int} (h1 : kps.length = aps.length) (h2 : ks.any badK = false) (hb : ∀ i, i < aps.length → okR ks ((kps.getD i rv0).row, (aps.getD i rv0).row) = true) : e33 (eU ks (aps.map RV.row) aps.length) = chk (kps.map RV.row) (aps.map RV.row) ks := by
  unfold chk
  rw [if_neg (chk_n h1 h2), if_neg]
  · unfold eU
    rw [List.take_of_length_le (by rw [List.length_map]; omega)]
  · have : ((kps.map RV.row).zip (aps.map RV.row)).all (okR ks) = true := by
      rw [List.all_eq_true]
      intro p hp
      obtain ⟨i, hi⟩ := List.getElem?_of_mem hp
      have hl : i < kps.length ∧ i < aps.length := by
        have := (List.getElem?_eq_some_iff.1 hi).1
        rw [List.length_zip, List.length_map, List.length_map] at this
        omega
      rw [zip_row hl.1 hl.2] at hi
      injection hi with hi
      rw [← hi]
      exact hb i hl.2
    rw [this]
    simp
theorem rowD {ps : List RV} {i : Nat} (h : i < ps.length) : (ps.map RV.row).getD i [] = (ps.getD i rv0).row := by
  rw [List.getD_eq_getElem?_getD, List.getElem?_map, getD_some (d := rv0) h]
  rfl
theorem c_group_check_1 (v : V3) : CallTy Try.prog f_group_check_1 [.is (.agg #[.int .i64 v.k, .int .i64 v.n, .string v.s])] (.is (.bool (badV v))) :=
  CallTy.of (fn := Try.f50) Try.func50 (n := 6) rfl rfl rfl (fun _ _ => by kernel_rfl) fun E W => by
  repeat refine J.seq ?_
  refine J.plain ?_
  refine JO.box rfl rfl fun b1 => ?_
  refine JO.t (ob_assign rfl) rfl ?_
  refine JO.nil ?_
  repeat (first | refine JX.next ?_ | refine JX.normal_block ?_)
  refine J.sel [1] (.cons rfl .nil) ?_
  repeat refine J.seq ?_
  refine J.plain ?_
  refine JO.t (ob_ldN (cs := [_, _, _]) sz_api_Value rfl rfl rfl) rfl ?_
  refine JO.t (ob_call rfl (c_value_Ok _) (.one rfl .nil)) rfl ?_
  refine JO.t (ob_not rfl) rfl ?_
  refine JO.t (ob_assign rfl) rfl ?_
  refine JO.nil ?_
  repeat (first | refine JX.next ?_ | refine JX.normal_block ?_)
  refine J.sel [2] (.cons rfl .nil) ?_
  repeat refine J.seq ?_
  refine J.ret ?_
  repeat (first | refine JX.ret_pass ?_ | refine JX.ret_block ?_)
  exact JX.ret1is rfl rfl (by rfl)
theorem c_group_check_2 (k : Int) : CallTy Try.prog f_group_check_2 [.is (.int .i64 k)] (.is (.bool (badK k))) :=
  CallTy.of (fn := Try.f52) Try.func52 (n := 9) rfl rfl rfl (fun _ _ => by kernel_rfl) fun E W => by
  repeat refine J.seq ?_
  refine J.plain ?_
  refine JO.t (ob_assign rfl) rfl ?_
  refine JO.nil ?_
  repeat (first | refine JX.next ?_ | refine JX.normal_block ?_)
  refine J.sel [0] (.cons rfl .nil) ?_
  repeat refine J.seq ?_
  refine J.reg0 hmx (by kernel_rfl) (by kernel_rfl) ?_
  refine RT.t (ob_move rfl) ?_
  refine RT.t (ob_lss rfl rfl) ?_
  refine RT.t (ob_move rfl) ?_
  refine RT.g rfl rfl rfl (fun hg => ob_move (.inl rfl)) ?_
  refine RT.g rfl rfl rfl (fun hg => ob_gtr (.inr ⟨_, rfl, fun h => h⟩) (.inl rfl)) ?_
  refine RT.t (ob_pickOr rfl rfl rfl id) ?_
  refine RT.t (ob_assign rfl) ?_
  refine RT.nil ?_
  refine FinS.nil0 ?_
  repeat (first | refine JX.next ?_ | refine JX.normal_block ?_)
  refine J.sel [2] (.cons rfl .nil) ?_
  repeat refine J.seq ?_
  refine J.ret ?_
  repeat (first | refine JX.ret_pass ?_ | refine JX.ret_block ?_)
  exact JX.ret1is rfl rfl (by unfold badK kOk; by_cases h1 : k < 20 <;> by_cases h2 : 23 < k <;> simp [h1, h2] <;> omega)
theorem c_slices_IndexFunc_sl_api_Value_api_Value_g (xs : List V3) (hl : xs.length ≤ 9223372036854775806) : CallTy Try.prog f_slices_IndexFunc_sl_api_Value_api_Value [.rep (SlG V3.cells 3 xs), .is (.func (.func f_group_check_1) #[] #[])] (.is (.int .i64 (ifx badV xs 0))) :=
  CallTy.of (fn := Try.f56) Try.func56 (n := 19) rfl rfl rfl (fun _ _ => by kernel_rfl) fun E W => by
  refine J.openSl (enc := V3.cells) (sz := 3) (s := 0) rfl (fun a len cap b o hlen ha => ?_)
  subst hlen
  repeat refine J.seq ?_
  refine J.plain ?_
  refine JO.t (ob_assign rfl) rfl ?_
  refine JO.nil ?_
  repeat (first | refine JX.next ?_ | refine JX.normal_block ?_)
  refine J.sel [0, 1] (.cons rfl (.cons rfl .nil)) ?_
  repeat refine J.seq ?_
  refine J.plain ?_
  refine JO.t (ob_move rfl) rfl ?_
  refine JO.t (ob_len un_sl_api_Value rfl) rfl ?_
  refine JO.t (ob_move rfl) rfl ?_
  refine JO.nil ?_
  repeat (first | refine JX.next ?_ | refine JX.normal_block ?_)
  refine J.sel [0, 1, 7, 8] (.cons rfl (.cons rfl (.cons rfl (.cons rfl .nil)))) ?_
  repeat refine J.seq ?_
  refine J.block ?_
  repeat refine J.seq ?_
  refine J.loopF (α := Nat) (fun i => [(0, .is (.slice a xs.length cap)), (1, .is (.func (.func f_group_check_1) #[] #[])), (7, .is (.int .i64 (xs.length : Nat))), (8, .is (.int .i64 (i : Nat)))]) (fun i => i ≤ xs.length ∧ ifx badV (xs.drop i) i = ifx badV xs 0) (fun i => xs.length - i) 0 [0, 1, 7, 8] (.cons rfl (.cons rfl (.cons rfl (.cons rfl .nil)))) ⟨by omega, rfl⟩ fun i ⟨hi, hs⟩ => ?_
  repeat refine J.seq ?_
  refine J.plain ?_
  refine JO.t (ob_lss rfl rfl) rfl ?_
  refine JO.nil ?_
  repeat (first | refine JX.next ?_ | refine JX.normal_block ?_)
  refine J.sel [0, 1, 7, 8, 9] (.cons rfl (.cons rfl (.cons rfl (.cons rfl (.cons rfl .nil))))) ?_
  repeat refine J.seq ?_
  refine J.cond rfl (fun ht9 => ?_) (fun ht9 => ?_)
  ·
    try simp only [decide_eq_true_eq, decide_eq_false_iff_not] at ht9
    refine J.skip ?_
    repeat (first | refine JX.next ?_ | refine JX.normal_block ?_)
    repeat refine J.seq ?_
    refine J.block ?_
    repeat refine J.seq ?_
    refine J.plain ?_
    refine JO.t (ob_move rfl) rfl ?_
    refine JO.t (ob_assign rfl) rfl ?_
    refine JO.nil ?_
    repeat (first | refine JX.next ?_ | refine JX.normal_block ?_)
    refine J.sel [0, 1, 5, 7, 8] (.cons rfl (.cons rfl (.cons rfl (.cons rfl (.cons rfl .nil))))) ?_
    repeat refine J.seq ?_
    refine J.plain ?_
    refine JO.t (ob_move rfl) rfl ?_
    refine JO.t (ob_move rfl) rfl ?_
    refine JO.t (ob_move rfl) rfl ?_
    refine JO.t (ob_indexAddr el_sl_api_Value rfl (ha (by omega)) rfl (by omega) (by omega)) rfl ?_
    refine JO.t (ob_loadG (enc := V3.cells) (sz := 3) (len := xs.length) (i := i) (y := xs.getD i v3E) (cs := V3.cells (xs.getD i v3E)) sz_api_Value rfl (by repeat (first | exact List.mem_cons_self | apply List.mem_cons_of_mem)) (ha (by omega)) (v3_get (by omega)) (by omega) rfl) rfl ?_
    refine JO.t (ob_callv rfl (fs := []) (cs := []) (c_group_check_1 (xs.getD i v3E)) (.one rfl .nil)) rfl ?_
    refine JO.nil ?_
    repeat (first | refine JX.next ?_ | refine JX.normal_block ?_)
    refine J.sel [0, 1, 5, 7, 8, 16] (.cons rfl (.cons rfl (.cons rfl (.cons rfl (.cons rfl (.cons rfl .nil)))))) ?_
    repeat refine J.seq ?_
    refine J.cond rfl (fun ht16 => ?_) (fun ht16 => ?_)
    ·
      try simp only [decide_eq_true_eq, decide_eq_false_iff_not] at ht16
      repeat refine J.seq ?_
      refine J.plain ?_
      refine JO.t (ob_move rfl) rfl ?_
      refine JO.t (ob_assign rfl) rfl ?_
      refine JO.nil ?_
      repeat (first | refine JX.next ?_ | refine JX.normal_block ?_)
      refine J.sel [4] (.cons rfl .nil) ?_
      repeat refine J.seq ?_
      refine J.ret ?_
      repeat (first | refine JX.ret_pass ?_ | refine JX.ret_block ?_)
      exact JX.ret1is rfl rfl (by rw [← hs, ifx_drop (i := i) (d := v3E) (by omega), if_pos (by simpa using ht16)])
    ·
      try simp only [decide_eq_true_eq, decide_eq_false_iff_not] at ht16
      refine J.skip ?_
      repeat (first | refine JX.next ?_ | refine JX.normal_block ?_)
      repeat refine J.seq ?_
      refine J.plain ?_
      refine JO.t (ob_addc (cc := ((i + 1 : Nat) : Int)) rfl rfl (by omega) (by omega) (by omega)) rfl ?_
      refine JO.t (ob_move rfl) rfl ?_
      refine JO.nil ?_
      repeat refine JX.normal_block ?_
      refine JX.roundS (i + 1) ?_ ?_ [0, 1, 7, 8] ?_ ?_ ?_
      · exact ⟨by omega, by rw [← hs, ifx_drop (i := i) (d := v3E) (by omega), if_neg (by simpa using ht16)]⟩
      · exact (by omega)
      · exact (.cons rfl (.cons rfl (.cons rfl (.cons rfl .nil))))
      · repeat (first | exact .slnil | exact List.Sublist.refl _ | apply List.Sublist.cons_cons | apply List.Sublist.cons)
      · repeat (first | exact .slnil | exact List.Sublist.refl _ | apply List.Sublist.cons_cons | apply List.Sublist.cons)
  ·
    try simp only [decide_eq_true_eq, decide_eq_false_iff_not] at ht9
    repeat refine J.seq ?_
    refine J.exit ?_
    repeat (first | refine JX.hit ?_ | refine JX.miss rfl ?_ | refine JX.exit_pass ?_)
    repeat (first | refine JX.next ?_ | refine JX.normal_block ?_)
    repeat refine J.seq ?_
    refine J.plain ?_
    refine JO.t (ob_assign rfl) rfl ?_
    refine JO.nil ?_
    repeat (first | refine JX.next ?_ | refine JX.normal_block ?_)
    refine J.sel [4] (.cons rfl .nil) ?_
    repeat refine J.seq ?_
    refine J.ret ?_
    repeat (first | refine JX.ret_pass ?_ | refine JX.ret_block ?_)
    exact JX.ret1is rfl rfl (by rw [← hs, List.drop_eq_nil_of_le (by omega)]; rfl)
theorem c_slices_ContainsFunc_sl_api_Value_api_Value_g (xs : List V3) (hl : xs.length ≤ 9223372036854775806) : CallTy Try.prog f_slices_ContainsFunc_sl_api_Value_api_Value [.rep (SlG V3.cells 3 xs), .is (.func (.func f_group_check_1) #[] #[])] (.is (.bool (xs.any badV))) :=
  CallTy.of (fn := Try.f40) Try.func40 (n := 9) rfl rfl rfl (fun _ _ => by kernel_rfl) fun E W => by
  repeat refine J.seq ?_
  refine J.plain ?_
  refine JO.t (ob_assign rfl) rfl ?_
  refine JO.nil ?_
  repeat (first | refine JX.next ?_ | refine JX.normal_block ?_)
  refine J.sel [0, 1] (.cons rfl (.cons rfl .nil)) ?_
  repeat refine J.seq ?_
  refine J.plain ?_
  refine JO.t (ob_move rfl) rfl ?_
  refine JO.t (ob_move rfl) rfl ?_
  refine JO.t (ob_call rfl (c_slices_IndexFunc_sl_api_Value_api_Value_g xs hl) (.one rfl (.one rfl .nil))) rfl ?_
  refine JO.t (ob_geq rfl rfl) rfl ?_
  refine JO.t (ob_assign rfl) rfl ?_
  refine JO.nil ?_
  repeat (first | refine JX.next ?_ | refine JX.normal_block ?_)
  refine J.sel [4] (.cons rfl .nil) ?_
  repeat refine J.seq ?_
  refine J.ret ?_
  repeat (first | refine JX.ret_pass ?_ | refine JX.ret_block ?_)
  exact JX.ret1is rfl rfl (by rw [← ifx_any xs 0])
theorem c_slices_IndexFunc_sl_int_int_g (xs : List Int) (hl : xs.length ≤ 9223372036854775806) : CallTy Try.prog f_slices_IndexFunc_sl_int_int [.rep (SlG kC 1 xs), .is (.func (.func f_group_check_2) #[] #[])] (.is (.int .i64 (ifx badK xs 0))) :=
  CallTy.of (fn := Try.f59) Try.func59 (n := 19) rfl rfl rfl (fun _ _ => by kernel_rfl) fun E W => by
  refine J.openSl (enc := kC) (sz := 1) (s := 0) rfl (fun a len cap b o hlen ha => ?_)
  subst hlen
  repeat refine J.seq ?_
  refine J.plain ?_
  refine JO.t (ob_assign rfl) rfl ?_
  refine JO.nil ?_
  repeat (first | refine JX.next ?_ | refine JX.normal_block ?_)
  refine J.sel [0, 1] (.cons rfl (.cons rfl .nil)) ?_
  repeat refine J.seq ?_
  refine J.plain ?_
  refine JO.t (ob_move rfl) rfl ?_
  refine JO.t (ob_len un_sl_int rfl) rfl ?_
  refine JO.t (ob_move rfl) rfl ?_
  refine JO.nil ?_
  repeat (first | refine JX.next ?_ | refine JX.normal_block ?_)
  refine J.sel [0, 1, 7, 8] (.cons rfl (.cons rfl (.cons rfl (.cons rfl .nil)))) ?_
  repeat refine J.seq ?_
  refine J.block ?_
  repeat refine J.seq ?_
  refine J.loopF (α := Nat) (fun i => [(0, .is (.slice a xs.length cap)), (1, .is (.func (.func f_group_check_2) #[] #[])), (7, .is (.int .i64 (xs.length : Nat))), (8, .is (.int .i64 (i : Nat)))]) (fun i => i ≤ xs.length ∧ ifx badK (xs.drop i) i = ifx badK xs 0) (fun i => xs.length - i) 0 [0, 1, 7, 8] (.cons rfl (.cons rfl (.cons rfl (.cons rfl .nil)))) ⟨by omega, rfl⟩ fun i ⟨hi, hs⟩ => ?_
  repeat refine J.seq ?_
  refine J.plain ?_
  refine JO.t (ob_lss rfl rfl) rfl ?_
  refine JO.nil ?_
  repeat (first | refine JX.next ?_ | refine JX.normal_block ?_)
  refine J.sel [0, 1, 7, 8, 9] (.cons rfl (.cons rfl (.cons rfl (.cons rfl (.cons rfl .nil))))) ?_
  repeat refine J.seq ?_
  refine J.cond rfl (fun ht9 => ?_) (fun ht9 => ?_)
  ·
    try simp only [decide_eq_true_eq, decide_eq_false_iff_not] at ht9
    refine J.skip ?_
    repeat (first | refine JX.next ?_ | refine JX.normal_block ?_)
    repeat refine J.seq ?_
    refine J.block ?_
    repeat refine J.seq ?_
    refine J.plain ?_
    refine JO.t (ob_move rfl) rfl ?_
    refine JO.t (ob_assign rfl) rfl ?_
    refine JO.nil ?_
    repeat (first | refine JX.next ?_ | refine JX.normal_block ?_)
    refine J.sel [0, 1, 5, 7, 8] (.cons rfl (.cons rfl (.cons rfl (.cons rfl (.cons rfl .nil))))) ?_
    repeat refine J.seq ?_
    refine J.plain ?_
    refine JO.t (ob_move rfl) rfl ?_
    refine JO.t (ob_move rfl) rfl ?_
    refine JO.t (ob_move rfl) rfl ?_
    refine JO.t (ob_indexAddr el_sl_int rfl (ha (by omega)) rfl (by omega) (by omega)) rfl ?_
    refine JO.t (ob_loadG1 (enc := kC) (sz := 1) (len := xs.length) (i := i) (j := 0) (y := xs.getD i 0) (u := .int .i64 (xs.getD i 0)) sz_int rfl (by repeat (first | exact List.mem_cons_self | apply List.mem_cons_of_mem)) (ha (by omega)) (getD_some (by omega)) (by omega) rfl) rfl ?_
    refine JO.t (ob_callv rfl (fs := []) (cs := []) (c_group_check_2 (xs.getD i 0)) (.one rfl .nil)) rfl ?_
    refine JO.nil ?_
    repeat (first | refine JX.next ?_ | refine JX.normal_block ?_)
    refine J.sel [0, 1, 5, 7, 8, 16] (.cons rfl (.cons rfl (.cons rfl (.cons rfl (.cons rfl (.cons rfl .nil)))))) ?_
    repeat refine J.seq ?_
    refine J.cond rfl (fun ht16 => ?_) (fun ht16 => ?_)
    ·
      try simp only [decide_eq_true_eq, decide_eq_false_iff_not] at ht16
      repeat refine J.seq ?_
      refine J.plain ?_
      refine JO.t (ob_move rfl) rfl ?_
      refine JO.t (ob_assign rfl) rfl ?_
      refine JO.nil ?_
      repeat (first | refine JX.next ?_ | refine JX.normal_block ?_)
      refine J.sel [4] (.cons rfl .nil) ?_
      repeat refine J.seq ?_
      refine J.ret ?_
      repeat (first | refine JX.ret_pass ?_ | refine JX.ret_block ?_)
      exact JX.ret1is rfl rfl (by rw [← hs, ifx_drop (i := i) (d := 0) (by omega), if_pos (by simpa using ht16)])
    ·
      try simp only [decide_eq_true_eq, decide_eq_false_iff_not] at ht16
      refine J.skip ?_
      repeat (first | refine JX.next ?_ | refine JX.normal_block ?_)
      repeat refine J.seq ?_
      refine J.plain ?_
      refine JO.t (ob_addc (cc := ((i + 1 : Nat) : Int)) rfl rfl (by omega) (by omega) (by omega)) rfl ?_
      refine JO.t (ob_move rfl) rfl ?_
      refine JO.nil ?_
      repeat refine JX.normal_block ?_
      refine JX.roundS (i + 1) ?_ ?_ [0, 1, 7, 8] ?_ ?_ ?_
      · exact ⟨by omega, by rw [← hs, ifx_drop (i := i) (d := 0) (by omega), if_neg (by simpa using ht16)]⟩
      · exact (by omega)
      · exact (.cons rfl (.cons rfl (.cons rfl (.cons rfl .nil))))
      · repeat (first | exact .slnil | exact List.Sublist.refl _ | apply List.Sublist.cons_cons | apply List.Sublist.cons)
      · repeat (first | exact .slnil | exact List.Sublist.refl _ | apply List.Sublist.cons_cons | apply List.Sublist.cons)
  ·
    try simp only [decide_eq_true_eq, decide_eq_false_iff_not] at ht9
    repeat refine J.seq ?_
    refine J.exit ?_
    repeat (first | refine JX.hit ?_ | refine JX.miss rfl ?_ | refine JX.exit_pass ?_)
    repeat (first | refine JX.next ?_ | refine JX.normal_block ?_)
    repeat refine J.seq ?_
    refine J.plain ?_
    refine JO.t (ob_assign rfl) rfl ?_
    refine JO.nil ?_
    repeat (first | refine JX.next ?_ | refine JX.normal_block ?_)
    refine J.sel [4] (.cons rfl .nil) ?_
    repeat refine J.seq ?_
    refine J.ret ?_
    repeat (first | refine JX.ret_pass ?_ | refine JX.ret_block ?_)
    exact JX.ret1is rfl rfl (by rw [← hs, List.drop_eq_nil_of_le (by omega)]; rfl)
theorem c_slices_ContainsFunc_sl_int_int_g (xs : List Int) (hl : xs.length ≤ 9223372036854775806) : CallTy Try.prog f_slices_ContainsFunc_sl_int_int [.rep (SlG kC 1 xs), .is (.func (.func f_group_check_2) #[] #[])] (.is (.bool (xs.any badK))) :=
  CallTy.of (fn := Try.f51) Try.func51 (n := 9) rfl rfl rfl (fun _ _ => by kernel_rfl) fun E W => by
  repeat refine J.seq ?_
  refine J.plain ?_
  refine JO.t (ob_assign rfl) rfl ?_
  refine JO.nil ?_
  repeat (first | refine JX.next ?_ | refine JX.normal_block ?_)
  refine J.sel [0, 1] (.cons rfl (.cons rfl .nil)) ?_
  repeat refine J.seq ?_
  refine J.plain ?_
  refine JO.t (ob_move rfl) rfl ?_
  refine JO.t (ob_move rfl) rfl ?_
  refine JO.t (ob_call rfl (c_slices_IndexFunc_sl_int_int_g xs hl) (.one rfl (.one rfl .nil))) rfl ?_
  refine JO.t (ob_geq rfl rfl) rfl ?_
  refine JO.t (ob_assign rfl) rfl ?_
  refine JO.nil ?_
  repeat (first | refine JX.next ?_ | refine JX.normal_block ?_)
  refine J.sel [4] (.cons rfl .nil) ?_
  repeat refine J.seq ?_
  refine J.ret ?_
  repeat (first | refine JX.ret_pass ?_ | refine JX.ret_block ?_)
  exact JX.ret1is rfl rfl (by rw [← ifx_any xs 0])
theorem c_group_check (keys args : List (List V3)) (ks : List Int) (hn : args.length ≤ 1048576) (hR : ∀ r ∈ args, r.length ≤ 1048576) (hK : ∀ r ∈ keys, r.length ≤ 1048576) (hks : ks.length ≤ 1048576) : CallTy Try.prog f_group_check [.rep (RowsR noG keys), .rep (RowsR noG args), .rep (SlG kC 1 ks)] (.is (.int .i64 (chk keys args ks))) :=
  CallTy.of (fn := Try.f33) Try.func33 (n := 67) rfl rfl rfl (fun _ _ => by kernel_rfl) fun E W => by
  refine J.openRows (s := 0) rfl (fun kps ka kl kc kb ko hkm hkl hkc hka => ?_)
  refine J.openRows (s := 1) rfl (fun aps aa al ac ab ao ham hal hac haa => ?_)
  refine J.openSl (enc := kC) (sz := 1) (s := 2) rfl (fun da dl dcap db dof hdl hda => ?_)
  subst hdl hkl hal hkm ham
  refine J.know (∀ p ∈ aps, p.row.length = p.len) (fun E w hG _ => fun p hp => ((hG (RVF aps) (by repeat (first | exact List.mem_cons_self | apply List.mem_cons_of_mem))).now p hp).2.1) (fun hkn => ?_)
  rw [List.length_map] at hn
  repeat refine J.seq ?_
  refine J.plain ?_
  refine JO.t (ob_assign rfl) rfl ?_
  refine JO.nil ?_
  repeat (first | refine JX.next ?_ | refine JX.normal_block ?_)
  refine J.sel [0, 1, 2] (.cons rfl (.cons rfl (.cons rfl .nil))) ?_
  repeat refine J.seq ?_
  refine J.plain ?_
  refine JO.t (ob_assign rfl) rfl ?_
  refine JO.nil ?_
  repeat (first | refine JX.next ?_ | refine JX.normal_block ?_)
  refine J.sel [0, 1, 2, 7] (.cons rfl (.cons rfl (.cons rfl (.cons rfl .nil)))) ?_
  repeat refine J.seq ?_
  refine J.reg0 hmx (by kernel_rfl) (by kernel_rfl) ?_
  refine RT.t (ob_move rfl) ?_
  refine RT.t (ob_len un_sl_sl_api_Value rfl) ?_
  refine RT.t (ob_move rfl) ?_
  refine RT.t (ob_len un_sl_sl_api_Value rfl) ?_
  refine RT.t (ob_neq rfl rfl) ?_
  refine RT.t (ob_move rfl) ?_
  refine RT.g rfl rfl rfl (fun hg => ob_move (.inl rfl)) ?_
  refine RT.g rfl rfl rfl (fun hg => ob_call (.inl rfl) (c_slices_ContainsFunc_sl_int_int_g ks (by omega)) (.sub (.inr ⟨_, rfl, fun h => h⟩) (Sub.slFact (by repeat (first | exact List.mem_cons_self | apply List.mem_cons_of_mem))) (.one (.inl rfl) .nil))) ?_
  refine RT.t (ob_pickOr rfl rfl rfl id) ?_
  refine RT.nil ?_
  refine FinS.nil0 ?_
  repeat (first | refine JX.next ?_ | refine JX.normal_block ?_)
  refine J.sel [0, 1, 2, 7, 21] (.cons rfl (.cons rfl (.cons rfl (.cons rfl (.cons rfl .nil))))) ?_
  repeat refine J.seq ?_
  refine J.cond rfl (fun ht21 => ?_) (fun ht21 => ?_)
  ·
    try simp only [decide_eq_true_eq, decide_eq_false_iff_not] at ht21
    repeat refine J.seq ?_
    refine J.plain ?_
    refine JO.t (ob_assign rfl) rfl ?_
    refine JO.nil ?_
    repeat (first | refine JX.next ?_ | refine JX.normal_block ?_)
    refine J.sel [6] (.cons rfl .nil) ?_
    repeat refine J.seq ?_
    refine J.ret ?_
    repeat (first | refine JX.ret_pass ?_ | refine JX.ret_block ?_)
    exact JX.ret1is rfl rfl (by rw [← chk_a ht21])
  ·
    try simp only [decide_eq_true_eq, decide_eq_false_iff_not] at ht21
    refine J.skip ?_
    repeat (first | refine JX.next ?_ | refine JX.normal_block ?_)
    simp only [Bool.or_eq_false_iff, decide_eq_false_iff_not] at ht21
    have hkn2 : kps.length = aps.length := by have := ht21.1; simp at this; omega
    have hka2 : ks.any badK = false := ht21.2
    repeat refine J.seq ?_
    refine J.plain ?_
    refine JO.t (ob_assign rfl) rfl ?_
    refine JO.nil ?_
    repeat (first | refine JX.next ?_ | refine JX.normal_block ?_)
    refine J.sel [0, 1, 2, 7, 8] (.cons rfl (.cons rfl (.cons rfl (.cons rfl (.cons rfl .nil))))) ?_
    repeat refine J.seq ?_
    refine J.plain ?_
    refine JO.t (ob_move rfl) rfl ?_
    refine JO.t (ob_len un_sl_sl_api_Value rfl) rfl ?_
    refine JO.t (ob_move rfl) rfl ?_
    refine JO.nil ?_
    repeat (first | refine JX.next ?_ | refine JX.normal_block ?_)
    refine J.sel [0, 2, 7, 8, 22, 23, 24] (.cons rfl (.cons rfl (.cons rfl (.cons rfl (.cons rfl (.cons rfl (.cons rfl .nil))))))) ?_
    repeat refine J.seq ?_
    refine J.block ?_
    repeat refine J.seq ?_
    refine J.loopF (α := Nat) (fun i => [(0, .is (.slice ka kps.length kc)), (2, .is (.slice da ks.length dcap)), (7, .is (.func (.func f_group_check_1) #[] #[])), (8, .is (.int .i64 (e33 (eU ks (aps.map RV.row) i)))), (22, .is (.slice aa aps.length ac)), (23, .is (.int .i64 (aps.length : Nat))), (24, .is (.int .i64 (i : Nat)))]) (fun i => i ≤ aps.length ∧ ∀ j, j < i → okR ks ((kps.getD j rv0).row, (aps.getD j rv0).row) = true) (fun i => aps.length - i) 0 [0, 2, 7, 8, 22, 23, 24] (.cons rfl (.cons rfl (.cons rfl (.cons rfl (.cons rfl (.cons rfl (.cons rfl .nil))))))) ⟨Nat.zero_le _, fun j h => absurd h (Nat.not_lt_zero _)⟩ fun i ⟨hi, hok⟩ => ?_
    repeat refine J.seq ?_
    refine J.plain ?_
    refine JO.t (ob_lss rfl rfl) rfl ?_
    refine JO.nil ?_
    repeat (first | refine JX.next ?_ | refine JX.normal_block ?_)
    refine J.sel [0, 2, 7, 8, 22, 23, 24, 25] (.cons rfl (.cons rfl (.cons rfl (.cons rfl (.cons rfl (.cons rfl (.cons rfl (.cons rfl .nil)))))))) ?_
    repeat refine J.seq ?_
    refine J.cond rfl (fun ht25 => ?_) (fun ht25 => ?_)
    ·
      try simp only [decide_eq_true_eq, decide_eq_false_iff_not] at ht25
      refine J.skip ?_
      repeat (first | refine JX.next ?_ | refine JX.normal_block ?_)
      repeat refine J.seq ?_
      refine J.block ?_
      have hia : i < aps.length := by omega
      have hik : i < kps.length := by omega
      have hrl : (aps.getD i rv0).row.length = (aps.getD i rv0).len := hkn _ (getD_mem hia)
      have hrb : (aps.getD i rv0).row.length ≤ 1048576 := hR _ (List.mem_map_of_mem (getD_mem (d := rv0) hia))
      repeat refine J.seq ?_
      refine J.plain ?_
      refine JO.t (ob_move rfl) rfl ?_
      refine JO.t (ob_indexAddr el_sl_sl_api_Value rfl (haa (by omega)) rfl (by omega) (by omega)) rfl ?_
      refine JO.t (ob_loadG1 (enc := RV.c) (sz := 1) (i := i) (j := 0) (y := aps.getD i rv0) (u := (aps.getD i rv0).v) sz_sl_api_Value rfl (by repeat (first | exact List.mem_cons_self | apply List.mem_cons_of_mem)) (haa (by omega)) (getD_some (by omega)) (by omega) rfl) rfl ?_
      refine JO.t (ob_assign rfl) rfl ?_
      refine JO.t (ob_assign rfl) rfl ?_
      refine JO.nil ?_
      repeat (first | refine JX.next ?_ | refine JX.normal_block ?_)
      refine J.sel [0, 2, 7, 8, 9, 10, 22, 23, 24] (.cons rfl (.cons rfl (.cons rfl (.cons rfl (.cons rfl (.cons rfl (.cons rfl (.cons rfl (.cons rfl .nil))))))))) ?_
      repeat refine J.seq ?_
      refine J.reg0 hmx (by kernel_rfl) (by kernel_rfl) ?_
      refine RT.t (ob_move rfl) ?_
      refine RT.t (ob_len un_sl_api_Value rfl) ?_
      refine RT.t (ob_move rfl) ?_
      refine RT.t (ob_len un_sl_int rfl) ?_
      refine RT.t (ob_neq rfl rfl) ?_
      refine RT.t (ob_move rfl) ?_
      refine RT.g rfl rfl rfl (fun hg => ob_move (.inl rfl)) ?_
      refine RT.g rfl rfl rfl (fun hg => ob_move (.inl rfl)) ?_
      refine RT.g rfl rfl rfl (fun hg => ob_call (.inl rfl) (c_slices_ContainsFunc_sl_api_Value_api_Value_g (aps.getD i rv0).row (by have := hR _ (List.mem_map_of_mem (getD_mem (d := rv0) hia)); omega)) (.sub (.inr ⟨_, rfl, fun h => h⟩) (Sub.rvS (p := aps.getD i rv0) (getD_mem hia) (by repeat (first | exact List.mem_cons_self | apply List.mem_cons_of_mem))) (.one (.inr ⟨_, rfl, fun h => h⟩) .nil))) ?_
      refine RT.t (ob_pickOr rfl rfl rfl id) ?_
      refine RT.t (ob_move rfl) ?_
      refine RT.g rfl rfl rfl (fun hg => ob_move (.inl rfl)) ?_
      refine RT.g rfl rfl rfl (fun hg => ob_move (.inl rfl)) ?_
      refine RT.g rfl rfl rfl (fun hg => ob_indexAddr el_sl_sl_api_Value (.inr ⟨_, rfl, fun h => h⟩) (hka (by omega)) (.inr ⟨_, rfl, fun h => h⟩) (by omega) (by omega)) ?_
      refine RT.g rfl rfl rfl (fun hg => ob_loadG1 (enc := RV.c) (sz := 1) (i := i) (j := 0) (y := kps.getD i rv0) (u := (kps.getD i rv0).v) sz_sl_api_Value (.inr ⟨_, rfl, fun h => h⟩) (by repeat (first | exact List.mem_cons_self | apply List.mem_cons_of_mem)) (hka (by omega)) (getD_some (by omega)) (by omega) rfl) ?_
      refine RT.g rfl rfl rfl (fun hg => ob_move (.inl rfl)) ?_
      refine RT.g rfl rfl rfl (fun hg => ob_call (.inl rfl) (c_slices_ContainsFunc_sl_api_Value_api_Value_g (kps.getD i rv0).row (by have := hK _ (List.mem_map_of_mem (getD_mem (d := rv0) hik)); omega)) (.sub (.inr ⟨_, rfl, fun h => h⟩) (Sub.rvS (p := kps.getD i rv0) (getD_mem hik) (by repeat (first | exact List.mem_cons_self | apply List.mem_cons_of_mem))) (.one (.inr ⟨_, rfl, fun h => h⟩) .nil))) ?_
      refine RT.t (ob_pickOr rfl rfl rfl id) ?_
      refine RT.nil ?_
      refine FinS.nil0 ?_
      repeat (first | refine JX.next ?_ | refine JX.normal_block ?_)
      refine J.sel [0, 2, 7, 8, 10, 22, 23, 24, 46] (.cons rfl (.cons rfl (.cons rfl (.cons rfl (.cons rfl (.cons rfl (.cons rfl (.cons rfl (.cons rfl .nil))))))))) ?_
      repeat refine J.seq ?_
      refine J.cond rfl (fun ht46 => ?_) (fun ht46 => ?_)
      ·
        try simp only [decide_eq_true_eq, decide_eq_false_iff_not] at ht46
        repeat refine J.seq ?_
        refine J.plain ?_
        refine JO.t (ob_assign rfl) rfl ?_
        refine JO.nil ?_
        repeat (first | refine JX.next ?_ | refine JX.normal_block ?_)
        refine J.sel [6] (.cons rfl .nil) ?_
        repeat refine J.seq ?_
        refine J.ret ?_
        repeat (first | refine JX.ret_pass ?_ | refine JX.ret_block ?_)
        exact JX.ret1is rfl rfl (by rw [← chk_b hkn2 hka2 hia (by
    unfold okR
    cases q1 : (aps.getD i rv0).row.all okV <;> cases q2 : (kps.getD i rv0).row.all okV <;> rw [List.any_eq_not_all_not, List.any_eq_not_all_not] at ht46 <;> simp only [badV, Bool.not_not, q1, q2] at ht46 ⊢ <;> simp [-List.getD_eq_getElem?_getD] at ht46 ⊢ <;> omega)])
      ·
        try simp only [decide_eq_true_eq, decide_eq_false_iff_not] at ht46
        refine J.skip ?_
        repeat (first | refine JX.next ?_ | refine JX.normal_block ?_)
        simp only [Bool.or_eq_false_iff] at ht46
        have hkl3 : (aps.getD i rv0).len = ks.length := by have := ht46.1.1; simp [-List.getD_eq_getElem?_getD] at this; omega
        have hoi : okR ks ((kps.getD i rv0).row, (aps.getD i rv0).row) = true := by
          have q1 := ht46.1.2
          have q2 := ht46.2
          rw [List.any_eq_not_all_not] at q1 q2
          unfold okR
          simp only [badV, Bool.not_not] at q1 q2
          simp only [Bool.not_eq_false'] at q1 q2
          simp only [q1, q2, hrl, hkl3]
          simp
        refine J.fact (RowG V3.cells 3 (aps.getD i rv0).row (aps.getD i rv0).a (aps.getD i rv0).len) (fun E w hG _ => fun w2 hk => (hG (RVF aps) (by repeat (first | exact List.mem_cons_self | apply List.mem_cons_of_mem)) w2 hk _ (getD_mem hia)).2) ?_
        refine J.knG List.mem_cons_self (fun rb ro _ hra => ?_)
        refine J.coer (s := 8) (T' := .is (.int .i64 (e33 (eW ks (aps.map RV.row) i (aps.getD i rv0).row 0)))) rfl (Sub.isEq (by rw [eW_zero])) ?_
        repeat refine J.seq ?_
        refine J.plain ?_
        refine JO.t (ob_move rfl) rfl ?_
        refine JO.t (ob_len un_sl_api_Value rfl) rfl ?_
        refine JO.t (ob_move rfl) rfl ?_
        refine JO.nil ?_
        repeat (first | refine JX.next ?_ | refine JX.normal_block ?_)
        refine J.sel [0, 2, 7, 8, 22, 23, 24, 47, 48, 49] (.cons rfl (.cons rfl (.cons rfl (.cons rfl (.cons rfl (.cons rfl (.cons rfl (.cons rfl (.cons rfl (.cons rfl .nil)))))))))) ?_
        repeat refine J.seq ?_
        refine J.block ?_
        repeat refine J.seq ?_
        refine J.loopF (α := Nat) (fun j => [(0, .is (.slice ka kps.length kc)), (2, .is (.slice da ks.length dcap)), (7, .is (.func (.func f_group_check_1) #[] #[])), (8, .is (.int .i64 (e33 (eW ks (aps.map RV.row) i (aps.getD i rv0).row j)))), (22, .is (.slice aa aps.length ac)), (23, .is (.int .i64 (aps.length : Nat))), (24, .is (.int .i64 (i : Nat))), (47, .is (aps.getD i rv0).v), (48, .is (.int .i64 ((aps.getD i rv0).len : Nat))), (49, .is (.int .i64 (j : Nat)))]) (fun j => j ≤ (aps.getD i rv0).len) (fun j => (aps.getD i rv0).len - j) 0 [0, 2, 7, 8, 22, 23, 24, 47, 48, 49] (.cons rfl (.cons rfl (.cons rfl (.cons rfl (.cons rfl (.cons rfl (.cons rfl (.cons rfl (.cons rfl (.cons rfl .nil)))))))))) (Nat.zero_le _) fun j hj => ?_
        repeat refine J.seq ?_
        refine J.plain ?_
        refine JO.t (ob_lss rfl rfl) rfl ?_
        refine JO.nil ?_
        repeat (first | refine JX.next ?_ | refine JX.normal_block ?_)
        refine J.sel [0, 2, 7, 8, 22, 23, 24, 47, 48, 49, 50] (.cons rfl (.cons rfl (.cons rfl (.cons rfl (.cons rfl (.cons rfl (.cons rfl (.cons rfl (.cons rfl (.cons rfl (.cons rfl .nil))))))))))) ?_
        repeat refine J.seq ?_
        refine J.cond rfl (fun ht50 => ?_) (fun ht50 => ?_)
        ·
          try simp only [decide_eq_true_eq, decide_eq_false_iff_not] at ht50
          refine J.skip ?_
          repeat (first | refine JX.next ?_ | refine JX.normal_block ?_)
          repeat refine J.seq ?_
          refine J.block ?_
          repeat refine J.seq ?_
          refine J.plain ?_
          refine JO.t (ob_move rfl) rfl ?_
          refine JO.t (ob_indexAddr el_sl_api_Value rfl (hra (by omega)) rfl (by omega) (by omega)) rfl ?_
          refine JO.t (ob_loadG (enc := V3.cells) (sz := 3) (i := j) (y := (aps.getD i rv0).row.getD j v3E) (cs := V3.cells ((aps.getD i rv0).row.getD j v3E)) sz_api_Value rfl (by repeat (first | exact List.mem_cons_self | apply List.mem_cons_of_mem)) (hra (by omega)) (v3_get (by omega)) (by omega) rfl) rfl ?_
          refine JO.alloc zo_api_Value rfl fun b12 => ?_
          refine JO.t (ob_assign rfl) rfl ?_
          refine JO.m (obm_store rfl rfl (by repeat (first | exact .here | apply Upd.there)) (by first | exact cnt_is rfl rfl | exact cnt_ex) (by first | exact cnt_is rfl rfl | exact cnt_ex | exact cnt_aggO) ss_api_Value) (by rfl) ?_
          refine JO.nil ?_
          repeat (first | refine JX.next ?_ | refine JX.normal_block ?_)
          refine J.sel [0, 2, 7, 8, 11, 12, 22, 23, 24, 47, 48, 49] (.cons rfl (.cons rfl (.cons rfl (.cons rfl (.cons rfl (.cons rfl (.cons rfl (.cons rfl (.cons rfl (.cons rfl (.cons rfl (.cons rfl .nil)))))))))))) ?_
          repeat refine J.seq ?_
          refine J.reg0 hmx (by kernel_rfl) (by kernel_rfl) ?_
          refine RT.t (ob_move rfl) ?_
          refine RT.t (ob_move rfl) ?_
          refine RT.t (ob_indexAddr el_sl_int rfl (hda (by omega)) rfl (by omega) (by omega)) ?_
          refine RT.t (ob_loadG1 (enc := kC) (sz := 1) (i := j) (j := 0) (y := ks.getD j 0) (u := .int .i64 (ks.getD j 0)) sz_int rfl (by repeat (first | exact List.mem_cons_self | apply List.mem_cons_of_mem)) (hda (by omega)) (getD_some (by omega)) (by omega) rfl) ?_
          refine RT.t (ob_eql rfl rfl) ?_
          refine RT.t (ob_move rfl) ?_
          refine RT.g rfl rfl rfl (fun hg => ob_fieldAddr fo_api_Value_0 (.inl rfl)) ?_
          refine RT.g rfl rfl rfl (fun hg => ob_ld1 sz_int (.inr ⟨_, rfl, fun h => h⟩) rfl) ?_
          refine RT.g rfl rfl rfl (fun hg => ob_gtr (.inr ⟨_, rfl, fun h => h⟩) (.inl rfl)) ?_
          refine RT.t (ob_pickAnd rfl rfl rfl id) ?_
          refine RT.nil ?_
          refine FinS.nil0 ?_
          repeat (first | refine JX.next ?_ | refine JX.normal_block ?_)
          refine J.sel [0, 2, 7, 8, 22, 23, 24, 47, 48, 49, 63] (.cons rfl (.cons rfl (.cons rfl (.cons rfl (.cons rfl (.cons rfl (.cons rfl (.cons rfl (.cons rfl (.cons rfl (.cons rfl .nil))))))))))) ?_
          repeat refine J.seq ?_
          refine J.cond rfl (fun ht63 => ?_) (fun ht63 => ?_)
          ·
            try simp only [decide_eq_true_eq, decide_eq_false_iff_not] at ht63
            repeat refine J.seq ?_
            refine J.plain ?_
            refine JO.t (ob_assign rfl) rfl ?_
            refine JO.nil ?_
            repeat (first | refine JX.next ?_ | refine JX.normal_block ?_)
            refine J.sel [0, 2, 7, 8, 22, 23, 24, 47, 48, 49] (.cons rfl (.cons rfl (.cons rfl (.cons rfl (.cons rfl (.cons rfl (.cons rfl (.cons rfl (.cons rfl (.cons rfl .nil)))))))))) ?_
            refine J.coer (s := 8) (T' := .is (.int .i64 (e33 (eW ks (aps.map RV.row) i (aps.getD i rv0).row (j + 1))))) rfl (Sub.isEq (by have hb : bt (ks.getD j 0) ((aps.getD i rv0).row.getD j v3E) = _ := ht63; rw [eW_step (by omega) (by omega), hb]; simp [e33])) ?_
            repeat refine J.seq ?_
            refine J.plain ?_
            refine JO.t (ob_addc (cc := ((j + 1 : Nat) : Int)) rfl rfl (by omega) (by omega) (by omega)) rfl ?_
            refine JO.t (ob_move rfl) rfl ?_
            refine JO.nil ?_
            repeat refine JX.normal_block ?_
            refine JX.roundS (j + 1) ?_ ?_ [0, 2, 7, 8, 22, 23, 24, 47, 48, 49] ?_ ?_ ?_
            · exact (by omega)
            · exact (by omega)
            · exact (.cons rfl (.cons rfl (.cons rfl (.cons rfl (.cons rfl (.cons rfl (.cons rfl (.cons rfl (.cons rfl (.cons rfl .nil))))))))))
            · repeat (first | exact .slnil | exact List.Sublist.refl _ | apply List.Sublist.cons_cons | apply List.Sublist.cons)
            · repeat (first | exact .slnil | exact List.Sublist.refl _ | apply List.Sublist.cons_cons | apply List.Sublist.cons)
          ·
            try simp only [decide_eq_true_eq, decide_eq_false_iff_not] at ht63
            refine J.skip ?_
            repeat (first | refine JX.next ?_ | refine JX.normal_block ?_)
            refine J.coer (s := 8) (T' := .is (.int .i64 (e33 (eW ks (aps.map RV.row) i (aps.getD i rv0).row (j + 1))))) rfl (Sub.isEq (by have hb : bt (ks.getD j 0) ((aps.getD i rv0).row.getD j v3E) = _ := ht63; rw [eW_step (by omega) (by omega), hb]; simp [e33])) ?_
            repeat refine J.seq ?_
            refine J.plain ?_
            refine JO.t (ob_addc (cc := ((j + 1 : Nat) : Int)) rfl rfl (by omega) (by omega) (by omega)) rfl ?_
            refine JO.t (ob_move rfl) rfl ?_
            refine JO.nil ?_
            repeat refine JX.normal_block ?_
            refine JX.roundS (j + 1) ?_ ?_ [0, 2, 7, 8, 22, 23, 24, 47, 48, 49] ?_ ?_ ?_
            · exact (by omega)
            · exact (by omega)
            · exact (.cons rfl (.cons rfl (.cons rfl (.cons rfl (.cons rfl (.cons rfl (.cons rfl (.cons rfl (.cons rfl (.cons rfl .nil))))))))))
            · repeat (first | exact .slnil | exact List.Sublist.refl _ | apply List.Sublist.cons_cons | apply List.Sublist.cons)
            · repeat (first | exact .slnil | exact List.Sublist.refl _ | apply List.Sublist.cons_cons | apply List.Sublist.cons)
        ·
          try simp only [decide_eq_true_eq, decide_eq_false_iff_not] at ht50
          repeat refine J.seq ?_
          refine J.exit ?_
          repeat (first | refine JX.hit ?_ | refine JX.miss rfl ?_ | refine JX.exit_pass ?_)
          repeat (first | refine JX.next ?_ | refine JX.normal_block ?_)
          refine J.coer (s := 8) (T' := .is (.int .i64 (e33 (eU ks (aps.map RV.row) (i + 1))))) rfl (Sub.isEq (by have h := eW_end (ks := ks) (args := aps.map RV.row) (i := i) (j := j) (by rw [List.length_map]; omega) (by rw [rowD hia]; omega); rw [rowD hia] at h; rw [h])) ?_
          repeat refine J.seq ?_
          refine J.plain ?_
          refine JO.t (ob_addc (cc := ((i + 1 : Nat) : Int)) rfl rfl (by omega) (by omega) (by omega)) rfl ?_
          refine JO.t (ob_move rfl) rfl ?_
          refine JO.nil ?_
          repeat refine JX.normal_block ?_
          refine JX.roundS (i + 1) ?_ ?_ [0, 2, 7, 8, 22, 23, 24] ?_ ?_ ?_
          · exact ⟨by omega, fun j hj => by
    rcases Nat.lt_or_ge j i with h | h
    · exact hok j h
    · rw [show j = i by omega]; exact hoi⟩
          · exact (by omega)
          · exact (.cons rfl (.cons rfl (.cons rfl (.cons rfl (.cons rfl (.cons rfl (.cons rfl .nil)))))))
          · repeat (first | exact .slnil | exact List.Sublist.refl _ | apply List.Sublist.cons_cons | apply List.Sublist.cons)
          · repeat (first | exact .slnil | exact List.Sublist.refl _ | apply List.Sublist.cons_cons | apply List.Sublist.cons)
    ·
      try simp only [decide_eq_true_eq, decide_eq_false_iff_not] at ht25
      repeat refine J.seq ?_
      refine J.exit ?_
      repeat (first | refine JX.hit ?_ | refine JX.miss rfl ?_ | refine JX.exit_pass ?_)
      repeat (first | refine JX.next ?_ | refine JX.normal_block ?_)
      repeat refine J.seq ?_
      refine J.plain ?_
      refine JO.t (ob_move rfl) rfl ?_
      refine JO.t (ob_assign rfl) rfl ?_
      refine JO.nil ?_
      repeat (first | refine JX.next ?_ | refine JX.normal_block ?_)
      refine J.sel [6] (.cons rfl .nil) ?_
      repeat refine J.seq ?_
      refine J.ret ?_
      repeat (first | refine JX.ret_pass ?_ | refine JX.ret_block ?_)
      exact JX.ret1is rfl rfl (by rw [show i = aps.length by omega]; rw [chk_c hkn2 hka2 (fun j hj => hok j (by omega))])
end Go.Proofs.Ytgpikmonklainaa
