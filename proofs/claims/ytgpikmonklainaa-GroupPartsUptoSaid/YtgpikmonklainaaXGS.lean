/- group: Rows. No condition. -/
import Derived.Test.YtgpikmonklainaaXM3
import Derived.Test.YtgpikmonklainaaXOJ
set_option maxRecDepth 20000
namespace Go.Proofs.Ytgpikmonklainaa
open Go Go.Vc
open Go.Vl Go.Od
def fillR (n i : Nat) : List Nat := List.range i ++ List.replicate (n - i) 0
theorem fillR_len {n i : Nat} (h : i ≤ n) : (fillR n i).length = n := by unfold fillR; simp; omega
theorem fillR_set {n i : Nat} (h : i < n) : (fillR n i).set i i = fillR n (i + 1) := by
  unfold fillR
  rw [List.set_append_right _ _ (by simp), List.length_range, Nat.sub_self, show n - i = (n - (i + 1)) + 1 by omega, List.replicate_succ, List.set_cons_zero, List.range_succ]
  simp
theorem fillR_all (n : Nat) : fillR n n = List.range n := by unfold fillR; simp
def gv0 : GV := ⟨rv0, 0, none, 0, []⟩
def tv0 : TV := (0, 0, [])
set_option maxHeartbeats 1000000 in
theorem c_group_Rows (keys args : List (List V3)) (ks : List Int) (whole : Bool) (hn : keys.length ≤ 1048575) (hn2 : args.length ≤ 1048576) (hR : ∀ r ∈ args, r.length ≤ 1048576) (hK : ∀ r ∈ keys, r.length ≤ 1048576) (hks : ks.length ≤ 1048576) (hv : ∀ r ∈ args, ∀ v ∈ r, I64 v.n) : CallTy Try.prog f_group_Rows [.rep (RowsR noG keys), .rep (RowsR noG args), .rep (SlG kC 1 ks), .is (.bool whole)] (.tup2 (.rep (RowsR noG (grpO keys args ks whole).1)) (.is (.int .i64 (grpO keys args ks whole).2))) :=
  CallTy.of (fn := Try.f17) Try.func17 (n := 158) rfl rfl rfl (fun _ _ => by kernel_rfl) fun E W => by
  refine J.openRows (s := 0) rfl (fun kps ka kl kc kb ko hkm hkl hkc hka => ?_)
  refine J.openRows (s := 1) rfl (fun aps aa al ac ab ao ham hal hac haa => ?_)
  refine J.openSl (enc := kC) (sz := 1) (s := 2) rfl (fun da dl dcap db dof hdl hda => ?_)
  subst hdl hkl hal hkm ham
  refine J.know (∀ p ∈ aps, p.row.length = p.len) (fun E w hG _ => fun p hp => ((hG (RVF aps) (by repeat (first | exact List.mem_cons_self | apply List.mem_cons_of_mem))).now p hp).2.1) (fun hkn => ?_)
  have hn' := hn
  have hn2' := hn2
  rw [List.length_map] at hn' hn2'
  repeat refine J.seq ?_
  refine J.plain ?_
  refine JO.box rfl rfl fun b4 => ?_
  refine JO.box rfl rfl fun b6 => ?_
  refine JO.t (ob_assign rfl) rfl ?_
  refine JO.t (ob_assign rfl) rfl ?_
  refine JO.nil ?_
  repeat (first | refine JX.next ?_ | refine JX.normal_block ?_)
  refine J.sel [1, 3, 4, 6] (.cons rfl (.cons rfl (.cons rfl (.cons rfl .nil)))) ?_
  refine J.freeze1 rfl (fun _ h => h) rfl rfl ?_
  refine J.freeze1 rfl (fun _ h => h) rfl rfl ?_
  refine J.fact (GKy kps ka kc b4) (fun E w hG _ => fun w2 hk => ⟨hG (HeapIs b4 [.slice ka kps.length kc] ty_sl_sl_api_Value) (by repeat (first | exact List.mem_cons_self | apply List.mem_cons_of_mem)) w2 hk, hG (RowG RV.c 1 kps ka kps.length) (by repeat (first | exact List.mem_cons_self | apply List.mem_cons_of_mem)) w2 hk, hG (RVF kps) (by repeat (first | exact List.mem_cons_self | apply List.mem_cons_of_mem)) w2 hk⟩) ?_
  refine J.fact (GKi ks da dcap b6) (fun E w hG _ => fun w2 hk => ⟨hG (HeapIs b6 [.slice da ks.length dcap] ty_sl_int) (by repeat (first | exact List.mem_cons_self | apply List.mem_cons_of_mem)) w2 hk, hG (RowG kC 1 ks da ks.length) (by repeat (first | exact List.mem_cons_self | apply List.mem_cons_of_mem)) w2 hk⟩) ?_
  refine J.fact (RVF (rv0 :: kps)) (fun E w hG _ => fun w2 hk p hp => by
    rcases List.mem_cons.1 hp with rfl | hp
    · exact ⟨Nat.le_refl _, rfl, fun h => absurd rfl h⟩
    · exact hG (RVF kps) (by repeat (first | exact List.mem_cons_self | apply List.mem_cons_of_mem)) w2 hk p hp) ?_
  repeat refine J.seq ?_
  refine J.plain ?_
  refine JO.t (ob_ldF1 sz_sl_sl_api_Value rfl (by repeat (first | exact List.mem_cons_self | apply List.mem_cons_of_mem)) rfl) rfl ?_
  refine JO.t (ob_move rfl) rfl ?_
  refine JO.t (ob_ldF1 sz_sl_int rfl (by repeat (first | exact List.mem_cons_self | apply List.mem_cons_of_mem)) rfl) rfl ?_
  refine JO.t (ob_call rfl (c_group_check (kps.map RV.row) (aps.map RV.row) ks hn2 hR hK hks) (.sub rfl (Sub.rowsF (by repeat (first | exact List.mem_cons_self | apply List.mem_cons_of_mem)) (by repeat (first | exact List.mem_cons_self | apply List.mem_cons_of_mem)) hkc rfl) (.sub rfl (Sub.rowsF (by repeat (first | exact List.mem_cons_self | apply List.mem_cons_of_mem)) (by repeat (first | exact List.mem_cons_self | apply List.mem_cons_of_mem)) hac rfl) (.sub rfl (Sub.slFact (by repeat (first | exact List.mem_cons_self | apply List.mem_cons_of_mem))) .nil)))) rfl ?_
  refine JO.t (ob_assign rfl) rfl ?_
  refine JO.nil ?_
  repeat (first | refine JX.next ?_ | refine JX.normal_block ?_)
  refine J.sel [1, 3, 4, 6, 10] (.cons rfl (.cons rfl (.cons rfl (.cons rfl (.cons rfl .nil))))) ?_
  repeat refine J.seq ?_
  refine J.plain ?_
  refine JO.t (ob_move rfl) rfl ?_
  refine JO.t (ob_neq rfl rfl) rfl ?_
  refine JO.nil ?_
  repeat (first | refine JX.next ?_ | refine JX.normal_block ?_)
  refine J.sel [1, 3, 4, 6, 10, 32] (.cons rfl (.cons rfl (.cons rfl (.cons rfl (.cons rfl (.cons rfl .nil)))))) ?_
  repeat refine J.seq ?_
  refine J.cond rfl (fun ht32 => ?_) (fun ht32 => ?_)
  ·
    try simp only [decide_eq_true_eq, decide_eq_false_iff_not] at ht32
    repeat refine J.seq ?_
    refine J.plain ?_
    refine JO.t (ob_move rfl) rfl ?_
    refine JO.t (ob_assign rfl) rfl ?_
    refine JO.t (ob_assign rfl) rfl ?_
    refine JO.nil ?_
    repeat (first | refine JX.next ?_ | refine JX.normal_block ?_)
    refine J.sel [8, 9] (.cons rfl (.cons rfl .nil)) ?_
    repeat refine J.seq ?_
    refine J.ret ?_
    repeat (first | refine JX.ret_pass ?_ | refine JX.ret_block ?_)
    have hg0 : grpO (kps.map RV.row) (aps.map RV.row) ks whole = ([], chk (kps.map RV.row) (aps.map RV.row) ks) := by unfold grpO; rw [if_pos (by simpa using ht32)]
    exact JX.ret2sub rfl rfl rfl (by rw [hg0]; exact Sub.rowsNil) rfl (Sub.isEq (by rw [hg0]))
  ·
    try simp only [decide_eq_true_eq, decide_eq_false_iff_not] at ht32
    refine J.skip ?_
    repeat (first | refine JX.next ?_ | refine JX.normal_block ?_)
    have hc0 : chk (kps.map RV.row) (aps.map RV.row) ks = 0 := by simpa using ht32
    obtain ⟨hkl0, hkk, hal0⟩ := chk_ok hc0
    rw [List.length_map, List.length_map] at hkl0
    have hbK : ∀ p ∈ kps, p.row.length ≤ 1048576 := fun p hp => hK _ (List.mem_map_of_mem hp)
    repeat refine J.seq ?_
    refine J.plain ?_
    refine JO.t (ob_ldF1 sz_sl_sl_api_Value rfl (by repeat (first | exact List.mem_cons_self | apply List.mem_cons_of_mem)) rfl) rfl ?_
    refine JO.t (ob_len un_sl_sl_api_Value rfl) rfl ?_
    refine JO.mkSl1 un_sl_int (n := kps.length) (z := .int .i64 0) (bytes := 8) (by kernel_rfl) rfl rfl rfl rfl rfl (by omega) (by omega) rfl (fun b36 => ?_)
    rw [show List.replicate kps.length (Value.int .i64 0) = (fillR kps.length 0).map iC by simp [fillR, iC]]
    refine JO.t (ob_assign rfl) rfl ?_
    refine JO.nil ?_
    repeat (first | refine JX.next ?_ | refine JX.normal_block ?_)
    refine J.sel [1, 3, 4, 6, 11] (.cons rfl (.cons rfl (.cons rfl (.cons rfl (.cons rfl .nil))))) ?_
    repeat refine J.seq ?_
    refine J.plain ?_
    refine JO.t (ob_move rfl) rfl ?_
    refine JO.t (ob_len un_sl_int rfl) rfl ?_
    refine JO.t (ob_move rfl) rfl ?_
    refine JO.nil ?_
    repeat (first | refine JX.next ?_ | refine JX.normal_block ?_)
    refine J.sel [1, 3, 4, 6, 11, 38, 39] (.cons rfl (.cons rfl (.cons rfl (.cons rfl (.cons rfl (.cons rfl (.cons rfl .nil))))))) ?_
    repeat refine J.seq ?_
    refine J.block ?_
    repeat refine J.seq ?_
    refine J.loopG (α := Nat) (fun i => [(1, .is (.slice aa aps.length ac)), (3, .is (.bool whole)), (4, .is (.pointer (some ⟨b4, 0, none⟩))), (6, .is (.pointer (some ⟨b6, 0, none⟩))), (11, .is (.slice (some ⟨b36, 0, none⟩) kps.length kps.length)), (38, .is (.int .i64 (kps.length : Nat))), (39, .is (.int .i64 (i : Nat)))]) (fun i => [⟨b36, ty_int, .is (.agg ((fillR kps.length i).map iC).toArray)⟩]) (fun i => fun _ => True) (fun i => i ≤ kps.length) (fun i => kps.length - i) 0 [1, 3, 4, 6, 11, 38, 39] (.cons rfl (.cons rfl (.cons rfl (.cons rfl (.cons rfl (.cons rfl (.cons rfl .nil))))))) rfl (fun _ => trivial) (Nat.zero_le _) fun i hi => ?_
    try dsimp only
    try dsimp only at hi
    repeat refine J.seq ?_
    refine J.plain ?_
    refine JO.t (ob_lss rfl rfl) rfl ?_
    refine JO.nil ?_
    repeat (first | refine JX.next ?_ | refine JX.normal_block ?_)
    refine J.sel [1, 3, 4, 6, 11, 38, 39, 40] (.cons rfl (.cons rfl (.cons rfl (.cons rfl (.cons rfl (.cons rfl (.cons rfl (.cons rfl .nil)))))))) ?_
    repeat refine J.seq ?_
    refine J.cond rfl (fun ht40 => ?_) (fun ht40 => ?_)
    ·
      try simp only [decide_eq_true_eq, decide_eq_false_iff_not] at ht40
      refine J.skip ?_
      repeat (first | refine JX.next ?_ | refine JX.normal_block ?_)
      repeat refine J.seq ?_
      refine J.block ?_
      repeat refine J.seq ?_
      refine J.plain ?_
      refine JO.t (ob_move rfl) rfl ?_
      refine JO.t (ob_assign rfl) rfl ?_
      refine JO.nil ?_
      repeat (first | refine JX.next ?_ | refine JX.normal_block ?_)
      refine J.sel [1, 3, 4, 6, 11, 12, 38, 39] (.cons rfl (.cons rfl (.cons rfl (.cons rfl (.cons rfl (.cons rfl (.cons rfl (.cons rfl .nil)))))))) ?_
      repeat refine J.seq ?_
      refine J.plain ?_
      refine JO.t (ob_move rfl) rfl ?_
      refine JO.t (ob_move rfl) rfl ?_
      refine JO.t (ob_move rfl) rfl ?_
      refine JO.t (ob_indexAddr el_sl_int rfl rfl rfl (by omega) (by omega)) rfl ?_
      refine JO.m (obm_storeF1 (cs := (fillR kps.length i).map iC) (cs' := (fillR kps.length (i + 1)).map iC) rfl rfl rfl rfl (by repeat (first | exact .here | apply Upd.there)) (by rw [show 0 + Int.toNat (i : Int) * 1 = i by omega, ← fillR_set (by omega)]; exact splice_set iC _ i i (by rw [fillR_len hi]; omega)) (Nat.ble_eq_true_of_le (by rw [List.length_map, fillR_len hi]; omega)) ss_int) (by rfl) ?_
      refine JO.nil ?_
      repeat (first | refine JX.next ?_ | refine JX.normal_block ?_)
      refine J.sel [1, 3, 4, 6, 11, 38, 39] (.cons rfl (.cons rfl (.cons rfl (.cons rfl (.cons rfl (.cons rfl (.cons rfl .nil))))))) ?_
      repeat refine J.seq ?_
      refine J.plain ?_
      refine JO.t (ob_addc (cc := ((i + 1 : Nat) : Int)) rfl rfl (by omega) (by omega) (by omega)) rfl ?_
      refine JO.t (ob_move rfl) rfl ?_
      refine JO.nil ?_
      repeat refine JX.normal_block ?_
      refine JX.roundG (x := i) (i + 1) ?_ ?_ [1, 3, 4, 6, 11, 38, 39] ?_ ?_ ?_ ?_
      · exact (by omega)
      · exact (by omega)
      · exact (.cons rfl (.cons rfl (.cons rfl (.cons rfl (.cons rfl (.cons rfl (.cons rfl .nil)))))))
      · repeat (first | exact .all | exact .nil | refine Has.own (by repeat (first | exact .here | apply Tl.past | apply Tl.there)) ?_ | refine Has.cons (by repeat (first | exact .here | apply Pk.past | apply Pk.there)) ?_)
      · exact fun G hG => by repeat (first | exact hG | refine List.mem_cons_of_mem _ ?_)
      · exact fun _ _ _ => fun _ _ => trivial
    ·
      try simp only [decide_eq_true_eq, decide_eq_false_iff_not] at ht40
      repeat refine J.seq ?_
      refine J.exit ?_
      repeat (first | refine JX.hit ?_ | refine JX.miss rfl ?_ | refine JX.exit_pass ?_)
      repeat (first | refine JX.next ?_ | refine JX.normal_block ?_)
      have hi2 : i = kps.length := by omega
      subst hi2
      rw [fillR_all]
      repeat refine J.seq ?_
      refine J.plain ?_
      refine JO.t (ob_move rfl) rfl ?_
      refine JO.t (ob_makeFunc .nil (.cons rfl .nil)) rfl ?_
      refine JO.callL (Lr := []) (c_slices_SortStableFunc_sl_int_int (.func (.func f_group_Rows_1) #[] #[.pointer (some ⟨b4, 0, none⟩)]) (GKy kps ka kc b4) kps.length (cfK kps) (fn2K kps ka kc b4 hbK (by omega)) (swoK kps _) b36 kps.length (List.range kps.length) (fun x hx => List.mem_range.1 hx) (by rw [List.length_range]) (by omega)) (fun d e => by injection e with e; show d < 158; omega) (List.Perm.of_eq (List.append_nil _).symm) (fun F hF => by rw [List.mem_singleton.1 hF]; exact (by repeat (first | exact List.mem_cons_self | apply List.mem_cons_of_mem))) (.one rfl (.one rfl .nil)) ?_
      intro Z hZ
      rw [List.append_nil]
      refine JO.nil ?_
      repeat (first | refine JX.next ?_ | refine JX.normal_block ?_)
      refine J.sel [1, 3, 4, 6, 11] (.cons rfl (.cons rfl (.cons rfl (.cons rfl (.cons rfl .nil))))) ?_
      refine J.freeze (b := b36) (e := ty_int) (cs := Z.map iC) (fun _ h => h) rfl rfl ?_
      have hZl : Z.length = kps.length := by rw [hZ.1.length_eq, List.length_range]
      have hZb : ∀ i, i < kps.length → Z.getD i 0 < kps.length := fun i hi => List.mem_range.1 (hZ.1.mem_iff.1 (getD_mem (by omega)))
      have hpg : ∀ i, i < kps.length → (prs kps aps Z)[i]? = some (rwA kps (Z.getD i 0), rwA aps (Z.getD i 0)) := fun i hi => by
        rw [List.getElem?_map, getD_some (d := 0) (by omega)]; rfl
      repeat refine J.seq ?_
      refine J.plain ?_
      refine JO.alloc zo_sl_p_group_group rfl fun b13 => ?_
      refine JO.nil ?_
      repeat (first | refine JX.next ?_ | refine JX.normal_block ?_)
      refine J.sel [1, 3, 4, 6, 11, 13] (.cons rfl (.cons rfl (.cons rfl (.cons rfl (.cons rfl (.cons rfl .nil)))))) ?_
      repeat refine J.seq ?_
      refine J.plain ?_
      refine JO.t (ob_makeFunc .nil (.cons rfl (.cons rfl .nil))) rfl ?_
      refine JO.t (ob_assign rfl) rfl ?_
      refine JO.nil ?_
      repeat (first | refine JX.next ?_ | refine JX.normal_block ?_)
      refine J.sel [1, 3, 4, 11, 13, 14] (.cons rfl (.cons rfl (.cons rfl (.cons rfl (.cons rfl (.cons rfl .nil)))))) ?_
      repeat refine J.seq ?_
      refine J.plain ?_
      refine JO.t (ob_move rfl) rfl ?_
      refine JO.t (ob_len un_sl_int rfl) rfl ?_
      refine JO.t (ob_move rfl) rfl ?_
      refine JO.nil ?_
      repeat (first | refine JX.next ?_ | refine JX.normal_block ?_)
      refine J.sel [1, 3, 4, 11, 13, 14, 51, 52, 53] (.cons rfl (.cons rfl (.cons rfl (.cons rfl (.cons rfl (.cons rfl (.cons rfl (.cons rfl (.cons rfl .nil))))))))) ?_
      repeat refine J.seq ?_
      refine J.block ?_
      repeat refine J.seq ?_
      refine J.loopG (α := List GV × Option (Nat × List Value) × Nat × Nat) (fun y => [(1, .is (.slice aa aps.length ac)), (3, .is (.bool whole)), (4, .is (.pointer (some ⟨b4, 0, none⟩))), (11, .is (.slice (some ⟨b36, 0, none⟩) kps.length kps.length)), (13, .is (.pointer (some ⟨b13, 0, none⟩))), (14, .is (.func (.func f_group_Rows_2) #[] #[.pointer (some ⟨b6, 0, none⟩), .pointer (some ⟨b13, 0, none⟩)])), (51, .is (.slice (some ⟨b36, 0, none⟩) kps.length kps.length)), (52, .is (.int .i64 (kps.length : Nat))), (53, .is (.int .i64 (y.2.2.2 : Nat)))]) (fun y => ⟨b13, ty_sl_p_group_group, .is (sliceO y.2.1 (y.1).length y.2.2.1)⟩ :: ownO y.2.1 ty_p_group_group (List.flatMap (GV.own ks.length) (y.1))) (fun y => fun _ => True) (fun y => (∀ g ∈ y.1, g.ok ks ∧ g.k ∈ rv0 :: kps) ∧ GrV (ptrs y.1) y.2.1 y.2.2.1 ∧ y.1.map GV.abs = gfold ks.length ((prs kps aps Z).take y.2.2.2) ∧ y.2.2.2 ≤ kps.length) (fun y => kps.length - y.2.2.2) ([], none, 0, 0) [1, 3, 4, 11, 13, 14, 51, 52, 53] (.cons rfl (.cons rfl (.cons rfl (.cons rfl (.cons rfl (.cons rfl (.cons rfl (.cons rfl (.cons rfl .nil))))))))) rfl (fun _ => trivial) ⟨fun g h => absurd h List.not_mem_nil, rfl, rfl, Nat.zero_le _⟩ fun ⟨rg, st1, cp1, i⟩ ⟨hok1, hG1, hab1, hi⟩ => ?_
      try dsimp only
      try dsimp only at st1
      try dsimp only at cp1
      try dsimp only at i
      try dsimp only at hok1
      try dsimp only at hG1
      try dsimp only at hab1
      try dsimp only at hi
      repeat refine J.seq ?_
      refine J.plain ?_
      refine JO.t (ob_lss rfl rfl) rfl ?_
      refine JO.nil ?_
      repeat (first | refine JX.next ?_ | refine JX.normal_block ?_)
      refine J.sel [1, 3, 4, 11, 13, 14, 51, 52, 53, 54] (.cons rfl (.cons rfl (.cons rfl (.cons rfl (.cons rfl (.cons rfl (.cons rfl (.cons rfl (.cons rfl (.cons rfl .nil)))))))))) ?_
      repeat refine J.seq ?_
      refine J.cond rfl (fun ht54 => ?_) (fun ht54 => ?_)
      ·
        try simp only [decide_eq_true_eq, decide_eq_false_iff_not] at ht54
        refine J.skip ?_
        repeat (first | refine JX.next ?_ | refine JX.normal_block ?_)
        repeat refine J.seq ?_
        refine J.block ?_
        repeat refine J.seq ?_
        refine J.plain ?_
        refine JO.t (ob_move rfl) rfl ?_
        refine JO.t (ob_indexAddr el_sl_int rfl rfl rfl (by omega) (by omega)) rfl ?_
        refine JO.t (ob_ldF1 sz_int rfl (by repeat (first | exact List.mem_cons_self | apply List.mem_cons_of_mem)) (nthZ (i := i) (by omega) (by omega))) rfl ?_
        refine JO.t (ob_assign rfl) rfl ?_
        refine JO.t (ob_assign rfl) rfl ?_
        refine JO.nil ?_
        repeat (first | refine JX.next ?_ | refine JX.normal_block ?_)
        refine J.sel [1, 3, 4, 11, 13, 14, 15, 16, 51, 52, 53] (.cons rfl (.cons rfl (.cons rfl (.cons rfl (.cons rfl (.cons rfl (.cons rfl (.cons rfl (.cons rfl (.cons rfl (.cons rfl .nil))))))))))) ?_
        have hi1 : i < kps.length := by omega
        have hz0 := hZb i hi1
        have hz1 := hZb (i - 1) (by omega)
        have hrgl : rg.length ≤ i := by
          have := gfold_len ks.length (prs kps aps Z) i
          rw [← hab1, List.length_map] at this
          exact this
        repeat refine J.seq ?_
        refine J.reg0 hmx (by kernel_rfl) (by kernel_rfl) ?_
        refine RT.t (ob_move rfl) ?_
        refine RT.t (ob_eql rfl rfl) ?_
        refine RT.t (ob_move rfl) ?_
        refine RT.g rfl rfl rfl (fun hg => ob_ldF1 sz_sl_sl_api_Value (.inl rfl) (by repeat (first | exact List.mem_cons_self | apply List.mem_cons_of_mem)) rfl) ?_
        refine RT.g rfl rfl rfl (fun hg => ob_move (.inl rfl)) ?_
        refine RT.g rfl rfl rfl (fun hg => ob_move (.inl rfl)) ?_
        refine RT.g rfl rfl rfl (fun hg => ob_subc (cc := ((i - 1 : Nat) : Int)) (.inr ⟨_, rfl, fun h => h⟩) (.inl rfl) (by simp at hg; omega) (by omega) (by omega)) ?_
        refine RT.g rfl rfl rfl (fun hg => ob_indexAddr el_sl_int (.inr ⟨_, rfl, fun h => h⟩) rfl (.inr ⟨_, rfl, fun h => h⟩) (by omega) (by omega)) ?_
        refine RT.g rfl rfl rfl (fun hg => ob_ldF1 sz_int (.inr ⟨_, rfl, fun h => h⟩) (by repeat (first | exact List.mem_cons_self | apply List.mem_cons_of_mem)) (nthZ (i := i - 1) (by omega) (by omega))) ?_
        refine RT.g rfl rfl rfl (fun hg => ob_indexAddr el_sl_sl_api_Value (.inr ⟨_, rfl, fun h => h⟩) (hka (by omega)) (.inr ⟨_, rfl, fun h => h⟩) (by omega) (by omega)) ?_
        refine RT.g rfl rfl rfl (fun hg => ob_loadG1 (enc := RV.c) (sz := 1) (i := (Z.getD (i - 1) 0)) (j := 0) (y := kps.getD (Z.getD (i - 1) 0) rv0) (u := (kps.getD (Z.getD (i - 1) 0) rv0).v) sz_sl_api_Value (.inr ⟨_, rfl, fun h => h⟩) (by repeat (first | exact List.mem_cons_self | apply List.mem_cons_of_mem)) (hka (by omega)) (getD_some (by omega)) (by omega) rfl) ?_
        refine RT.g rfl rfl rfl (fun hg => ob_ldF1 sz_sl_sl_api_Value (.inl rfl) (by repeat (first | exact List.mem_cons_self | apply List.mem_cons_of_mem)) rfl) ?_
        refine RT.g rfl rfl rfl (fun hg => ob_move (.inl rfl)) ?_
        refine RT.g rfl rfl rfl (fun hg => ob_indexAddr el_sl_sl_api_Value (.inr ⟨_, rfl, fun h => h⟩) (hka (by omega)) (.inr ⟨_, rfl, fun h => h⟩) (by omega) (by omega)) ?_
        refine RT.g rfl rfl rfl (fun hg => ob_loadG1 (enc := RV.c) (sz := 1) (i := (Z.getD i 0)) (j := 0) (y := kps.getD (Z.getD i 0) rv0) (u := (kps.getD (Z.getD i 0) rv0).v) sz_sl_api_Value (.inr ⟨_, rfl, fun h => h⟩) (by repeat (first | exact List.mem_cons_self | apply List.mem_cons_of_mem)) (hka (by omega)) (getD_some (by omega)) (by omega) rfl) ?_
        refine RT.g rfl rfl rfl (fun hg => ob_call (.inl rfl) (c_order_Rows (rwA kps (Z.getD (i - 1) 0)) (rwA kps (Z.getD i 0)) (by have := hbK _ (getD_mem (d := rv0) hz1); show (kps.getD (Z.getD (i - 1) 0) rv0).row.length ≤ _; omega)) (.sub (.inr ⟨_, rfl, fun h => h⟩) (Sub.rvS (p := kps.getD (Z.getD (i - 1) 0) rv0) (getD_mem hz1) (by repeat (first | exact List.mem_cons_self | apply List.mem_cons_of_mem))) (.sub (.inr ⟨_, rfl, fun h => h⟩) (Sub.rvS (p := kps.getD (Z.getD i 0) rv0) (getD_mem hz0) (by repeat (first | exact List.mem_cons_self | apply List.mem_cons_of_mem))) .nil))) ?_
        refine RT.g rfl rfl rfl (fun hg => ob_neq (.inr ⟨_, rfl, fun h => h⟩) (.inl rfl)) ?_
        refine RT.t (ob_pickOr rfl rfl rfl id) ?_
        refine RT.nil ?_
        refine FinS.nil0 ?_
        repeat (first | refine JX.next ?_ | refine JX.normal_block ?_)
        refine J.sel [1, 3, 4, 11, 13, 14, 16, 51, 52, 53, 75] (.cons rfl (.cons rfl (.cons rfl (.cons rfl (.cons rfl (.cons rfl (.cons rfl (.cons rfl (.cons rfl (.cons rfl (.cons rfl .nil))))))))))) ?_
        repeat refine J.seq ?_
        refine J.cutZN (fun z : List GV × Option (Nat × List Value) × Nat => [(1, .is (.slice aa aps.length ac)), (3, .is (.bool whole)), (4, .is (.pointer (some ⟨b4, 0, none⟩))), (11, .is (.slice (some ⟨b36, 0, none⟩) kps.length kps.length)), (13, .is (.pointer (some ⟨b13, 0, none⟩))), (14, .is (.func (.func f_group_Rows_2) #[] #[.pointer (some ⟨b6, 0, none⟩), .pointer (some ⟨b13, 0, none⟩)])), (16, .is (.int .i64 ((Z.getD i 0 : Nat)))), (51, .is (.slice (some ⟨b36, 0, none⟩) kps.length kps.length)), (52, .is (.int .i64 (kps.length : Nat))), (53, .is (.int .i64 (i : Nat)))]) (fun z : List GV × Option (Nat × List Value) × Nat => ⟨b13, ty_sl_p_group_group, .is (sliceO z.2.1 (z.1).length z.2.2)⟩ :: ownO z.2.1 ty_p_group_group (List.flatMap (GV.own ks.length) (z.1))) (fun z : List GV × Option (Nat × List Value) × Nat => (∀ g ∈ z.1, g.ok ks ∧ g.k ∈ rv0 :: kps) ∧ GrV (ptrs z.1) z.2.1 z.2.2 ∧ z.1.map GV.abs = gnew ks.length (gfold ks.length ((prs kps aps Z).take i)) (rwA kps (Z.getD i 0))) ?_ ?_
        · refine J.cond rfl (fun ht75 => ?_) (fun ht75 => ?_)
          ·
            try simp only [decide_eq_true_eq, decide_eq_false_iff_not] at ht75
            have hbeg : gnew ks.length (gfold ks.length ((prs kps aps Z).take i)) (rwA kps (Z.getD i 0)) = (rwA kps (Z.getD i 0), List.replicate ks.length []) :: gfold ks.length ((prs kps aps Z).take i) := by
              rcases Nat.eq_zero_or_pos i with h | h
              · rw [h]; rfl
              · obtain ⟨i2, rfl⟩ : ∃ i2, i = i2 + 1 := ⟨i - 1, by omega⟩
                refine gnew_yes (hpg i2 (by omega)) ?_
                have h1 : (((i2 + 1 : Nat) : Int) == 0) = false := by rw [beq_eq_false_iff_ne]; omega
                rw [h1, Bool.false_or, bne_iff_ne] at ht75
                exact ht75
            repeat refine J.seq ?_
            refine J.plain ?_
            refine JO.t (ob_move rfl) rfl ?_
            refine JO.t (ob_ldF1 sz_sl_sl_api_Value rfl (by repeat (first | exact List.mem_cons_self | apply List.mem_cons_of_mem)) rfl) rfl ?_
            refine JO.t (ob_move rfl) rfl ?_
            refine JO.t (ob_indexAddr el_sl_sl_api_Value rfl (hka (by omega)) rfl (by omega) (by omega)) rfl ?_
            refine JO.t (ob_loadG1 (enc := RV.c) (sz := 1) (i := (Z.getD i 0)) (j := 0) (y := kps.getD (Z.getD i 0) rv0) (u := (kps.getD (Z.getD i 0) rv0).v) sz_sl_api_Value rfl (by repeat (first | exact List.mem_cons_self | apply List.mem_cons_of_mem)) (hka (by omega)) (getD_some (by omega)) (by omega) rfl) rfl ?_
            refine JO.eqL (L' := (⟨b13, ty_sl_p_group_group, .is (sliceO st1 (ptrs rg).length cp1)⟩ :: ownO st1 ty_p_group_group []) ++ rg.flatMap (GV.own ks.length)) (by rw [ptrs_len, List.cons_append, ownO_app]; rfl) ?_
            refine JO.callvL (cs := [.pointer (some ⟨b6, 0, none⟩), .pointer (some ⟨b13, 0, none⟩)]) (AX := [.is (kps.getD (Z.getD i 0) rv0).v]) (TC := [.is (.pointer (some ⟨b6, 0, none⟩)), .is (.pointer (some ⟨b13, 0, none⟩))]) (Lr := rg.flatMap (GV.own ks.length)) rfl (c_group_Rows_2 ks hkk (by omega) (kps.getD (Z.getD i 0) rv0).a (kps.getD (Z.getD i 0) rv0).len (kps.getD (Z.getD i 0) rv0).cap b6 b13 da dcap (ptrs rg) st1 cp1 hG1 (by rw [ptrs_len]; omega)) (fun E w => ⟨rfl, rfl, trivial⟩) (fun d e => by injection e with e; show d < 158; omega) (.refl _) (fun F hF => by rw [List.mem_singleton.1 hF]; exact (by repeat (first | exact List.mem_cons_self | apply List.mem_cons_of_mem))) (.one rfl .nil) ?_
            intro zz hz
            rw [own_new (k := kps.getD (Z.getD i 0) rv0) (by rw [ptrs_len])]
            refine JO.nil ?_
            refine JX.midZ ((GV.mk (kps.getD (Z.getD i 0) rv0) zz.gb zz.st zz.cap zz.ts :: rg, zz.st2, zz.cap2)) ?_ [1, 3, 4, 11, 13, 14, 16, 51, 52, 53] ?_ ?_ ?_
            · exact ⟨fun g hg => by
              rcases List.mem_cons.1 hg with rfl | hg
              · exact ⟨⟨hz.1.1, hz.2.1⟩, List.mem_cons_of_mem _ (getD_mem hz0)⟩
              · exact hok1 g hg, by rw [ptrs_cons]; exact hz.2.2, by
              rw [List.map_cons, hab1, hbeg]
              show ((rwA kps (Z.getD i 0), zz.ts.map fun t => t.2.2) : GPr) :: _ = _
              rw [hz.1.vs]⟩
            · exact (.cons rfl (.cons rfl (.cons rfl (.cons rfl (.cons rfl (.cons rfl (.cons rfl (.cons rfl (.cons rfl (.cons rfl .nil))))))))))
            · repeat (first | exact .all | exact .nil | refine Has.own (by repeat (first | exact .here | apply Tl.past | apply Tl.there)) ?_ | refine Has.cons (by repeat (first | exact .here | apply Pk.past | apply Pk.there)) ?_)
            · exact fun G hG => by repeat (first | exact hG | refine List.mem_cons_of_mem _ ?_)
          ·
            try simp only [decide_eq_true_eq, decide_eq_false_iff_not] at ht75
            refine J.skip ?_
            refine JX.midZ ((rg, st1, cp1)) ?_ [1, 3, 4, 11, 13, 14, 16, 51, 52, 53] ?_ ?_ ?_
            · exact ⟨hok1, hG1, by
              rw [Bool.or_eq_false_iff, beq_eq_false_iff_ne] at ht75
              obtain ⟨i2, rfl⟩ : ∃ i2, i = i2 + 1 := ⟨i - 1, by omega⟩
              have h2 := ht75.2
              rw [bne_eq_false_iff_eq] at h2
              rw [hab1]
              exact (gnew_no (hpg i2 (by omega)) h2).symm⟩
            · exact (.cons rfl (.cons rfl (.cons rfl (.cons rfl (.cons rfl (.cons rfl (.cons rfl (.cons rfl (.cons rfl (.cons rfl .nil))))))))))
            · repeat (first | exact .all | exact .nil | refine Has.own (by repeat (first | exact .here | apply Tl.past | apply Tl.there)) ?_ | refine Has.cons (by repeat (first | exact .here | apply Pk.past | apply Pk.there)) ?_)
            · exact fun G hG => by repeat (first | exact hG | refine List.mem_cons_of_mem _ ?_)
        · intro ⟨rg2, st2, cp2⟩ ⟨hok2, hG2, hab2⟩
          try dsimp only
          have hza : Z.getD i 0 < aps.length := by omega
          have hrl : (rwA aps (Z.getD i 0)).length = (aps.getD (Z.getD i 0) rv0).len := hkn _ (getD_mem hza)
          have hvl0 : (rwA aps (Z.getD i 0)).length = ks.length := hal0 _ (List.mem_map_of_mem (getD_mem (d := rv0) hza))
          refine J.fact (RowG V3.cells 3 (rwA aps (Z.getD i 0)) (aps.getD (Z.getD i 0) rv0).a (aps.getD (Z.getD i 0) rv0).len) (fun E w hG _ => fun w2 hk => (hG (RVF aps) (by repeat (first | exact List.mem_cons_self | apply List.mem_cons_of_mem)) w2 hk _ (getD_mem hza)).2) ?_
          refine J.knG List.mem_cons_self (fun rb ro _ hra => ?_)
          have hgB1 : gB i (fun v => I64 v.n) (gfold ks.length ((prs kps aps Z).take i)) := gB_fold _ (fun p hp v hv2 => by
            obtain ⟨x, hx, rfl⟩ := List.mem_map.1 hp
            have hx2 : x < aps.length := by have := List.mem_range.1 (hZ.1.mem_iff.1 hx); omega
            exact hv _ (List.mem_map_of_mem (getD_mem (d := rv0) hx2)) v hv2) i (by rw [List.length_map]; omega)
          have hgB2 := hgB1.new (m := ks.length) (k := rwA kps (Z.getD i 0))
          obtain ⟨ag, ar, hag, hag1⟩ := gnew_head ks.length (gfold ks.length ((prs kps aps Z).take i)) (rwA kps (Z.getD i 0))
          obtain ⟨us, haus⟩ : ∃ us, us = ag.2 := ⟨_, rfl⟩
          rw [hag] at hgB2 hab2
          obtain ⟨⟨gk, gb, gst, gcap, gts⟩, r, rfl⟩ : ∃ g r, rg2 = g :: r := by
            cases rg2 with
            | nil => cases hab2
            | cons g r => exact ⟨g, r, rfl⟩
          have hrl2 : r.length ≤ 1048576 := by
            have h1 := gnew_len ks.length (gfold ks.length ((prs kps aps Z).take i)) (rwA kps (Z.getD i 0))
            have h2 := gfold_len ks.length (prs kps aps Z) i
            rw [hag, ← hab2, List.map_cons, List.length_cons, List.length_map] at h1
            omega
          obtain ⟨hab4, hab5⟩ := List.cons.inj hab2
          obtain ⟨⟨hkd, hgr⟩, hgk⟩ := hok2 _ List.mem_cons_self
          have hkd : gts.map Prod.fst = ks := hkd
          have hgr : GrV (gts.map tI) gst gcap := hgr
          have hus : gts.map (fun t => t.2.2) = us := by rw [haus, ← hab4]; rfl
          have hul : us.length = ks.length := by rw [← hus, List.length_map, ← List.length_map (f := Prod.fst), hkd]
          obtain ⟨ab, acs, rfl⟩ := grV_some hG2 (by rw [ptrs_len]; simp)
          repeat refine J.seq ?_
          refine J.plain ?_
          refine JO.t (ob_move rfl) rfl ?_
          refine JO.t (ob_move rfl) rfl ?_
          refine JO.t (ob_indexAddr el_sl_sl_api_Value rfl (haa (by omega)) rfl (by omega) (by omega)) rfl ?_
          refine JO.t (ob_loadG1 (enc := RV.c) (sz := 1) (i := (Z.getD i 0)) (j := 0) (y := aps.getD (Z.getD i 0) rv0) (u := (aps.getD (Z.getD i 0) rv0).v) sz_sl_api_Value rfl (by repeat (first | exact List.mem_cons_self | apply List.mem_cons_of_mem)) (haa (by omega)) (getD_some (by omega)) (by omega) rfl) rfl ?_
          refine JO.t (ob_len un_sl_api_Value rfl) rfl ?_
          refine JO.t (ob_move rfl) rfl ?_
          refine JO.nil ?_
          repeat (first | refine JX.next ?_ | refine JX.normal_block ?_)
          refine J.sel [1, 3, 4, 11, 13, 14, 51, 52, 53, 85, 86, 87] (.cons rfl (.cons rfl (.cons rfl (.cons rfl (.cons rfl (.cons rfl (.cons rfl (.cons rfl (.cons rfl (.cons rfl (.cons rfl (.cons rfl .nil)))))))))))) ?_
          repeat refine J.seq ?_
          refine J.block ?_
          repeat refine J.seq ?_
          refine J.loopG (α := Nat × List TV) (fun y => [(1, .is (.slice aa aps.length ac)), (3, .is (.bool whole)), (4, .is (.pointer (some ⟨b4, 0, none⟩))), (11, .is (.slice (some ⟨b36, 0, none⟩) kps.length kps.length)), (13, .is (.pointer (some ⟨b13, 0, none⟩))), (14, .is (.func (.func f_group_Rows_2) #[] #[.pointer (some ⟨b6, 0, none⟩), .pointer (some ⟨b13, 0, none⟩)])), (51, .is (.slice (some ⟨b36, 0, none⟩) kps.length kps.length)), (52, .is (.int .i64 (kps.length : Nat))), (53, .is (.int .i64 (i : Nat))), (85, .is (aps.getD (Z.getD i 0) rv0).v), (86, .is (.int .i64 ((aps.getD (Z.getD i 0) rv0).len : Nat))), (87, .is (.int .i64 (y.1 : Nat)))]) (fun y => ⟨b13, ty_sl_p_group_group, .is (sliceO (some (ab, acs)) (GV.mk gk gb gst gcap y.2 :: r).length cp2)⟩ :: ownO (some (ab, acs)) ty_p_group_group (List.flatMap (GV.own ks.length) (GV.mk gk gb gst gcap y.2 :: r))) (fun y => fun _ => True) (fun y => y.1 ≤ ks.length ∧ y.2.map Prod.fst = ks ∧ y.2.map tI = gts.map tI ∧ y.2.map (fun t => t.2.2) = addP y.1 us (rwA aps (Z.getD i 0))) (fun y => ks.length - y.1) (0, gts) [1, 3, 4, 11, 13, 14, 51, 52, 53, 85, 86, 87] (.cons rfl (.cons rfl (.cons rfl (.cons rfl (.cons rfl (.cons rfl (.cons rfl (.cons rfl (.cons rfl (.cons rfl (.cons rfl (.cons rfl .nil)))))))))))) rfl (fun _ => trivial) ⟨Nat.zero_le _, hkd, rfl, by rw [hus]; exact (addP_zero _ _).symm⟩ fun ⟨j, ts⟩ ⟨hj, hk3, hi3, hu3⟩ => ?_
          try dsimp only
          try dsimp only at ts
          try dsimp only at hj
          try dsimp only at hk3
          try dsimp only at hi3
          try dsimp only at hu3
          repeat refine J.seq ?_
          refine J.plain ?_
          refine JO.t (ob_lss rfl rfl) rfl ?_
          refine JO.nil ?_
          repeat (first | refine JX.next ?_ | refine JX.normal_block ?_)
          refine J.sel [1, 3, 4, 11, 13, 14, 51, 52, 53, 85, 86, 87, 88] (.cons rfl (.cons rfl (.cons rfl (.cons rfl (.cons rfl (.cons rfl (.cons rfl (.cons rfl (.cons rfl (.cons rfl (.cons rfl (.cons rfl (.cons rfl .nil))))))))))))) ?_
          repeat refine J.seq ?_
          refine J.cond rfl (fun ht88 => ?_) (fun ht88 => ?_)
          ·
            try simp only [decide_eq_true_eq, decide_eq_false_iff_not] at ht88
            refine J.skip ?_
            repeat (first | refine JX.next ?_ | refine JX.normal_block ?_)
            repeat refine J.seq ?_
            refine J.block ?_
            have hj1 : j < ks.length := by omega
            have htl : ts.length = ks.length := by rw [← hk3, List.length_map]
            obtain ⟨t, htj⟩ : ∃ t, ts[j]? = some t := ⟨_, List.getElem?_eq_getElem (by omega)⟩
            have hkt : 20 ≤ t.1 ∧ t.1 ≤ 23 := hkk _ (by rw [← hk3]; exact List.mem_map_of_mem (List.mem_of_getElem? htj))
            have htI : (gts.map tI)[j]? = some (tI t) := by rw [← hi3, List.getElem?_map, htj]; rfl
            have hur : us[j]? = some t.2.2 := by
              rw [← addP_get (us := us) (vals := rwA aps (Z.getD i 0)) (by omega) (by rw [hvl0]; omega), ← hu3, List.getElem?_map, htj]; rfl
            have hvj : (rwA aps (Z.getD i 0))[j]? = some ((rwA aps (Z.getD i 0)).getD j v3E) := getD_some (by rw [hvl0]; omega)
            have hvl : t.2.2.length ≤ 1048576 := by have := (hgB2 _ List.mem_cons_self _ (by rw [← haus]; exact List.mem_of_getElem? hur)).1; omega
            have hvv : I64 ((rwA aps (Z.getD i 0)).getD j v3E).n := hv _ (List.mem_map_of_mem (getD_mem (d := rv0) hza)) _ (List.mem_of_getElem? hvj)
            repeat refine J.seq ?_
            refine J.plain ?_
            refine JO.t (ob_move rfl) rfl ?_
            refine JO.t (ob_indexAddr el_sl_api_Value rfl (hra (by omega)) rfl (by omega) (by omega)) rfl ?_
            refine JO.t (ob_loadG (enc := V3.cells) (sz := 3) (i := j) (y := (rwA aps (Z.getD i 0)).getD j v3E) (cs := V3.cells ((rwA aps (Z.getD i 0)).getD j v3E)) sz_api_Value rfl (by repeat (first | exact List.mem_cons_self | apply List.mem_cons_of_mem)) (hra (by omega)) (v3_get (by omega)) (by omega) rfl) rfl ?_
            refine JO.alloc zo_api_Value rfl fun b18 => ?_
            refine JO.t (ob_assign rfl) rfl ?_
            refine JO.m (obm_store rfl rfl (by repeat (first | exact .here | apply Upd.there)) (by first | exact cnt_is rfl rfl | exact cnt_ex) (by first | exact cnt_is rfl rfl | exact cnt_ex | exact cnt_aggO) ss_api_Value) (by rfl) ?_
            refine JO.nil ?_
            repeat (first | refine JX.next ?_ | refine JX.normal_block ?_)
            refine J.sel [1, 3, 4, 11, 13, 14, 17, 18, 51, 52, 53, 85, 86, 87] (.cons rfl (.cons rfl (.cons rfl (.cons rfl (.cons rfl (.cons rfl (.cons rfl (.cons rfl (.cons rfl (.cons rfl (.cons rfl (.cons rfl (.cons rfl (.cons rfl .nil)))))))))))))) ?_
            repeat refine J.seq ?_
            refine J.plain ?_
            refine JO.t (ob_fieldAddr fo_api_Value_0 rfl) rfl ?_
            refine JO.t (ob_ld1 sz_int rfl rfl) rfl ?_
            refine JO.t (ob_neq rfl rfl) rfl ?_
            refine JO.nil ?_
            repeat (first | refine JX.next ?_ | refine JX.normal_block ?_)
            refine J.sel [1, 3, 4, 11, 13, 14, 17, 18, 51, 52, 53, 85, 86, 87, 94] (.cons rfl (.cons rfl (.cons rfl (.cons rfl (.cons rfl (.cons rfl (.cons rfl (.cons rfl (.cons rfl (.cons rfl (.cons rfl (.cons rfl (.cons rfl (.cons rfl (.cons rfl .nil))))))))))))))) ?_
            repeat refine J.seq ?_
            refine J.cond rfl (fun ht94 => ?_) (fun ht94 => ?_)
            ·
              try simp only [decide_eq_true_eq, decide_eq_false_iff_not] at ht94
              obtain ⟨tb, tcs, rfl⟩ := grV_some hgr (by rw [List.length_map, ← List.length_map (f := Prod.fst), hkd]; omega)
              have hgr2 := hgr
              repeat refine J.seq ?_
              refine J.regS 13 hmx (by kernel_rfl) (by kernel_rfl) ?_
              refine RT.t (ob_ld1 sz_sl_p_group_group rfl (by rw [sliceO_cells]; rfl)) ?_
              refine RT.t (ob_ld1 sz_sl_p_group_group rfl (by rw [sliceO_cells]; rfl)) ?_
              refine RT.t (ob_lenN (xs := ptrs (GV.mk gk gb (some (tb, tcs)) gcap gts :: r)) (n := r.length + 1) hG2 (by rw [ptrs_len]; rfl) un_sl_p_group_group rfl) ?_
              refine RT.t (ob_subc (cc := ((r.length : Nat) : Int)) rfl rfl (by omega) (by omega) (by omega)) ?_
              refine RT.t (ob_indexAddr el_sl_p_group_group rfl rfl rfl (by omega) (by rw [List.length_cons]; omega)) ?_
              refine RT.t (ob_ld1 sz_p_group_group rfl (hm := ⟨List.mem_cons_of_mem _ (List.mem_cons_of_mem _ List.mem_cons_self)⟩) (grV_nth hG2 (ptrs_last _ _) (by omega))) ?_
              refine RT.t (ob_nilCheck rfl) ?_
              refine RT.t (ob_fieldAddr fo_group_group_1 rfl) ?_
              refine RT.t (ob_ld1 sz_sl_group_teller rfl (hm := ⟨List.mem_cons_of_mem _ (List.mem_cons_of_mem _ (List.mem_cons_of_mem _ (mem_gb (g := GV.mk gk gb (some (tb, tcs)) gcap ts) List.mem_cons_self)))⟩) rfl) ?_
              refine RT.t (ob_move rfl) ?_
              refine RT.t (ob_indexAddr el_sl_group_teller rfl rfl rfl (by omega) (by omega)) ?_
              refine RT.t (ob_ld1 sz_group_teller rfl (hm := ⟨List.mem_cons_of_mem _ (List.mem_cons_of_mem _ (List.mem_cons_of_mem _ (mem_tb (g := GV.mk gk gb (some (tb, tcs)) gcap ts) List.mem_cons_self rfl)))⟩) (grV_nth hgr2 htI (by omega))) ?_
              refine RT.t (ob_ldN (cs := [_, _, _]) sz_api_Value rfl rfl rfl) ?_
              refine RT.nil ?_
              refine FinS.tail0 ?_
              obtain ⟨Q, q1, q2⟩ := own_set (m := ks.length) (k := gk) (gb := gb) (st := some (tb, tcs)) (cap := gcap) (r := r) (B := ⟨b13, ty_sl_p_group_group, .is (sliceO (some (ab, acs)) (GV.mk gk gb (some (tb, tcs)) gcap ts :: r).length cp2)⟩) (s := some (ab, acs)) (e := ty_p_group_group) htj
              refine JO.invL (Lr := ⟨b18, ty_api_Value, .is (.agg (V3.cells ((rwA aps (Z.getD i 0)).getD j v3E)).toArray)⟩ :: Q) rfl (mAdd hkt) (c_teller_add t.1 hkt t.2.1 t.2.2 ((rwA aps (Z.getD i 0)).getD j v3E) hvl hvv) (fun d e => by injection e with e; show d < 158; omega) ((List.Perm.cons _ q1).trans (List.Perm.swap _ _ _)) (fun F hF => absurd hF List.not_mem_nil) (.one rfl .nil) ?_
              intro _ _
              refine JO.subL (L' := ⟨b18, ty_api_Value, .is (.agg (V3.cells ((rwA aps (Z.getD i 0)).getD j v3E)).toArray)⟩ :: ⟨b13, ty_sl_p_group_group, .is (sliceO (some (ab, acs)) (GV.mk gk gb (some (tb, tcs)) gcap (ts.set j (t.1, t.2.1, t.2.2 ++ [(rwA aps (Z.getD i 0)).getD j v3E])) :: r).length cp2)⟩ :: ownO (some (ab, acs)) ty_p_group_group (List.flatMap (GV.own ks.length) (GV.mk gk gb (some (tb, tcs)) gcap (ts.set j (t.1, t.2.1, t.2.2 ++ [(rwA aps (Z.getD i 0)).getD j v3E])) :: r))) ((List.Perm.cons _ (q2 (t.1, t.2.1, t.2.2 ++ [(rwA aps (Z.getD i 0)).getD j v3E])).symm).trans (List.Perm.swap _ _ _)) ?_
              refine JO.nil ?_
              repeat (first | refine JX.next ?_ | refine JX.normal_block ?_)
              refine J.sel [1, 3, 4, 11, 13, 14, 51, 52, 53, 85, 86, 87] (.cons rfl (.cons rfl (.cons rfl (.cons rfl (.cons rfl (.cons rfl (.cons rfl (.cons rfl (.cons rfl (.cons rfl (.cons rfl (.cons rfl .nil)))))))))))) ?_
              repeat refine J.seq ?_
              refine J.plain ?_
              refine JO.t (ob_addc (cc := ((j + 1 : Nat) : Int)) rfl rfl (by omega) (by omega) (by omega)) rfl ?_
              refine JO.t (ob_move rfl) rfl ?_
              refine JO.nil ?_
              repeat refine JX.normal_block ?_
              refine JX.roundG (x := (j, ts)) (j + 1, ts.set j (t.1, t.2.1, t.2.2 ++ [(rwA aps (Z.getD i 0)).getD j v3E])) ?_ ?_ [1, 3, 4, 11, 13, 14, 51, 52, 53, 85, 86, 87] ?_ ?_ ?_ ?_
              · exact ⟨by show j + 1 ≤ ks.length; omega, by
              show (ts.set j _).map Prod.fst = ks
              rw [List.map_set, hk3]
              exact set_same (by rw [← hk3, List.getElem?_map, htj]; rfl), by
              show (ts.set j _).map tI = gts.map tI
              rw [List.map_set, hi3]
              exact set_same htI, by
              show (ts.set j _).map (fun t => t.2.2) = addP (j + 1) us _
              rw [List.map_set, hu3, addP_step hur hvj, if_pos ht94]⟩
              · exact (by show ks.length - (j + 1) < ks.length - j; omega)
              · exact (.cons rfl (.cons rfl (.cons rfl (.cons rfl (.cons rfl (.cons rfl (.cons rfl (.cons rfl (.cons rfl (.cons rfl (.cons rfl (.cons rfl .nil))))))))))))
              · exact has_drop
              · exact fun G hG => by repeat (first | exact hG | refine List.mem_cons_of_mem _ ?_)
              · exact fun _ _ _ => fun _ _ => trivial
            ·
              try simp only [decide_eq_true_eq, decide_eq_false_iff_not] at ht94
              refine J.skip ?_
              repeat (first | refine JX.next ?_ | refine JX.normal_block ?_)
              repeat refine J.seq ?_
              refine J.plain ?_
              refine JO.t (ob_addc (cc := ((j + 1 : Nat) : Int)) rfl rfl (by omega) (by omega) (by omega)) rfl ?_
              refine JO.t (ob_move rfl) rfl ?_
              refine JO.nil ?_
              repeat refine JX.normal_block ?_
              refine JX.roundG (x := (j, ts)) (j + 1, ts) ?_ ?_ [1, 3, 4, 11, 13, 14, 51, 52, 53, 85, 86, 87] ?_ ?_ ?_ ?_
              · exact ⟨by show j + 1 ≤ ks.length; omega, hk3, hi3, by
              show ts.map (fun t => t.2.2) = addP (j + 1) us _
              rw [hu3, addP_skip hur hvj (by simpa [-List.getD_eq_getElem?_getD] using ht94)]⟩
              · exact (by show ks.length - (j + 1) < ks.length - j; omega)
              · exact (.cons rfl (.cons rfl (.cons rfl (.cons rfl (.cons rfl (.cons rfl (.cons rfl (.cons rfl (.cons rfl (.cons rfl (.cons rfl (.cons rfl .nil))))))))))))
              · exact has_drop
              · exact fun G hG => by repeat (first | exact hG | refine List.mem_cons_of_mem _ ?_)
              · exact fun _ _ _ => fun _ _ => trivial
          ·
            try simp only [decide_eq_true_eq, decide_eq_false_iff_not] at ht88
            repeat refine J.seq ?_
            refine J.exit ?_
            repeat (first | refine JX.hit ?_ | refine JX.miss rfl ?_ | refine JX.exit_pass ?_)
            repeat (first | refine JX.next ?_ | refine JX.normal_block ?_)
            repeat refine J.seq ?_
            refine J.plain ?_
            refine JO.t (ob_addc (cc := ((i + 1 : Nat) : Int)) rfl rfl (by omega) (by omega) (by omega)) rfl ?_
            refine JO.t (ob_move rfl) rfl ?_
            refine JO.nil ?_
            repeat refine JX.normal_block ?_
            refine JX.roundG (x := (rg, st1, cp1, i)) (GV.mk gk gb gst gcap ts :: r, some (ab, acs), cp2, i + 1) ?_ ?_ [1, 3, 4, 11, 13, 14, 51, 52, 53] ?_ ?_ ?_ ?_
            · exact ⟨fun g hg => by
              rcases List.mem_cons.1 hg with rfl | hg
              · exact ⟨⟨hk3, by show GrV (ts.map tI) _ _; rw [hi3]; exact hgr⟩, hgk⟩
              · exact hok2 g (List.mem_cons_of_mem _ hg), by
              rw [ptrs_cons] at hG2
              show GrV (ptrs (GV.mk gk gb gst gcap ts :: r)) _ _
              rw [ptrs_cons]; exact hG2, by
              show (GV.mk gk gb gst gcap ts :: r).map GV.abs = gfold ks.length ((prs kps aps Z).take (i + 1))
              rw [gfold_step (hpg i hi1), hag, List.map_cons, hab5]
              show ((gk.row, ts.map fun t => t.2.2) : GPr) :: ar = (ag.1, addV ag.2 (rwA aps (Z.getD i 0))) :: ar
              rw [hu3, ← haus, addP_end (by omega) (by omega), ← hab4]
              rfl, by show i + 1 ≤ kps.length; omega⟩
            · exact (by show kps.length - (i + 1) < kps.length - i; omega)
            · exact (.cons rfl (.cons rfl (.cons rfl (.cons rfl (.cons rfl (.cons rfl (.cons rfl (.cons rfl (.cons rfl .nil)))))))))
            · repeat (first | exact .all | exact .nil | refine Has.own (by repeat (first | exact .here | apply Tl.past | apply Tl.there)) ?_ | refine Has.cons (by repeat (first | exact .here | apply Pk.past | apply Pk.there)) ?_)
            · exact fun G hG => by repeat (first | exact hG | refine List.mem_cons_of_mem _ ?_)
            · exact fun _ _ _ => fun _ _ => trivial
      ·
        try simp only [decide_eq_true_eq, decide_eq_false_iff_not] at ht54
        repeat refine J.seq ?_
        refine J.exit ?_
        repeat (first | refine JX.hit ?_ | refine JX.miss rfl ?_ | refine JX.exit_pass ?_)
        repeat (first | refine JX.next ?_ | refine JX.normal_block ?_)
        have hi2 : i = kps.length := by omega
        subst hi2
        rw [List.take_of_length_le (by rw [List.length_map]; omega)] at hab1
        have hrgl : rg.length ≤ kps.length := by
          have := gfold_len ks.length (prs kps aps Z) kps.length
          rw [List.take_of_length_le (by rw [List.length_map]; omega), ← hab1, List.length_map] at this
          exact this
        repeat refine J.seq ?_
        refine J.reg0 hmx (by kernel_rfl) (by kernel_rfl) ?_
        refine RT.t (ob_move rfl) ?_
        refine RT.t (ob_move rfl) ?_
        refine RT.g rfl rfl rfl (fun hg => ob_ld1 sz_sl_p_group_group (.inl rfl) (by rw [sliceO_cells]; rfl)) ?_
        refine RT.g rfl rfl rfl (fun hg => ob_lenN (xs := ptrs rg) hG1 (ptrs_len rg) un_sl_p_group_group (.inr ⟨_, rfl, fun h => h⟩)) ?_
        refine RT.g rfl rfl rfl (fun hg => ob_eql (.inr ⟨_, rfl, fun h => h⟩) (.inl rfl)) ?_
        refine RT.t (ob_pickAnd rfl rfl rfl id) ?_
        refine RT.nil ?_
        refine FinS.nil0 ?_
        repeat (first | refine JX.next ?_ | refine JX.normal_block ?_)
        refine J.sel [13, 14, 116] (.cons rfl (.cons rfl (.cons rfl .nil))) ?_
        repeat refine J.seq ?_
        refine J.cutZN (fun z : List GV × Option (Nat × List Value) × Nat => [(13, .is (.pointer (some ⟨b13, 0, none⟩)))]) (fun z : List GV × Option (Nat × List Value) × Nat => ⟨b13, ty_sl_p_group_group, .is (sliceO z.2.1 (z.1).length z.2.2)⟩ :: ownO z.2.1 ty_p_group_group (List.flatMap (GV.own ks.length) (z.1))) (fun z : List GV × Option (Nat × List Value) × Nat => (∀ g ∈ z.1, g.ok ks ∧ g.k ∈ rv0 :: kps) ∧ GrV (ptrs z.1) z.2.1 z.2.2 ∧ (z.1.map GV.abs).reverse = gsF whole ks.length (gfold ks.length (prs kps aps Z))) ?_ ?_
        · refine J.cond rfl (fun ht116 => ?_) (fun ht116 => ?_)
          ·
            try simp only [decide_eq_true_eq, decide_eq_false_iff_not] at ht116
            have hw : whole = true ∧ rg.length = 0 := by
              rw [Bool.and_eq_true, beq_iff_eq] at ht116
              exact ⟨ht116.1, by omega⟩
            have hrg0 : rg = [] := List.length_eq_zero_iff.1 hw.2
            repeat refine J.seq ?_
            refine J.plain ?_
            refine JO.t (ob_move rfl) rfl ?_
            refine JO.eqL (L' := (⟨b13, ty_sl_p_group_group, .is (sliceO st1 (ptrs rg).length cp1)⟩ :: ownO st1 ty_p_group_group []) ++ rg.flatMap (GV.own ks.length)) (by rw [ptrs_len, List.cons_append, ownO_app]; rfl) ?_
            refine JO.callvL (cs := [.pointer (some ⟨b6, 0, none⟩), .pointer (some ⟨b13, 0, none⟩)]) (AX := [.is (rv0).v]) (TC := [.is (.pointer (some ⟨b6, 0, none⟩)), .is (.pointer (some ⟨b13, 0, none⟩))]) (Lr := rg.flatMap (GV.own ks.length)) rfl (c_group_Rows_2 ks hkk (by omega) (rv0).a (rv0).len (rv0).cap b6 b13 da dcap (ptrs rg) st1 cp1 hG1 (by rw [ptrs_len]; omega)) (fun E w => ⟨rfl, rfl, trivial⟩) (fun d e => by injection e with e; show d < 158; omega) (.refl _) (fun F hF => by rw [List.mem_singleton.1 hF]; exact (by repeat (first | exact List.mem_cons_self | apply List.mem_cons_of_mem))) (.one rfl .nil) ?_
            intro zz hz
            rw [own_new (k := rv0) (by rw [ptrs_len])]
            refine JO.nil ?_
            refine JX.midZ ((GV.mk rv0 zz.gb zz.st zz.cap zz.ts :: rg, zz.st2, zz.cap2)) ?_ [13] ?_ ?_ ?_
            · exact ⟨fun g hg => by
              rcases List.mem_cons.1 hg with rfl | hg
              · exact ⟨⟨hz.1.1, hz.2.1⟩, List.mem_cons_self⟩
              · rw [hrg0] at hg; exact absurd hg List.not_mem_nil, by rw [ptrs_cons]; exact hz.2.2, by
              rw [← hab1, hw.1, hrg0]
              show [((([] : List V3), zz.ts.map fun t => t.2.2) : GPr)] = [(([], List.replicate ks.length []) : GPr)]
              rw [hz.1.vs]⟩
            · exact (.cons rfl .nil)
            · repeat (first | exact .all | exact .nil | refine Has.own (by repeat (first | exact .here | apply Tl.past | apply Tl.there)) ?_ | refine Has.cons (by repeat (first | exact .here | apply Pk.past | apply Pk.there)) ?_)
            · exact fun G hG => by repeat (first | exact hG | refine List.mem_cons_of_mem _ ?_)
          ·
            try simp only [decide_eq_true_eq, decide_eq_false_iff_not] at ht116
            refine J.skip ?_
            refine JX.midZ ((rg, st1, cp1)) ?_ [13] ?_ ?_ ?_
            · exact ⟨hok1, hG1, by
              unfold gsF
              rw [if_neg, hab1]
              rw [← hab1, Bool.and_eq_true]
              rintro ⟨h1, h2⟩
              rw [List.isEmpty_iff, List.map_eq_nil_iff] at h2
              rw [h1, h2] at ht116
              cases ht116⟩
            · exact (.cons rfl .nil)
            · repeat (first | exact .all | exact .nil | refine Has.own (by repeat (first | exact .here | apply Tl.past | apply Tl.there)) ?_ | refine Has.cons (by repeat (first | exact .here | apply Pk.past | apply Pk.there)) ?_)
            · exact fun G hG => by repeat (first | exact hG | refine List.mem_cons_of_mem _ ?_)
        · intro ⟨rg3, st3, cp3⟩ ⟨hok3, hG3, hab3⟩
          try dsimp only
          dsimp only at hok3 hG3 hab3
          repeat refine J.seq ?_
          refine J.plain ?_
          refine JO.t (ob_assign rfl) rfl ?_
          refine JO.nil ?_
          repeat (first | refine JX.next ?_ | refine JX.normal_block ?_)
          refine J.sel [13, 19] (.cons rfl (.cons rfl .nil)) ?_
          obtain ⟨gs, hgs⟩ : ∃ gs, gs = (rg3.map GV.abs).reverse := ⟨_, rfl⟩
          have hgBZ : gB 1048576 (fun v => I64 v.n) (gfold ks.length (prs kps aps Z)) := by
            have h := gB_fold (m := ks.length) (Q := fun v => I64 v.n) (prs kps aps Z) (fun p hp v hv2 => by
              obtain ⟨x, hx, rfl⟩ := List.mem_map.1 hp
              have hx2 : x < aps.length := by have := List.mem_range.1 (hZ.1.mem_iff.1 hx); omega
              exact hv _ (List.mem_map_of_mem (getD_mem (d := rv0) hx2)) v hv2) kps.length (by rw [List.length_map]; omega)
            rw [List.take_of_length_le (by rw [List.length_map]; omega)] at h
            exact h.mono (by omega)
          have hfin := grp_fin (whole := whole) hc0 hZ.1 hZ.2
          rw [← hab3, ← hgs] at hfin
          have hgl3 : gs.length = rg3.length := by rw [hgs, List.length_reverse, List.length_map]
          have hgB3 : gB 1048576 (fun v => I64 v.n) gs := by rw [hgs, hab3]; exact gB_fin hgBZ
          have hrg3l : rg3.length ≤ 1048576 := by rw [← hgl3, hgs, hab3]; exact gsF_len (by rw [← hab1, List.length_map]; omega)
          repeat refine J.seq ?_
          refine J.plain ?_
          refine JO.t (ob_ld1 sz_sl_p_group_group rfl (by rw [sliceO_cells]; rfl)) rfl ?_
          refine JO.t (ob_lenN (xs := ptrs rg3) hG3 (ptrs_len rg3) un_sl_p_group_group rfl) rfl ?_
          refine JO.t (ob_move rfl) rfl ?_
          refine JO.nil ?_
          repeat (first | refine JX.next ?_ | refine JX.normal_block ?_)
          refine J.sel [19, 119, 120, 121] (.cons rfl (.cons rfl (.cons rfl (.cons rfl .nil)))) ?_
          repeat refine J.seq ?_
          refine J.block ?_
          repeat refine J.seq ?_
          refine J.loopG (α := List RV × Option (Nat × List Value) × Nat) (fun y => [(19, .is (sliceO y.2.1 y.1.length y.2.2)), (119, .is (sliceO st3 rg3.length cp3)), (120, .is (.int .i64 (rg3.length : Nat))), (121, .is (.int .i64 (y.1.length : Nat)))]) (fun y => ownO y.2.1 ty_sl_api_Value (⟨b13, ty_sl_p_group_group, .is (sliceO st3 (rg3).length cp3)⟩ :: ownO st3 ty_p_group_group (List.flatMap (GV.own ks.length) (rg3)))) (fun y => RVF y.1) (fun y => Grows RV.c 1 y.1 y.2.1 y.2.2 ∧ y.1.length ≤ rg3.length ∧ y.1.map RV.row = (gs.take y.1.length).map (rowT ks) ∧ ∀ g ∈ gs.take y.1.length, okT ks g = true) (fun y => rg3.length - y.1.length) ([], none, 0) [19, 119, 120, 121] (.cons rfl (.cons rfl (.cons rfl (.cons rfl .nil)))) rfl (fun _ => fun p hp => absurd hp List.not_mem_nil) ⟨rfl, Nat.zero_le _, rfl, fun g hg => by simp at hg⟩ fun ⟨ops, sto, cpo⟩ ⟨hGo, hol, hor, hook⟩ => ?_
          try dsimp only
          try dsimp only at sto
          try dsimp only at cpo
          try dsimp only at hGo
          try dsimp only at hol
          try dsimp only at hor
          try dsimp only at hook
          repeat refine J.seq ?_
          refine J.plain ?_
          refine JO.t (ob_lss rfl rfl) rfl ?_
          refine JO.nil ?_
          repeat (first | refine JX.next ?_ | refine JX.normal_block ?_)
          refine J.sel [19, 119, 120, 121, 122] (.cons rfl (.cons rfl (.cons rfl (.cons rfl (.cons rfl .nil))))) ?_
          repeat refine J.seq ?_
          refine J.cond rfl (fun ht122 => ?_) (fun ht122 => ?_)
          ·
            try simp only [decide_eq_true_eq, decide_eq_false_iff_not] at ht122
            refine J.skip ?_
            repeat (first | refine JX.next ?_ | refine JX.normal_block ?_)
            repeat refine J.seq ?_
            refine J.block ?_
            obtain ⟨ab3, acs3, rfl⟩ := grV_some hG3 (by rw [ptrs_len]; omega)
            obtain ⟨⟨gk, gb, gst, gcap, gts⟩, hgi⟩ : ∃ g, rg3.reverse[ops.length]? = some g := ⟨_, List.getElem?_eq_getElem (by rw [List.length_reverse]; omega)⟩
            have hgm : GV.mk gk gb gst gcap gts ∈ rg3 := List.mem_reverse.1 (List.mem_of_getElem? hgi)
            obtain ⟨⟨hkd, hgr⟩, hgk⟩ := hok3 _ hgm
            have hkd : gts.map Prod.fst = ks := hkd
            have hgr : GrV (gts.map tI) gst gcap := hgr
            have hgl : (gts.map tI).length = ks.length := by rw [List.length_map, ← List.length_map (f := Prod.fst), hkd]
            have hgkl : gk.row.length ≤ 1048576 := by
              have hgk : gk ∈ rv0 :: kps := hgk
              rcases List.mem_cons.1 hgk with h | h
              · rw [h]; exact Nat.zero_le _
              · exact hbK _ h
            obtain ⟨ga, hga⟩ : ∃ ga, ga = (GV.mk gk gb gst gcap gts).abs := ⟨_, rfl⟩
            have hgai : gs[ops.length]? = some ga := by
              rw [hgs, ← List.map_reverse, List.getElem?_map, hgi, hga]
              rfl
            repeat refine J.seq ?_
            refine J.plain ?_
            refine JO.t (ob_indexAddr el_sl_p_group_group rfl rfl rfl (by omega) (by omega)) rfl ?_
            refine JO.t (ob_ld1 sz_p_group_group rfl (hm := ⟨mem_ownO (List.mem_cons_of_mem _ List.mem_cons_self)⟩) (grV_nth hG3 (ptrs_get hgi) (by omega))) rfl ?_
            refine JO.t (ob_assign rfl) rfl ?_
            refine JO.nil ?_
            repeat (first | refine JX.next ?_ | refine JX.normal_block ?_)
            refine J.sel [19, 21, 119, 120, 121] (.cons rfl (.cons rfl (.cons rfl (.cons rfl (.cons rfl .nil))))) ?_
            repeat refine J.seq ?_
            refine J.plain ?_
            refine JO.t (ob_move rfl) rfl ?_
            refine JO.t (ob_nilCheck rfl) rfl ?_
            refine JO.t (ob_fieldAddr fo_group_group_0 rfl) rfl ?_
            refine JO.t (ob_ld1 sz_sl_api_Value rfl (hm := ⟨mem_ownO (List.mem_cons_of_mem _ (List.mem_cons_of_mem _ (mem_gb hgm)))⟩) rfl) rfl ?_
            refine JO.callL (Lr := ownO sto ty_sl_api_Value (⟨b13, ty_sl_p_group_group, .is (sliceO (some (ab3, acs3)) (rg3).length cp3)⟩ :: ownO (some (ab3, acs3)) ty_p_group_group (List.flatMap (GV.own ks.length) (rg3)))) (c_slices_Clone_sl_api_Value_api_Value_L gk.row hgkl) (fun d e => by injection e with e; show d < 158; omega) (.refl _) (fun F hF => absurd hF List.not_mem_nil) (.sub rfl (Sub.rvS (p := gk) hgk (by repeat (first | exact List.mem_cons_self | apply List.mem_cons_of_mem))) .nil) ?_
            intro zc hzc
            rw [ownO_app, List.nil_append]
            refine JO.t (ob_assign rfl) rfl ?_
            refine JO.nil ?_
            repeat (first | refine JX.next ?_ | refine JX.normal_block ?_)
            refine J.sel [19, 21, 22, 119, 120, 121] (.cons rfl (.cons rfl (.cons rfl (.cons rfl (.cons rfl (.cons rfl .nil)))))) ?_
            refine J.coer (s := 22) (T' := .is (sliceO zc.1 (gk.row ++ ([] : List V3)).length zc.2)) rfl (Sub.isEq (by rw [List.append_nil])) ?_
            repeat refine J.seq ?_
            refine J.plain ?_
            refine JO.t (ob_move rfl) rfl ?_
            refine JO.t (ob_nilCheck rfl) rfl ?_
            refine JO.t (ob_fieldAddr fo_group_group_1 rfl) rfl ?_
            refine JO.t (ob_ld1 sz_sl_group_teller rfl (hm := ⟨mem_ownO (mem_ownO (List.mem_cons_of_mem _ (List.mem_cons_of_mem _ (mem_gb hgm))))⟩) (by show nth [_, _] 1 = _; rfl)) rfl ?_
            refine JO.t (ob_lenN (xs := gts.map tI) hgr hgl un_sl_group_teller rfl) rfl ?_
            refine JO.t (ob_move rfl) rfl ?_
            refine JO.nil ?_
            repeat (first | refine JX.next ?_ | refine JX.normal_block ?_)
            refine J.sel [19, 22, 119, 120, 121, 133, 134, 135] (.cons rfl (.cons rfl (.cons rfl (.cons rfl (.cons rfl (.cons rfl (.cons rfl (.cons rfl .nil)))))))) ?_
            repeat refine J.seq ?_
            refine J.block ?_
            repeat refine J.seq ?_
            refine J.loopG (α := List V3 × Option (Nat × List Value) × Nat × Nat) (fun y => [(19, .is (sliceO sto ops.length cpo)), (22, .is (sliceO y.2.1 (gk.row ++ y.1).length y.2.2.1)), (119, .is (sliceO (some (ab3, acs3)) rg3.length cp3)), (120, .is (.int .i64 (rg3.length : Nat))), (121, .is (.int .i64 (ops.length : Nat))), (133, .is (sliceO gst ks.length gcap)), (134, .is (.int .i64 (ks.length : Nat))), (135, .is (.int .i64 (y.2.2.2 : Nat)))]) (fun y => ownO y.2.1 ty_api_Value (ownO sto ty_sl_api_Value (⟨b13, ty_sl_p_group_group, .is (sliceO (some (ab3, acs3)) (rg3).length cp3)⟩ :: ownO (some (ab3, acs3)) ty_p_group_group (List.flatMap (GV.own ks.length) (rg3))))) (fun y => fun _ => True) (fun y => Grows V3.cells 3 (gk.row ++ y.1) y.2.1 y.2.2.1 ∧ y.1 = ((tellsG ks ga).take y.2.2.2).map Prod.fst ∧ (∀ p ∈ (tellsG ks ga).take y.2.2.2, p.2 = 0) ∧ y.2.2.2 ≤ ks.length) (fun y => ks.length - y.2.2.2) ([], zc.1, zc.2, 0) [19, 22, 119, 120, 121, 133, 134, 135] (.cons rfl (.cons rfl (.cons rfl (.cons rfl (.cons rfl (.cons rfl (.cons rfl (.cons rfl .nil)))))))) rfl (fun _ => trivial) ⟨by rw [List.append_nil]; exact hzc, rfl, fun p hp => by simp at hp, Nat.zero_le _⟩ fun ⟨acc, st5, cp5, j⟩ ⟨hG5, hac, hao, hj⟩ => ?_
            try dsimp only
            try dsimp only at st5
            try dsimp only at cp5
            try dsimp only at j
            try dsimp only at hG5
            try dsimp only at hac
            try dsimp only at hao
            try dsimp only at hj
            repeat refine J.seq ?_
            refine J.plain ?_
            refine JO.t (ob_lss rfl rfl) rfl ?_
            refine JO.nil ?_
            repeat (first | refine JX.next ?_ | refine JX.normal_block ?_)
            refine J.sel [19, 22, 119, 120, 121, 133, 134, 135, 136] (.cons rfl (.cons rfl (.cons rfl (.cons rfl (.cons rfl (.cons rfl (.cons rfl (.cons rfl (.cons rfl .nil))))))))) ?_
            repeat refine J.seq ?_
            refine J.cond rfl (fun ht136 => ?_) (fun ht136 => ?_)
            ·
              try simp only [decide_eq_true_eq, decide_eq_false_iff_not] at ht136
              refine J.skip ?_
              repeat (first | refine JX.next ?_ | refine JX.normal_block ?_)
              repeat refine J.seq ?_
              refine J.block ?_
              obtain ⟨tb, tcs, rfl⟩ := grV_some hgr (by omega)
              have hj1 : j < ks.length := by omega
              obtain ⟨t, htj⟩ : ∃ t, gts[j]? = some t := ⟨_, List.getElem?_eq_getElem (by rw [List.length_map] at hgl; omega)⟩
              have htm : t ∈ (GV.mk gk gb (some (tb, tcs)) gcap gts).ts := List.mem_of_getElem? htj
              have hkt : 20 ≤ t.1 ∧ t.1 ≤ 23 := hkk _ (by rw [← hkd]; exact List.mem_map_of_mem (List.mem_of_getElem? htj))
              have htI : (gts.map tI)[j]? = some (tI t) := by rw [List.getElem?_map, htj]; rfl
              have hgb := hgB3 ga (List.mem_of_getElem? hgai) t.2.2 (by rw [hga]; exact List.mem_map_of_mem (f := fun t : TV => t.2.2) (List.mem_of_getElem? htj))
              have hvl := hgb.1
              have hvv := hgb.2
              have htt : (tellsG ks ga)[j]? = some (tellV t.1 t.2.2) := by
                rw [hga]
                unfold tellsG GV.abs
                rw [List.getElem?_zipWith, ← hkd, List.getElem?_map, List.getElem?_map, htj]
                rfl
              have hacl : acc.length = j := by
                rw [hac, List.length_map, List.length_take]
                unfold tellsG
                rw [List.length_zipWith, hga]
                show min j (min ks.length (gts.map _).length) = j
                rw [List.length_map] at hgl ⊢
                omega
              repeat refine J.seq ?_
              refine J.plain ?_
              refine JO.t (ob_indexAddr el_sl_group_teller rfl rfl rfl (by omega) (by omega)) rfl ?_
              refine JO.t (ob_ld1 sz_group_teller rfl (hm := ⟨mem_ownO (mem_ownO (List.mem_cons_of_mem _ (List.mem_cons_of_mem _ (mem_tb hgm rfl))))⟩) (grV_nth hgr htI (by omega))) rfl ?_
              refine JO.t (ob_assign rfl) rfl ?_
              refine JO.nil ?_
              repeat (first | refine JX.next ?_ | refine JX.normal_block ?_)
              refine J.sel [19, 22, 24, 119, 120, 121, 133, 134, 135] (.cons rfl (.cons rfl (.cons rfl (.cons rfl (.cons rfl (.cons rfl (.cons rfl (.cons rfl (.cons rfl .nil))))))))) ?_
              repeat refine J.seq ?_
              refine J.plain ?_
              refine JO.t (ob_move rfl) rfl ?_
              refine JO.t (ob_invO (L0 := [tO t]) rfl (mTell hkt) (c_teller_tell t.1 hkt t.2.1 t.2.2 hvl hvv) (fun o ho => by rw [List.mem_singleton.1 ho]; exact ⟨_, rfl⟩) (fun o ho => by rw [List.mem_singleton.1 ho]; exact mem_ownO (mem_ownO (List.mem_cons_of_mem _ (List.mem_cons_of_mem _ (mem_tO hgm htm))))) (fun E w _ => by simp) (fun F hF => absurd hF List.not_mem_nil) .nil) rfl ?_
              refine JO.t (ob_move rfl) rfl ?_
              refine JO.t (ob_ext0 rfl) rfl ?_
              refine JO.t (ob_ext1 rfl) rfl ?_
              refine JO.alloc zo_api_Value rfl fun b25 => ?_
              refine JO.m (obm_store rfl rfl (by repeat (first | exact .here | apply Upd.there)) (by first | exact cnt_is rfl rfl | exact cnt_ex) (by first | exact cnt_is rfl rfl | exact cnt_ex | exact cnt_aggO) ss_api_Value) (by rfl) ?_
              refine JO.t (ob_assign rfl) rfl ?_
              refine JO.nil ?_
              repeat (first | refine JX.next ?_ | refine JX.normal_block ?_)
              refine J.sel [19, 22, 25, 26, 119, 120, 121, 133, 134, 135] (.cons rfl (.cons rfl (.cons rfl (.cons rfl (.cons rfl (.cons rfl (.cons rfl (.cons rfl (.cons rfl (.cons rfl .nil)))))))))) ?_
              repeat refine J.seq ?_
              refine J.plain ?_
              refine JO.t (ob_move rfl) rfl ?_
              refine JO.t (ob_neq rfl rfl) rfl ?_
              refine JO.nil ?_
              repeat (first | refine JX.next ?_ | refine JX.normal_block ?_)
              refine J.sel [19, 22, 25, 26, 119, 120, 121, 133, 134, 135, 145] (.cons rfl (.cons rfl (.cons rfl (.cons rfl (.cons rfl (.cons rfl (.cons rfl (.cons rfl (.cons rfl (.cons rfl (.cons rfl .nil))))))))))) ?_
              repeat refine J.seq ?_
              refine J.cond rfl (fun ht145 => ?_) (fun ht145 => ?_)
              ·
                try simp only [decide_eq_true_eq, decide_eq_false_iff_not] at ht145
                repeat refine J.seq ?_
                refine J.plain ?_
                refine JO.t (ob_move rfl) rfl ?_
                refine JO.t (ob_assign rfl) rfl ?_
                refine JO.t (ob_assign rfl) rfl ?_
                refine JO.nil ?_
                repeat (first | refine JX.next ?_ | refine JX.normal_block ?_)
                refine J.sel [8, 9] (.cons rfl (.cons rfl .nil)) ?_
                repeat refine J.seq ?_
                refine J.ret ?_
                repeat (first | refine JX.ret_pass ?_ | refine JX.ret_block ?_)
                have h0 : (tellV t.1 t.2.2).2 ≠ 0 := by simpa using ht145
                have hg0 : grpO (kps.map RV.row) (aps.map RV.row) ks whole = ([], 35) := by
                  rw [← hfin]
                  exact outR_bad (List.mem_of_getElem? hgai) (okT_bad htt h0)
                exact JX.ret2sub rfl rfl rfl (by rw [hg0]; exact Sub.rowsNil) rfl (Sub.isEq (by rw [hg0, (tellV_err t.1 t.2.2).resolve_left h0]))
              ·
                try simp only [decide_eq_true_eq, decide_eq_false_iff_not] at ht145
                refine J.skip ?_
                repeat (first | refine JX.next ?_ | refine JX.normal_block ?_)
                repeat refine J.seq ?_
                refine J.plain ?_
                refine JO.t (ob_move rfl) rfl ?_
                refine JO.t (ob_ldN (cs := [_, _, _]) sz_api_Value rfl rfl rfl) rfl ?_
                refine JO.t (ob_buildSlice (cs := [_, _, _]) sl_sl_api_Value (by omega) (by omega) (.cons rfl .nil) rfl rfl rfl) rfl ?_
                refine JO.apX ([(tellV t.1 t.2.2).1]) ap_sl_api_Value (fun _ => rfl) (by repeat (first | exact .here | apply Cx.past | apply Cx.there)) hG5 rfl rfl (fun L => src_new un_sl_api_Value rfl rfl) (by simp) (by simp; omega) (by simp; omega) rfl (fun st6 cp6 hG6 => ?_)
                try dsimp only
                rw [List.append_assoc] at hG6 ⊢
                refine JO.t (ob_assign rfl) rfl ?_
                refine JO.nil ?_
                repeat (first | refine JX.next ?_ | refine JX.normal_block ?_)
                refine J.sel [19, 22, 119, 120, 121, 133, 134, 135] (.cons rfl (.cons rfl (.cons rfl (.cons rfl (.cons rfl (.cons rfl (.cons rfl (.cons rfl .nil)))))))) ?_
                repeat refine J.seq ?_
                refine J.plain ?_
                refine JO.t (ob_addc (cc := ((j + 1 : Nat) : Int)) rfl rfl (by omega) (by omega) (by omega)) rfl ?_
                refine JO.t (ob_move rfl) rfl ?_
                refine JO.nil ?_
                repeat refine JX.normal_block ?_
                refine JX.roundG (x := (acc, st5, cp5, j)) (acc ++ [(tellV t.1 t.2.2).1], st6, cp6, j + 1) ?_ ?_ [19, 22, 119, 120, 121, 133, 134, 135] ?_ ?_ ?_ ?_
                · exact ⟨hG6, by
              show acc ++ [(tellV t.1 t.2.2).1] = ((tellsG ks ga).take (j + 1)).map Prod.fst
              rw [List.take_add_one, htt, List.map_append, ← hac]
              rfl, fun q hq => by
              have hq : q ∈ (tellsG ks ga).take (j + 1) := hq
              rw [List.take_add_one, htt] at hq
              rcases List.mem_append.1 hq with hq | hq
              · exact hao q hq
              · rw [Option.toList_some, List.mem_singleton] at hq
                rw [hq]
                simpa using ht145, by show j + 1 ≤ ks.length; omega⟩
                · exact (by show ks.length - (j + 1) < ks.length - j; omega)
                · exact (.cons rfl (.cons rfl (.cons rfl (.cons rfl (.cons rfl (.cons rfl (.cons rfl (.cons rfl .nil))))))))
                · exact has_drop
                · exact fun G hG => by repeat (first | exact hG | refine List.mem_cons_of_mem _ ?_)
                · exact fun _ _ _ => fun _ _ => trivial
            ·
              try simp only [decide_eq_true_eq, decide_eq_false_iff_not] at ht136
              repeat refine J.seq ?_
              refine J.exit ?_
              repeat (first | refine JX.hit ?_ | refine JX.miss rfl ?_ | refine JX.exit_pass ?_)
              repeat (first | refine JX.next ?_ | refine JX.normal_block ?_)
              have hj2 : j = ks.length := by omega
              subst hj2
              have htl3 : (tellsG ks ga).length ≤ ks.length := by unfold tellsG; rw [List.length_zipWith]; omega
              refine J.freezeO v3_len hG5 (e := ty_api_Value) (by repeat (first | exact .here | apply Tl.past | apply Tl.there)) (fun _ h => h) rfl (is_out (ownO_is _ _ (by simp only [List.all_cons, Bool.and_eq_true]; exact ⟨rfl, ownO_is _ _ (owns_is _ _)⟩))) ?_
              obtain ⟨p, hp⟩ : ∃ p, p = RV.mk (gk.row ++ acc) (adO st5) (gk.row ++ acc).length (capO st5 cp5) := ⟨_, rfl⟩
              refine J.coer (s := 22) (T' := .is p.v) rfl (Sub.isEq (by rw [hG5.sl.1, hp])) ?_
              repeat refine J.seq ?_
              refine J.plain ?_
              refine JO.t (ob_move rfl) rfl ?_
              refine JO.t (ob_move rfl) rfl ?_
              refine JO.t (ob_buildSlice (cs := [_]) sl_sl_sl_api_Value (by omega) (by omega) (.cons rfl .nil) rfl rfl rfl) rfl ?_
              refine JO.apX ([p]) ap_sl_sl_api_Value RV.c_len (by repeat (first | exact .here | apply Cx.past | apply Cx.there)) hGo rfl rfl (fun L => src_new un_sl_sl_api_Value rfl rfl) (by simp) (by simp; omega) (by simp; omega) rfl (fun st7 cp7 hG7 => ?_)
              try dsimp only
              refine JO.t (ob_assign rfl) rfl ?_
              refine JO.nil ?_
              repeat (first | refine JX.next ?_ | refine JX.normal_block ?_)
              refine J.sel [19, 119, 120, 121] (.cons rfl (.cons rfl (.cons rfl (.cons rfl .nil)))) ?_
              repeat refine J.seq ?_
              refine J.plain ?_
              refine JO.t (ob_addc (cc := (((ops ++ [p]).length : Nat) : Int)) rfl rfl (by rw [List.length_append, List.length_singleton]; omega) (by omega) (by rw [List.length_append, List.length_singleton]; omega)) rfl ?_
              refine JO.t (ob_move rfl) rfl ?_
              refine JO.nil ?_
              repeat refine JX.normal_block ?_
              refine JX.roundG (x := (ops, sto, cpo)) (ops ++ [p], st7, cp7) ?_ ?_ [19, 119, 120, 121] ?_ ?_ ?_ ?_
              · exact ⟨hG7, by show (ops ++ [p]).length ≤ _; rw [List.length_append, List.length_singleton]; omega, by
              show (ops ++ [p]).map RV.row = (gs.take (ops ++ [p]).length).map (rowT ks)
              rw [List.length_append, List.length_singleton, List.take_add_one, hgai, List.map_append, List.map_append, ← hor]
              congr 1
              rw [hp, Option.toList_some]
              show [gk.row ++ acc] = [rowT ks ga]
              unfold rowT
              rw [hac, List.take_of_length_le htl3, hga]
              rfl, fun g hg => by
              have hg : g ∈ gs.take (ops ++ [p]).length := hg
              rw [List.length_append, List.length_singleton, List.take_add_one, hgai] at hg
              rcases List.mem_append.1 hg with hg | hg
              · exact hook g hg
              · rw [Option.toList_some, List.mem_singleton] at hg
                rw [hg]
                unfold okT
                rw [List.all_eq_true]
                intro q hq
                rw [List.take_of_length_le htl3] at hao
                rw [hao q hq]
                rfl⟩
              · exact (by show rg3.length - (ops ++ [p]).length < rg3.length - ops.length; rw [List.length_append, List.length_singleton]; omega)
              · exact (.cons rfl (.cons rfl (.cons rfl (.cons rfl .nil))))
              · repeat (first | exact .all | exact .nil | refine Has.own (by repeat (first | exact .here | apply Tl.past | apply Tl.there)) ?_ | refine Has.cons (by repeat (first | exact .here | apply Pk.past | apply Pk.there)) ?_)
              · exact fun G hG => by repeat (first | exact hG | refine List.mem_cons_of_mem _ ?_)
              · exact fun E w hF => fun w2 hk2 q hq => (List.mem_append.1 hq).elim (fun h => hF (RVF ops) (by repeat (first | exact List.mem_cons_self | apply List.mem_cons_of_mem)) w2 hk2 q h) (fun h => by rw [List.mem_singleton.1 h, hp]; exact ⟨hG5.sl.2, hF (RowG V3.cells 3 (gk.row ++ acc) (adO st5) (gk.row ++ acc).length) (by repeat (first | exact List.mem_cons_self | apply List.mem_cons_of_mem)) w2 hk2⟩)
          ·
            try simp only [decide_eq_true_eq, decide_eq_false_iff_not] at ht122
            repeat refine J.seq ?_
            refine J.exit ?_
            repeat (first | refine JX.hit ?_ | refine JX.miss rfl ?_ | refine JX.exit_pass ?_)
            repeat (first | refine JX.next ?_ | refine JX.normal_block ?_)
            have hol2 : ops.length = rg3.length := by omega
            refine J.freezeO RV.c_len hGo (e := ty_sl_api_Value) (by repeat (first | exact .here | apply Tl.past | apply Tl.there)) (fun _ h => h) rfl (is_out (by simp only [List.all_cons, Bool.and_eq_true]; exact ⟨rfl, ownO_is _ _ (owns_is _ _)⟩)) ?_
            repeat refine J.seq ?_
            refine J.plain ?_
            refine JO.t (ob_move rfl) rfl ?_
            refine JO.t (ob_assign rfl) rfl ?_
            refine JO.t (ob_assign rfl) rfl ?_
            refine JO.nil ?_
            repeat (first | refine JX.next ?_ | refine JX.normal_block ?_)
            refine J.sel [8, 9] (.cons rfl (.cons rfl .nil)) ?_
            repeat refine J.seq ?_
            refine J.ret ?_
            repeat (first | refine JX.ret_pass ?_ | refine JX.ret_block ?_)
            have hg0 : grpO (kps.map RV.row) (aps.map RV.row) ks whole = (gs.map (rowT ks), 0) := by
              rw [← hfin]
              rw [List.take_of_length_le (by omega)] at hook
              exact outR_ok hook
            rw [List.take_of_length_le (by omega)] at hor
            exact JX.ret2sub rfl rfl rfl (by rw [hg0]; exact Sub.rowsO hGo (by repeat (first | exact List.mem_cons_self | apply List.mem_cons_of_mem)) (rps := ops) (by repeat (first | exact List.mem_cons_self | apply List.mem_cons_of_mem)) (fun p h => h) hor) rfl (Sub.isEq (by rw [hg0]))
end Go.Proofs.Ytgpikmonklainaa
