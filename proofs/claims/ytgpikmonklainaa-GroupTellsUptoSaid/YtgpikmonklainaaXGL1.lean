/- group: the law of telling. No condition. -/
import Derived.Test.YtgpikmonklainaaXGZb
import Derived.Test.YtgpikmonklainaaXGAsk
set_option maxRecDepth 20000
namespace Go.Proofs.Ytgpikmonklainaa
open Go Go.Vc
open Go.Vl Go.Od
theorem ddP_len : ∀ (l : List (List V3)) (p : List V3), (ddP p l).length ≤ l.length
  | [], _ => Nat.le_refl _
  | a :: l, p => by
    have ih := ddP_len l a
    unfold ddP
    split
    · rw [List.length_cons]; omega
    · rw [List.length_cons, List.length_cons]; omega
theorem dd_len (l : List (List V3)) : (dd l).length ≤ l.length := by
  cases l with
  | nil => exact Nat.le_refl _
  | cons a l =>
    have := ddP_len l a
    show (a :: ddP a l).length ≤ _
    rw [List.length_cons, List.length_cons]
    omega
theorem grp_len (keys args : List (List V3)) (ks : List Int) (whole : Bool) (hn : keys.length ≤ 1048575) : (grpO keys args ks whole).1.length ≤ 1048576 := by
  unfold grpO
  split
  · exact Nat.zero_le _
  · unfold outR
    split
    · show ((cgD _ _ _ _).map _).length ≤ _
      unfold cgD
      rw [List.length_map, List.length_map]
      unfold keysD
      split
      · exact Nat.le_of_ble_eq_true rfl
      · have h1 := srt_len (lt := ltR) keys
        have h2 := dd_len (srt ltR keys)
        omega
    · exact Nat.zero_le _
theorem grp_row (keys args : List (List V3)) (ks : List Int) (whole : Bool) (hK : ∀ r ∈ keys, r.length ≤ 1048576) (hks : ks.length ≤ 1048576) : ∀ r ∈ (grpO keys args ks whole).1, r.length ≤ 9223372036854775806 := by
  intro r hr
  unfold grpO at hr
  split at hr
  · cases hr
  · unfold outR at hr
    split at hr
    · have hr : r ∈ (cgD keys args ks.length (keysD keys whole)).map (rowT ks) := hr
      obtain ⟨g, hg, rfl⟩ := List.mem_map.1 hr
      obtain ⟨key, hk, rfl⟩ := List.mem_map.1 hg
      unfold rowT tellsG
      rw [List.length_append, List.length_map, List.length_zipWith]
      have h1 : key.length ≤ 1048576 := by
        unfold keysD at hk
        split at hk
        · rw [List.mem_singleton.1 hk]; exact Nat.zero_le _
        · have hd := dd_spec (srt_srt (lt := ltR) ordR (S := keys) (fun _ _ => trivial))
          exact hK _ ((srt_perm _).mem_iff.1 ((hd.2 key).1 hk))
      show key.length + _ ≤ _
      omega
    · cases hr
theorem c_law16_GroupTells (keys args : List (List V3)) (ks : List Int) (whole : Bool) (hn : keys.length ≤ 1048575) (hn2 : args.length ≤ 1048576) (hK : ∀ r ∈ keys, r.length ≤ 1048576) (hR : ∀ r ∈ args, r.length ≤ 1048576) (hks : ks.length ≤ 1048576) (hv : ∀ r ∈ args, ∀ v ∈ r, I64 v.n) : CallTy Try.prog f_law16_GroupTells [.rep (AskG keys args ks), .is (.bool whole)] (.is (.bool true)) :=
  CallTy.of (fn := Try.f6) Try.func6 (n := 41) rfl rfl rfl (fun _ _ => by kernel_rfl) fun E W => by
  refine J.openAskG (s := 0) rfl (fun kps ka kl kc kb ko aps aa al ac ab ao da dl dc db dof hkm hkl hkc hka ham hal hac haa hdl hdc hda => ?_)
  subst hdl hkl hal
  repeat refine J.seq ?_
  refine J.plain ?_
  refine JO.box rfl rfl fun b2 => ?_
  refine JO.t (ob_assign rfl) rfl ?_
  refine JO.nil ?_
  repeat (first | refine JX.next ?_ | refine JX.normal_block ?_)
  refine J.sel [1, 2] (.cons rfl (.cons rfl .nil)) ?_
  repeat refine J.seq ?_
  refine J.plain ?_
  refine JO.t (ob_call rfl c_law16_awake .nil) rfl ?_
  refine JO.t (ob_not rfl) rfl ?_
  refine JO.nil ?_
  repeat (first | refine JX.next ?_ | refine JX.normal_block ?_)
  refine J.sel [1, 2, 10] (.cons rfl (.cons rfl (.cons rfl .nil))) ?_
  repeat refine J.seq ?_
  refine J.cond rfl (fun ht10 => ?_) (fun ht10 => ?_)
  ·
    try simp only [decide_eq_true_eq, decide_eq_false_iff_not] at ht10
    exfalso
    simp at ht10
  ·
    try simp only [decide_eq_true_eq, decide_eq_false_iff_not] at ht10
    refine J.skip ?_
    repeat (first | refine JX.next ?_ | refine JX.normal_block ?_)
    repeat refine J.seq ?_
    refine J.plain ?_
    refine JO.t (ob_fieldAddr fo_cadastrelaw16_Ask_0 rfl) rfl ?_
    refine JO.t (ob_ld1 sz_sl_sl_api_Value rfl rfl) rfl ?_
    refine JO.t (ob_fieldAddr fo_cadastrelaw16_Ask_1 rfl) rfl ?_
    refine JO.t (ob_ld1 sz_sl_sl_api_Value rfl rfl) rfl ?_
    refine JO.t (ob_fieldAddr fo_cadastrelaw16_Ask_2 rfl) rfl ?_
    refine JO.t (ob_ld1 sz_sl_int rfl rfl) rfl ?_
    refine JO.t (ob_move rfl) rfl ?_
    refine JO.t (ob_call rfl (c_group_Rows keys args ks whole hn hn2 hR hK hks hv) (.sub rfl (Sub.rowsF (rps := kps) (by repeat (first | exact List.mem_cons_self | apply List.mem_cons_of_mem)) (by repeat (first | exact List.mem_cons_self | apply List.mem_cons_of_mem)) hkc hkm) (.sub rfl (Sub.rowsF (rps := aps) (by repeat (first | exact List.mem_cons_self | apply List.mem_cons_of_mem)) (by repeat (first | exact List.mem_cons_self | apply List.mem_cons_of_mem)) hac ham) (.sub rfl (Sub.slFact (by repeat (first | exact List.mem_cons_self | apply List.mem_cons_of_mem))) (.one rfl .nil))))) rfl ?_
    refine JO.t (ob_move rfl) rfl ?_
    refine JO.t (ob_extract0 rfl) rfl ?_
    refine JO.t (ob_extract1 rfl) rfl ?_
    refine JO.t (ob_assign rfl) rfl ?_
    refine JO.t (ob_assign rfl) rfl ?_
    refine JO.nil ?_
    repeat (first | refine JX.next ?_ | refine JX.normal_block ?_)
    refine J.sel [1, 2, 5, 6] (.cons rfl (.cons rfl (.cons rfl (.cons rfl .nil)))) ?_
    repeat refine J.seq ?_
    refine J.plain ?_
    refine JO.t (ob_fieldAddr fo_cadastrelaw16_Ask_0 rfl) rfl ?_
    refine JO.t (ob_ld1 sz_sl_sl_api_Value rfl rfl) rfl ?_
    refine JO.t (ob_fieldAddr fo_cadastrelaw16_Ask_1 rfl) rfl ?_
    refine JO.t (ob_ld1 sz_sl_sl_api_Value rfl rfl) rfl ?_
    refine JO.t (ob_fieldAddr fo_cadastrelaw16_Ask_2 rfl) rfl ?_
    refine JO.t (ob_ld1 sz_sl_int rfl rfl) rfl ?_
    refine JO.t (ob_move rfl) rfl ?_
    refine JO.t (ob_call rfl (c_ref16_Rows keys args ks whole hn hn2 hR hK hks hv) (.sub rfl (Sub.rowsF (rps := kps) (by repeat (first | exact List.mem_cons_self | apply List.mem_cons_of_mem)) (by repeat (first | exact List.mem_cons_self | apply List.mem_cons_of_mem)) hkc hkm) (.sub rfl (Sub.rowsF (rps := aps) (by repeat (first | exact List.mem_cons_self | apply List.mem_cons_of_mem)) (by repeat (first | exact List.mem_cons_self | apply List.mem_cons_of_mem)) hac ham) (.sub rfl (Sub.slFact (by repeat (first | exact List.mem_cons_self | apply List.mem_cons_of_mem))) (.one rfl .nil))))) rfl ?_
    refine JO.t (ob_move rfl) rfl ?_
    refine JO.t (ob_extract0 rfl) rfl ?_
    refine JO.t (ob_extract1 rfl) rfl ?_
    refine JO.t (ob_assign rfl) rfl ?_
    refine JO.t (ob_assign rfl) rfl ?_
    refine JO.nil ?_
    repeat (first | refine JX.next ?_ | refine JX.normal_block ?_)
    refine J.sel [5, 6, 7, 8] (.cons rfl (.cons rfl (.cons rfl (.cons rfl .nil)))) ?_
    repeat refine J.seq ?_
    refine J.reg0 hmx (by kernel_rfl) (by kernel_rfl) ?_
    refine RT.t (ob_move rfl) ?_
    refine RT.t (ob_move rfl) ?_
    refine RT.t (ob_eql rfl rfl) ?_
    refine RT.t (ob_move rfl) ?_
    refine RT.g rfl rfl rfl (fun hg => ob_move (.inl rfl)) ?_
    refine RT.g rfl rfl rfl (fun hg => ob_move (.inl rfl)) ?_
    refine RT.g rfl rfl rfl (fun hg => ob_call (.inl rfl) (c_ref15_Same (grpO keys args ks whole).1 (grpO keys args ks whole).1 (by have := grp_len keys args ks whole hn; omega) (grp_row keys args ks whole hK hks)) (.one (.inr ⟨_, rfl, fun h => h⟩) (.one (.inr ⟨_, rfl, fun h => h⟩) .nil))) ?_
    refine RT.t (ob_pickAnd rfl rfl rfl id) ?_
    refine RT.t (ob_assign rfl) ?_
    refine RT.nil ?_
    refine FinS.nil0 ?_
    repeat (first | refine JX.next ?_ | refine JX.normal_block ?_)
    refine J.sel [4] (.cons rfl .nil) ?_
    repeat refine J.seq ?_
    refine J.ret ?_
    repeat (first | refine JX.ret_pass ?_ | refine JX.ret_block ?_)
    exact JX.ret1is rfl rfl (by rw [(sameR_iff _ _).2 rfl]; simp)
end Go.Proofs.Ytgpikmonklainaa
