/- SsiLocks: its walk. No condition. -/
import Derived.Test.YtggmifnkgcladaaXLA
import Derived.Test.YtggmifnkgcladaaXPH
import Derived.Test.YtggmifnkgcladaaXG6
set_option maxRecDepth 20000
namespace Go.Proofs.Ytggmifnkgcladaa
open Go Go.Vc
open Go.Si Go.Vl
theorem c_numT (n : Int) : CallTy Try.prog f_law20_num [.is (.int .i64 n)] (.newSl (.cells (nmV n).cells.toArray ty_api_Value (0, 0)) 1 1) := CallL.toNew (c_law20_num n)
theorem md16 (i : Nat) : ((i : Nat) : Int).tmod 16 = ((i % 16 : Nat) : Int) := by
  rw [Int.tmod_eq_emod_of_nonneg (by omega)]; omega
theorem qu16 (i : Nat) (h : i < 256) : IntKind.i64.wrap (((i : Nat) : Int).tdiv 16) = ((i / 16 : Nat) : Int) := by
  rw [Int.tdiv_eq_ediv_of_nonneg (by omega), i64_wrap ⟨by omega, by omega⟩]; omega
theorem u8w (k : Nat) : IntKind.u8.wrap ((k : Nat) : Int) = ((UInt8.ofNat k).toNat : Int) := by
  rw [wrap_u8, UInt8.toNat_ofNat']; omega
theorem loS_bd : Bd loS2 2 2 := by
  have h := (lo_bd (l := [tR1]) (n := 1) (Nat.le_refl _)).read 2 tR1
  rw [loS_e2] at h; exact h
theorem loN_bd {l : List Rd} (h : l.length = 256) : Bd (loN1 l) 2 257 := by
  have h1 := (lo_bd (l := l) (n := 256) (Nat.le_of_eq h)).read 2 tR1
  rw [loN_e1 h] at h1; exact h1
theorem loM4_bd {l : List Rd} (h : l.length = 256) : Bd (loM4 l) 3 257 := by
  have h1 := (loM_bd (l := l) (n := 256) (Nat.le_of_eq h)).2.2.read 3 tR1
  rw [loM_e4] at h1; exact h1
theorem c_law20_SsiLocks (n : Int) (sm : Bool) : CallL Try.prog f_law20_SsiLocks [] [] [.is (.int .u8 n), .is (.bool sm)] (fun _ : Unit => True) (fun _ => []) (fun _ => .is (.bool true)) :=
CallL.of (fn := Try.f6) Try.func6 (n := 121) rfl rfl rfl (fun _ _ => by kernel_rfl) fun E W hb0 => by
  repeat refine J.seq ?_
  refine J.plain ?_
  refine JO.t (ob_assign rfl) rfl ?_
  refine JO.nil ?_
  repeat (first | refine JX.next ?_ | refine JX.normal_block ?_)
  refine J.sel [0, 1] (.cons rfl (.cons rfl .nil)) ?_
  repeat refine J.seq ?_
  refine J.plain ?_
  refine JO.callK (Lr := []) (c_law20_awake) rfl (.refl _) none_in .nil ?_
  rintro - -
  try dsimp only
  refine JO.t (ob_not rfl) rfl ?_
  refine JO.nil ?_
  repeat (first | refine JX.next ?_ | refine JX.normal_block ?_)
  refine J.sel [0, 1, 13] (.cons rfl (.cons rfl (.cons rfl .nil))) ?_
  repeat refine J.seq ?_
  refine J.cond rfl (fun ht13 => ?_) (fun ht13 => ?_)
  ·
    try simp only [decide_eq_true_eq, decide_eq_false_iff_not] at ht13
    exfalso
    cases ht13
  ·
    try simp only [decide_eq_true_eq, decide_eq_false_iff_not] at ht13
    refine J.skip ?_
    repeat (first | refine JX.next ?_ | refine JX.normal_block ?_)
    repeat refine J.seq ?_
    refine J.plain ?_
    refine JO.callK (Lr := []) (k_New) rfl (.refl _) none_in .nil ?_
    rintro ⟨b, ba⟩ -
    try dsimp only
    refine JO.t (ob_assign rfl) rfl ?_
    refine JO.nil ?_
    repeat (first | refine JX.next ?_ | refine JX.normal_block ?_)
    refine J.sel [0, 1, 5] (.cons rfl (.cons rfl (.cons rfl .nil))) ?_
    refine J.fact (WrF []) (fun E0 w0 _ _ => fun w1 hk v hv => by cases hv) ?_
    repeat refine J.seq ?_
    refine J.plain ?_
    refine JO.t (ob_move rfl) rfl ?_
    refine JO.callK (Lr := []) (k_BeginE SRel.new (Bd.nil.rm (by omega) (by omega)) (by omega) rfl (m := 0 + 1) rfl) rfl (.refl _) none_in (.one rfl .nil) ?_
    intro q1 hq1
    try dsimp only
    refine JO.t (ob_assign rfl) rfl ?_
    refine JO.nil ?_
    repeat (first | refine JX.next ?_ | refine JX.normal_block ?_)
    refine J.sel [0, 1, 5, 6] (.cons rfl (.cons rfl (.cons rfl (.cons rfl .nil)))) ?_
    repeat refine J.seq ?_
    refine J.plain ?_
    refine JO.t (ob_move rfl) rfl ?_
    refine JO.callK (Lr := []) (k_BeginE hq1 ((Bd.nil.begin 0).rm (by omega) (by omega)) (by omega) rfl (m := 1 + 1) rfl) rfl (.refl _) none_in (.one rfl .nil) ?_
    intro q2 hq2
    try dsimp only
    refine JO.t (ob_assign rfl) rfl ?_
    refine JO.nil ?_
    repeat (first | refine JX.next ?_ | refine JX.normal_block ?_)
    refine J.sel [0, 1, 5, 6, 7] (.cons rfl (.cons rfl (.cons rfl (.cons rfl (.cons rfl .nil))))) ?_
    repeat refine J.seq ?_
    refine J.plain ?_
    refine JO.t (ob_assign rfl) rfl ?_
    refine JO.nil ?_
    repeat (first | refine JX.next ?_ | refine JX.normal_block ?_)
    refine J.sel [0, 1, 5, 6, 7, 8] (.cons rfl (.cons rfl (.cons rfl (.cons rfl (.cons rfl (.cons rfl .nil)))))) ?_
    repeat refine J.seq ?_
    refine J.block ?_
    repeat refine J.seq ?_
    refine J.loopG (α := Nat × SS) (fun s => [(0, _), (1, _), (5, .is (.pointer (some ⟨b, 0, none⟩))), (6, _), (7, _), (8, .is (.int .i64 (s.1 : Nat)))]) (fun s => s.2.L b ba ++ []) (fun s => fun _ => True) (fun s => s.1 ≤ 256 ∧ SRel s.2 (loA (loL sm s.1)) 2 []) (fun s => 256 - s.1) (0, q2) [0, 1, 5, 6, 7, 8] (.cons rfl (.cons rfl (.cons rfl (.cons rfl (.cons rfl (.cons rfl .nil)))))) rfl (fun _ => trivial) ⟨Nat.zero_le _, by cases sm; exact hq2; exact hq2⟩ fun ⟨i, q⟩ ⟨hi, hS⟩ => ?_
    try dsimp only
    try dsimp only at q
    try dsimp only at hi
    try dsimp only at hS
    repeat refine J.seq ?_
    refine J.plain ?_
    refine JO.t (ob_move rfl) rfl ?_
    refine JO.t (ob_lss rfl rfl) rfl ?_
    refine JO.nil ?_
    repeat (first | refine JX.next ?_ | refine JX.normal_block ?_)
    refine J.sel [0, 1, 5, 6, 7, 8, 20] (.cons rfl (.cons rfl (.cons rfl (.cons rfl (.cons rfl (.cons rfl (.cons rfl .nil))))))) ?_
    repeat refine J.seq ?_
    refine J.cond rfl (fun ht20 => ?_) (fun ht20 => ?_)
    ·
      try simp only [decide_eq_true_eq, decide_eq_false_iff_not] at ht20
      refine J.skip ?_
      repeat (first | refine JX.next ?_ | refine JX.normal_block ?_)
      repeat refine J.seq ?_
      refine J.block ?_
      have hlt : i < 256 := by omega
      repeat refine J.seq ?_
      refine J.plain ?_
      refine JO.t (ob_move rfl) rfl ?_
      refine JO.t (ob_remv rfl rfl (by decide) (md16 i)) rfl ?_
      refine JO.t (ob_addc (cc := ((97 + i % 16 : Nat) : Int)) rfl rfl (by omega) (by omega) (by omega)) rfl ?_
      refine JO.t (ob_convIIe ⟨_, un_int⟩ un_uint8 rfl (u8w _)) rfl ?_
      refine JO.t (ob_move rfl) rfl ?_
      refine JO.t (ob_quov rfl rfl (by decide) (qu16 i hlt)) rfl ?_
      refine JO.t (ob_addc (cc := ((97 + i / 16 : Nat) : Int)) rfl rfl (by omega) (by omega) (by omega)) rfl ?_
      refine JO.t (ob_convIIe ⟨_, un_int⟩ un_uint8 rfl (u8w _)) rfl ?_
      refine JO.t (ob_buildSlice (cs := [_, _]) sl_sl_uint8 (by omega) (by omega) (.cons rfl (.cons rfl .nil)) rfl rfl rfl) rfl ?_
      refine JO.t (ob_strN (bs := [UInt8.ofNat (97 + i % 16), UInt8.ofNat (97 + i / 16)]) un_sl_uint8 un_uint8 un_string rfl rfl rfl) rfl ?_
      refine JO.t (ob_assign rfl) rfl ?_
      refine JO.nil ?_
      repeat (first | refine JX.next ?_ | refine JX.normal_block ?_)
      refine J.sel [0, 1, 5, 6, 7, 8, 9] (.cons rfl (.cons rfl (.cons rfl (.cons rfl (.cons rfl (.cons rfl (.cons rfl .nil))))))) ?_
      repeat refine J.seq ?_
      refine J.plain ?_
      refine JO.t (ob_move rfl) rfl ?_
      refine JO.t (ob_build (cs := [_, _, _, _, _, _, _, _]) sh_api_Read (.cons rfl (.cons rfl .nil)) rfl rfl) rfl ?_
      refine JO.alloc zo_api_Read rfl fun b10 => ?_
      refine JO.m (obm_store rfl rfl (by repeat (first | exact .here | apply Upd.there)) (by first | exact cnt_is rfl rfl | exact cnt_ex) (by first | exact cnt_is rfl rfl | exact cnt_ex | exact cnt_aggO) ss_api_Read) (by rfl) ?_
      refine JO.nil ?_
      repeat (first | refine JX.next ?_ | refine JX.normal_block ?_)
      refine J.sel [0, 1, 5, 6, 7, 8, 10] (.cons rfl (.cons rfl (.cons rfl (.cons rfl (.cons rfl (.cons rfl (.cons rfl .nil))))))) ?_
      repeat refine J.seq ?_
      refine J.plain ?_
      refine JO.t (ob_move rfl) rfl ?_
      refine JO.nil ?_
      repeat (first | refine JX.next ?_ | refine JX.normal_block ?_)
      refine J.sel [0, 1, 5, 6, 7, 8, 10, 35] (.cons rfl (.cons rfl (.cons rfl (.cons rfl (.cons rfl (.cons rfl (.cons rfl (.cons rfl .nil)))))))) ?_
      repeat refine J.seq ?_
      refine J.cond rfl (fun ht35 => ?_) (fun ht35 => ?_)
      ·
        try simp only [decide_eq_true_eq, decide_eq_false_iff_not] at ht35
        subst ht35
        repeat refine J.seq ?_
        refine J.front b10 (by repeat (first | exact .here | apply Front.there)) ?_
        refine J.reg1 hmx (by kernel_rfl) (by kernel_rfl) ?_
        refine RT.t (ob_move rfl) ?_
        refine RT.t (ob_call rfl (c_numT (i : Nat)) (.one rfl .nil)) ?_
        refine RT.t (ob_indexNew el_sl_api_Value rfl rfl (by omega) (by omega)) ?_
        refine RT.t (ob_loadNewN (vs := (nmV (i : Nat)).cells) sz_api_Value rfl rfl rfl) ?_
        refine RT.t (ob_move rfl) ?_
        refine RT.t (ob_call rfl (c_numT (i : Nat)) (.one rfl .nil)) ?_
        refine RT.t (ob_indexNew el_sl_api_Value rfl rfl (by omega) (by omega)) ?_
        refine RT.t (ob_loadNewN (vs := (nmV (i : Nat)).cells) sz_api_Value rfl rfl rfl) ?_
        refine RT.t (ob_build (cs := [_, _, _, _, _, _, _, _]) sh_api_Read (.cons rfl (.cons rfl (.cons rfl .nil))) rfl rfl) ?_
        refine RT.m rfl (obm_store rfl rfl (by repeat (first | exact .here | apply Upd.there)) (by first | exact cnt_is rfl rfl | exact cnt_ex) (by first | exact cnt_is rfl rfl | exact cnt_ex | exact cnt_aggO) ss_api_Read) (by rfl) ?_
        refine RT.nil ?_
        refine FinS.nil1 ?_
        repeat (first | refine JX.next ?_ | refine JX.normal_block ?_)
        refine J.sel [0, 1, 5, 6, 7, 8, 10] (.cons rfl (.cons rfl (.cons rfl (.cons rfl (.cons rfl (.cons rfl (.cons rfl .nil))))))) ?_
        try subst ht35
        repeat refine J.seq ?_
        refine J.plain ?_
        refine JO.t (ob_move rfl) rfl ?_
        refine JO.t (ob_move rfl) rfl ?_
        refine JO.t (ob_ldN (cs := [_, _, _, _, _, _, _, _]) sz_api_Read rfl rfl rfl) rfl ?_
        refine JO.callK (Lr := [_]) (k_Read hS ((lo_bd (loL_len (by omega))).rm (by omega) (by omega)) 1 _ (lo_step hlt)) rfl (List.Perm.trans (List.Perm.of_eq (congrArg _ (List.append_nil _))) (List.perm_append_singleton _ _).symm) (one_in (by repeat (first | exact List.mem_cons_self | apply List.mem_cons_of_mem))) (.one rfl (.one rfl (.one rfl .nil))) ?_
        intro q1 hq1
        try dsimp only
        refine JO.t (ob_neq rfl rfl) rfl ?_
        refine JO.nil ?_
        repeat (first | refine JX.next ?_ | refine JX.normal_block ?_)
        refine J.sel [0, 1, 5, 6, 7, 8, 49] (.cons rfl (.cons rfl (.cons rfl (.cons rfl (.cons rfl (.cons rfl (.cons rfl .nil))))))) ?_
        repeat refine J.seq ?_
        refine J.cond rfl (fun ht49 => ?_) (fun ht49 => ?_)
        ·
          try simp only [decide_eq_true_eq, decide_eq_false_iff_not] at ht49
          exfalso
          cases ht49
        ·
          try simp only [decide_eq_true_eq, decide_eq_false_iff_not] at ht49
          refine J.skip ?_
          repeat (first | refine JX.next ?_ | refine JX.normal_block ?_)
          refine J.subS (L' := q1.L b ba ++ []) ((List.Sublist.refl _).append (List.nil_sublist _)) ?_
          repeat refine J.seq ?_
          refine J.plain ?_
          refine JO.t (ob_move rfl) rfl ?_
          refine JO.t (ob_addc (cc := ((i + 1 : Nat) : Int)) rfl rfl (by omega) (by omega) (by omega)) rfl ?_
          refine JO.t (ob_assign rfl) rfl ?_
          refine JO.nil ?_
          repeat refine JX.normal_block ?_
          refine JX.roundG (x := (i, q)) (i + 1, q1) ?_ ?_ [0, 1, 5, 6, 7, 8] ?_ ?_ ?_ ?_
          · exact ⟨by simp only; omega, hq1⟩
          · exact (by simp only; omega)
          · exact (.cons rfl (.cons rfl (.cons rfl (.cons rfl (.cons rfl (.cons rfl .nil))))))
          · repeat (first | exact .all | exact .nil | refine Has.own (by repeat (first | exact .here | apply Tl.past | apply Tl.there)) ?_ | refine Has.cons (by repeat (first | exact .here | apply Pk.past | apply Pk.there)) ?_)
          · exact fun G hG => by repeat (first | exact hG | refine List.mem_cons_of_mem _ ?_)
          · exact fun _ _ _ => fun _ _ => trivial
      ·
        try simp only [decide_eq_true_eq, decide_eq_false_iff_not] at ht35
        refine J.skip ?_
        repeat (first | refine JX.next ?_ | refine JX.normal_block ?_)
        try subst ht35
        repeat refine J.seq ?_
        refine J.plain ?_
        refine JO.t (ob_move rfl) rfl ?_
        refine JO.t (ob_move rfl) rfl ?_
        refine JO.t (ob_ldN (cs := [_, _, _, _, _, _, _, _]) sz_api_Read rfl rfl rfl) rfl ?_
        refine JO.callK (Lr := [_]) (k_Read hS ((lo_bd (loL_len (by omega))).rm (by omega) (by omega)) 1 _ (lo_step hlt)) rfl (List.Perm.trans (List.Perm.of_eq (congrArg _ (List.append_nil _))) (List.perm_append_singleton _ _).symm) (one_in (by repeat (first | exact List.mem_cons_self | apply List.mem_cons_of_mem))) (.one rfl (.one rfl (.one rfl .nil))) ?_
        intro q1 hq1
        try dsimp only
        refine JO.t (ob_neq rfl rfl) rfl ?_
        refine JO.nil ?_
        repeat (first | refine JX.next ?_ | refine JX.normal_block ?_)
        refine J.sel [0, 1, 5, 6, 7, 8, 49] (.cons rfl (.cons rfl (.cons rfl (.cons rfl (.cons rfl (.cons rfl (.cons rfl .nil))))))) ?_
        repeat refine J.seq ?_
        refine J.cond rfl (fun ht49 => ?_) (fun ht49 => ?_)
        ·
          try simp only [decide_eq_true_eq, decide_eq_false_iff_not] at ht49
          exfalso
          cases ht49
        ·
          try simp only [decide_eq_true_eq, decide_eq_false_iff_not] at ht49
          refine J.skip ?_
          repeat (first | refine JX.next ?_ | refine JX.normal_block ?_)
          refine J.subS (L' := q1.L b ba ++ []) ((List.Sublist.refl _).append (List.nil_sublist _)) ?_
          repeat refine J.seq ?_
          refine J.plain ?_
          refine JO.t (ob_move rfl) rfl ?_
          refine JO.t (ob_addc (cc := ((i + 1 : Nat) : Int)) rfl rfl (by omega) (by omega) (by omega)) rfl ?_
          refine JO.t (ob_assign rfl) rfl ?_
          refine JO.nil ?_
          repeat refine JX.normal_block ?_
          refine JX.roundG (x := (i, q)) (i + 1, q1) ?_ ?_ [0, 1, 5, 6, 7, 8] ?_ ?_ ?_ ?_
          · exact ⟨by simp only; omega, hq1⟩
          · exact (by simp only; omega)
          · exact (.cons rfl (.cons rfl (.cons rfl (.cons rfl (.cons rfl (.cons rfl .nil))))))
          · repeat (first | exact .all | exact .nil | refine Has.own (by repeat (first | exact .here | apply Tl.past | apply Tl.there)) ?_ | refine Has.cons (by repeat (first | exact .here | apply Pk.past | apply Pk.there)) ?_)
          · exact fun G hG => by repeat (first | exact hG | refine List.mem_cons_of_mem _ ?_)
          · exact fun _ _ _ => fun _ _ => trivial
    ·
      try simp only [decide_eq_true_eq, decide_eq_false_iff_not] at ht20
      repeat refine J.seq ?_
      refine J.exit ?_
      repeat (first | refine JX.hit ?_ | refine JX.miss rfl ?_ | refine JX.exit_pass ?_)
      repeat (first | refine JX.next ?_ | refine JX.normal_block ?_)
      obtain rfl : i = 256 := by omega
      repeat refine J.seq ?_
      refine J.plain ?_
      refine JO.t (ob_move rfl) rfl ?_
      refine JO.nil ?_
      repeat (first | refine JX.next ?_ | refine JX.normal_block ?_)
      refine J.sel [0, 5, 6, 7, 50] (.cons rfl (.cons rfl (.cons rfl (.cons rfl (.cons rfl .nil))))) ?_
      repeat refine J.seq ?_
      refine J.cond rfl (fun ht50 => ?_) (fun ht50 => ?_)
      ·
        try simp only [decide_eq_true_eq, decide_eq_false_iff_not] at ht50
        subst ht50
        have hS : SRel q (loA [tR1]) 2 [] := hS
        repeat refine J.seq ?_
        refine J.plain ?_
        refine JO.t (ob_move rfl) rfl ?_
        refine JO.callK (Lr := []) (k_Kept hS ((lo_bd (l := [tR1]) (n := 1) (Nat.le_refl _)).rm (by omega) (by omega)) loS_k1) rfl (.refl _) none_in (.one rfl .nil) ?_
        rintro - -
        try dsimp only
        refine JO.t (ob_eql rfl rfl) rfl ?_
        refine JO.t (ob_move rfl) rfl ?_
        refine JO.gd rfl rfl rfl ?_
        refine JO.t (ob_move rfl) rfl ?_
        refine JO.gd rfl rfl rfl ?_
        refine JO.t (ob_move rfl) rfl ?_
        refine JO.gd rfl rfl rfl ?_
        refine JO.t (ob_build (cs := [_, _, _, _, _, _, _, _]) sh_api_Read (.cons rfl (.cons rfl .nil)) rfl rfl) rfl ?_
        refine JO.gd rfl rfl rfl ?_
        refine JO.callK (Lr := []) (k_Read hS ((lo_bd (l := [tR1]) (n := 1) (Nat.le_refl _)).rm (by omega) (by omega)) 2 tR1 loS_e2) rfl (.refl _) (one_in (by repeat (first | exact List.mem_cons_self | apply List.mem_cons_of_mem))) (.one rfl (.one rfl (.one rfl .nil))) ?_
        intro q1 hq1
        try dsimp only
        refine JO.gd rfl rfl rfl ?_
        refine JO.t (ob_eql rfl rfl) rfl ?_
        refine JO.t (ob_pickT rfl rfl) rfl ?_
        refine JO.t (ob_move rfl) rfl ?_
        refine JO.gd rfl rfl rfl ?_
        refine JO.t (ob_move rfl) rfl ?_
        refine JO.gd rfl rfl rfl ?_
        refine JO.callK (Lr := []) (k_Kept hq1 (loS_bd.rm (by omega) (by omega)) loS_k2) rfl (.refl _) none_in (.one rfl .nil) ?_
        rintro - -
        try dsimp only
        refine JO.gd rfl rfl rfl ?_
        refine JO.t (ob_eql rfl rfl) rfl ?_
        refine JO.t (ob_pickT rfl rfl) rfl ?_
        refine JO.t (ob_assign rfl) rfl ?_
        refine JO.nil ?_
        repeat (first | refine JX.next ?_ | refine JX.normal_block ?_)
        refine J.sel [4] (.cons rfl .nil) ?_
        repeat refine J.seq ?_
        refine J.ret ?_
        repeat (first | refine JX.ret_pass ?_ | refine JX.ret_block ?_)
        exact JX.retL1 (L1 := fun _ : Unit => []) (R := fun _ => .is (.bool true)) rfl () trivial (pm_nil _) rfl rfl hb0 rfl (Sub.isEq (rfl))
      ·
        try simp only [decide_eq_true_eq, decide_eq_false_iff_not] at ht50
        refine J.skip ?_
        repeat (first | refine JX.next ?_ | refine JX.normal_block ?_)
        obtain rfl : sm = false := by simpa using ht50
        have hl : (loL false 256).length = 256 := lN_len
        repeat refine J.seq ?_
        refine J.plain ?_
        refine JO.t (ob_move rfl) rfl ?_
        refine JO.callK (Lr := []) (k_Kept hS ((lo_bd (loL_len (Nat.le_refl _))).rm (by omega) (by omega)) ((lo_kept _).trans hl)) rfl (.refl _) none_in (.one rfl .nil) ?_
        rintro - -
        try dsimp only
        refine JO.t (ob_neq rfl rfl) rfl ?_
        refine JO.nil ?_
        repeat (first | refine JX.next ?_ | refine JX.normal_block ?_)
        refine J.sel [0, 5, 6, 7, 68] (.cons rfl (.cons rfl (.cons rfl (.cons rfl (.cons rfl .nil))))) ?_
        repeat refine J.seq ?_
        refine J.cond rfl (fun ht68 => ?_) (fun ht68 => ?_)
        ·
          try simp only [decide_eq_true_eq, decide_eq_false_iff_not] at ht68
          exfalso
          exact absurd ht68 (by decide)
        ·
          try simp only [decide_eq_true_eq, decide_eq_false_iff_not] at ht68
          refine J.skip ?_
          repeat (first | refine JX.next ?_ | refine JX.normal_block ?_)
          repeat refine J.seq ?_
          refine J.plain ?_
          refine JO.t (ob_move rfl) rfl ?_
          refine JO.t (ob_rem rfl rfl (by first | decide | (simp at hg; omega) | simp_all)) rfl ?_
          refine JO.t (ob_eql rfl rfl) rfl ?_
          refine JO.nil ?_
          repeat (first | refine JX.next ?_ | refine JX.normal_block ?_)
          refine J.sel [5, 6, 7, 71] (.cons rfl (.cons rfl (.cons rfl (.cons rfl .nil)))) ?_
          repeat refine J.seq ?_
          refine J.cond rfl (fun ht71 => ?_) (fun ht71 => ?_)
          ·
            try simp only [decide_eq_true_eq, decide_eq_false_iff_not] at ht71
            repeat refine J.seq ?_
            refine J.plain ?_
            refine JO.t (ob_move rfl) rfl ?_
            refine JO.t (ob_move rfl) rfl ?_
            refine JO.t (ob_build (cs := [_, _, _, _, _, _, _, _]) sh_api_Read (.cons rfl (.cons rfl .nil)) rfl rfl) rfl ?_
            refine JO.callK (Lr := []) (k_Read hS ((lo_bd (loL_len (Nat.le_refl _))).rm (by omega) (by omega)) 2 tR1 (loN_e1 hl)) rfl (.refl _) (one_in (by repeat (first | exact List.mem_cons_self | apply List.mem_cons_of_mem))) (.one rfl (.one rfl (.one rfl .nil))) ?_
            intro q1 hq1
            try dsimp only
            refine JO.t (ob_eql rfl rfl) rfl ?_
            refine JO.t (ob_move rfl) rfl ?_
            refine JO.gd rfl rfl rfl ?_
            refine JO.t (ob_move rfl) rfl ?_
            refine JO.gd rfl rfl rfl ?_
            refine JO.t (ob_move rfl) rfl ?_
            refine JO.gd rfl rfl rfl ?_
            refine JO.t (ob_build (cs := [_, _, _, _, _, _, _, _]) sh_api_Read (.cons rfl (.cons rfl .nil)) rfl rfl) rfl ?_
            refine JO.gd rfl rfl rfl ?_
            refine JO.callK (Lr := []) (k_Read hq1 ((loN_bd hl).rm (by omega) (by omega)) 2 tR1 (loN_e2 _)) rfl (.refl _) (one_in (by repeat (first | exact List.mem_cons_self | apply List.mem_cons_of_mem))) (.one rfl (.one rfl (.one rfl .nil))) ?_
            intro q2 hq2
            try dsimp only
            refine JO.gd rfl rfl rfl ?_
            refine JO.t (ob_eql rfl rfl) rfl ?_
            refine JO.t (ob_pickT rfl rfl) rfl ?_
            refine JO.t (ob_move rfl) rfl ?_
            refine JO.gd rfl rfl rfl ?_
            refine JO.t (ob_move rfl) rfl ?_
            refine JO.gd rfl rfl rfl ?_
            refine JO.callK (Lr := []) (k_Kept hq2 ((loN_bd hl).rm (by omega) (by omega)) (loN_k1 hl)) rfl (.refl _) none_in (.one rfl .nil) ?_
            rintro - -
            try dsimp only
            refine JO.gd rfl rfl rfl ?_
            refine JO.t (ob_eql rfl rfl) rfl ?_
            refine JO.t (ob_pickT rfl rfl) rfl ?_
            refine JO.t (ob_assign rfl) rfl ?_
            refine JO.nil ?_
            repeat (first | refine JX.next ?_ | refine JX.normal_block ?_)
            refine J.sel [4] (.cons rfl .nil) ?_
            repeat refine J.seq ?_
            refine J.ret ?_
            repeat (first | refine JX.ret_pass ?_ | refine JX.ret_block ?_)
            exact JX.retL1 (L1 := fun _ : Unit => []) (R := fun _ => .is (.bool true)) rfl () trivial (pm_nil _) rfl rfl hb0 rfl (Sub.isEq (rfl))
          ·
            try simp only [decide_eq_true_eq, decide_eq_false_iff_not] at ht71
            refine J.skip ?_
            repeat (first | refine JX.next ?_ | refine JX.normal_block ?_)
            repeat refine J.seq ?_
            refine J.plain ?_
            refine JO.t (ob_move rfl) rfl ?_
            refine JO.t (ob_move rfl) rfl ?_
            refine JO.callK (Lr := []) (k_Commit hS (by omega) 1 (loM_e1 _)) rfl (.refl _) none_in (.one rfl (.one rfl .nil)) ?_
            intro q1 hq1
            try dsimp only
            refine JO.t (ob_neq rfl rfl) rfl ?_
            refine JO.t (ob_move rfl) rfl ?_
            refine JO.gd rfl rfl rfl ?_
            refine JO.t (ob_move rfl) rfl ?_
            refine JO.gd rfl rfl rfl ?_
            refine JO.callK (Lr := []) (k_Kept hq1 ((loM_bd (Nat.le_of_eq hl)).1.rm (by omega) (by omega)) (loM_k1 hl)) rfl (.refl _) none_in (.one rfl .nil) ?_
            rintro - -
            try dsimp only
            refine JO.gd rfl rfl rfl ?_
            refine JO.t (ob_neq rfl rfl) rfl ?_
            refine JO.t (ob_pickF rfl rfl) rfl ?_
            refine JO.nil ?_
            repeat (first | refine JX.next ?_ | refine JX.normal_block ?_)
            refine J.sel [5, 7, 97] (.cons rfl (.cons rfl (.cons rfl .nil))) ?_
            repeat refine J.seq ?_
            refine J.cond rfl (fun ht97 => ?_) (fun ht97 => ?_)
            ·
              try simp only [decide_eq_true_eq, decide_eq_false_iff_not] at ht97
              exfalso
              exact absurd ht97 (by decide)
            ·
              try simp only [decide_eq_true_eq, decide_eq_false_iff_not] at ht97
              refine J.skip ?_
              repeat (first | refine JX.next ?_ | refine JX.normal_block ?_)
              repeat refine J.seq ?_
              refine J.plain ?_
              refine JO.t (ob_move rfl) rfl ?_
              refine JO.callK (Lr := []) (k_BeginE hq1 ((loM_bd (Nat.le_of_eq hl)).1.rm (by omega) (by omega)) (by omega) (loM_e2 _) (m := 3) rfl) rfl (.refl _) none_in (.one rfl .nil) ?_
              intro q2 hq2
              try dsimp only
              refine JO.t (ob_assign rfl) rfl ?_
              refine JO.nil ?_
              repeat (first | refine JX.next ?_ | refine JX.normal_block ?_)
              refine J.sel [5, 7, 11] (.cons rfl (.cons rfl (.cons rfl .nil))) ?_
              repeat refine J.seq ?_
              refine J.plain ?_
              refine JO.t (ob_move rfl) rfl ?_
              refine JO.t (ob_move rfl) rfl ?_
              refine JO.callK (Lr := []) (k_Abort hq2 2 (loM_e3 _)) rfl (.refl _) none_in (.one rfl (.one rfl .nil)) ?_
              intro q3 hq3
              try dsimp only
              refine JO.t (ob_eql rfl rfl) rfl ?_
              refine JO.t (ob_move rfl) rfl ?_
              refine JO.gd rfl rfl rfl ?_
              refine JO.t (ob_move rfl) rfl ?_
              refine JO.gd rfl rfl rfl ?_
              refine JO.callK (Lr := []) (k_Kept hq3 ((loM_bd (Nat.le_of_eq hl)).2.2.rm (by omega) (by omega)) (loM_k3 _)) rfl (.refl _) none_in (.one rfl .nil) ?_
              rintro - -
              try dsimp only
              refine JO.gd rfl rfl rfl ?_
              refine JO.t (ob_eql rfl rfl) rfl ?_
              refine JO.t (ob_pickT rfl rfl) rfl ?_
              refine JO.t (ob_move rfl) rfl ?_
              refine JO.gd rfl rfl rfl ?_
              refine JO.t (ob_move rfl) rfl ?_
              refine JO.gd rfl rfl rfl ?_
              refine JO.t (ob_move rfl) rfl ?_
              refine JO.gd rfl rfl rfl ?_
              refine JO.t (ob_build (cs := [_, _, _, _, _, _, _, _]) sh_api_Read (.cons rfl (.cons rfl .nil)) rfl rfl) rfl ?_
              refine JO.gd rfl rfl rfl ?_
              refine JO.callK (Lr := []) (k_Read hq3 ((loM_bd (Nat.le_of_eq hl)).2.2.rm (by omega) (by omega)) 3 tR1 (loM_e4 _)) rfl (.refl _) (one_in (by repeat (first | exact List.mem_cons_self | apply List.mem_cons_of_mem))) (.one rfl (.one rfl (.one rfl .nil))) ?_
              intro q4 hq4
              try dsimp only
              refine JO.gd rfl rfl rfl ?_
              refine JO.t (ob_eql rfl rfl) rfl ?_
              refine JO.t (ob_pickT rfl rfl) rfl ?_
              refine JO.t (ob_move rfl) rfl ?_
              refine JO.gd rfl rfl rfl ?_
              refine JO.t (ob_move rfl) rfl ?_
              refine JO.gd rfl rfl rfl ?_
              refine JO.callK (Lr := []) (k_Kept hq4 ((loM4_bd hl).rm (by omega) (by omega)) (loM_k4 _)) rfl (.refl _) none_in (.one rfl .nil) ?_
              rintro - -
              try dsimp only
              refine JO.gd rfl rfl rfl ?_
              refine JO.t (ob_eql rfl rfl) rfl ?_
              refine JO.t (ob_pickT rfl rfl) rfl ?_
              refine JO.t (ob_assign rfl) rfl ?_
              refine JO.nil ?_
              repeat (first | refine JX.next ?_ | refine JX.normal_block ?_)
              refine J.sel [4] (.cons rfl .nil) ?_
              repeat refine J.seq ?_
              refine J.ret ?_
              repeat (first | refine JX.ret_pass ?_ | refine JX.ret_block ?_)
              exact JX.retL1 (L1 := fun _ : Unit => []) (R := fun _ => .is (.bool true)) rfl () trivial (pm_nil _) rfl rfl hb0 rfl (Sub.isEq (rfl))
end Go.Proofs.Ytggmifnkgcladaa
