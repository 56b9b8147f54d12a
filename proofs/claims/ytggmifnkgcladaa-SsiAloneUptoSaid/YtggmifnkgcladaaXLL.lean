/- SsiAlone: its walk. No condition. -/
import Derived.Test.YtggmifnkgcladaaXLA
import Derived.Test.YtggmifnkgcladaaXPG
set_option maxRecDepth 20000
namespace Go.Proofs.Ytggmifnkgcladaa
open Go Go.Vc
open Go.Si Go.Vl
abbrev elR : Rd := ⟨⟨#[101, 108, 115, 101, 119, 104, 101, 114, 101]⟩, -1, ⟨0, 0, ⟨#[]⟩⟩, ⟨0, 0, ⟨#[]⟩⟩⟩
def elA : List AT := upA (beginA [] 0) 0 (aRd elR)
theorem el_e : readA (beginA [] 0) 1 elR = (elA, 0) := ((AlI.one (n := 0)).read (by decide +kernel) elR).1
theorem el_i : AlI (beginA elA 1) 2 true 1 := AlI.beside (by decide +kernel)
theorem el_k : keptA (beginA elA 1) ≤ 200 := by decide +kernel
theorem el_0 : keptA (beginA [] 0) ≤ 0 := by decide +kernel
theorem el_b : Bd elA 102 1 := by
  have h := (Bd.nil.begin 0).read 1 elR
  rw [el_e] at h
  exact h.mono (by omega) (by omega)
theorem el_b2 : Bd (beginA elA 1) 102 (2 * 0 + 1) := by
  have h := (Bd.nil.begin 0).read 1 elR
  rw [el_e] at h
  exact (h.begin 1).mono (by omega) (by omega)
theorem c_law20_SsiAloneT (ops : List OpA) (hops : ScB ops) : CallL Try.prog f_law20_SsiAlone [] [] [.rep (ScR ops), .is (.bool true)] (fun _ : Unit => True) (fun _ => []) (fun _ => .is (.bool true)) :=
CallL.of (fn := Try.f5) Try.func5 (n := 90) rfl rfl rfl (fun _ _ => by kernel_rfl) fun E W hb0 => by
  refine J.openSc (s := 0) rfl (fun a cap b0 o0 ha => ?_)
  repeat refine J.seq ?_
  refine J.plain ?_
  refine JO.t (ob_assign rfl) rfl ?_
  refine JO.nil ?_
  repeat (first | refine JX.next ?_ | refine JX.normal_block ?_)
  refine J.sel [0, 1] (.cons rfl (.cons rfl .nil)) ?_
  repeat refine J.seq ?_
  refine J.plain ?_
  refine JO.callK (Lr := []) (c_law20_awake) rfl (.refl _) none_in .nil ?_
  rintro - -
  try dsimp only
  refine JO.t (ob_not rfl) rfl ?_
  refine JO.nil ?_
  repeat (first | refine JX.next ?_ | refine JX.normal_block ?_)
  refine J.sel [0, 1, 11] (.cons rfl (.cons rfl (.cons rfl .nil))) ?_
  repeat refine J.seq ?_
  refine J.cond rfl (fun ht11 => ?_) (fun ht11 => ?_)
  ·
    try simp only [decide_eq_true_eq, decide_eq_false_iff_not] at ht11
    exfalso
    cases ht11
  ·
    try simp only [decide_eq_true_eq, decide_eq_false_iff_not] at ht11
    refine J.skip ?_
    repeat (first | refine JX.next ?_ | refine JX.normal_block ?_)
    repeat refine J.seq ?_
    refine J.plain ?_
    refine JO.callK (Lr := []) (k_New) rfl (.refl _) none_in .nil ?_
    rintro ⟨b, ba⟩ -
    try dsimp only
    refine JO.t (ob_assign rfl) rfl ?_
    refine JO.nil ?_
    repeat (first | refine JX.next ?_ | refine JX.normal_block ?_)
    refine J.sel [0, 1, 5] (.cons rfl (.cons rfl (.cons rfl .nil))) ?_
    refine J.fact (WrF []) (fun E0 w0 _ _ => fun w1 hk v hv => by cases hv) ?_
    repeat refine J.seq ?_
    refine J.plain ?_
    refine JO.t (ob_move rfl) rfl ?_
    refine JO.t (ob_move rfl) rfl ?_
    refine JO.gd rfl rfl rfl ?_
    refine JO.t (ob_move rfl) rfl ?_
    refine JO.gd rfl rfl rfl ?_
    refine JO.t (ob_move rfl) rfl ?_
    refine JO.gd rfl rfl rfl ?_
    refine JO.callK (Lr := []) (k_BeginE SRel.new (Bd.nil.rm (by omega) (by omega)) (by omega) rfl (m := 0 + 1) rfl) rfl (.refl _) none_in (.one rfl .nil) ?_
    intro q1 hq1
    try dsimp only
    refine JO.gd rfl rfl rfl ?_
    refine JO.t (ob_build (cs := [_, _, _, _, _, _, _, _]) sh_api_Read (.cons rfl (.cons rfl .nil)) rfl rfl) rfl ?_
    refine JO.gd rfl rfl rfl ?_
    refine JO.callK (Lr := []) (k_Read hq1 ((Bd.nil.begin 0).rm (by omega) (by omega)) 1 elR el_e) rfl (.refl _) (one_in (by repeat (first | exact List.mem_cons_self | apply List.mem_cons_of_mem))) (.one rfl (.one rfl (.one rfl .nil))) ?_
    intro q2 hq2
    try dsimp only
    refine JO.gd rfl rfl rfl ?_
    refine JO.t (ob_neq rfl rfl) rfl ?_
    refine JO.t (ob_pickT rfl rfl) rfl ?_
    refine JO.nil ?_
    repeat (first | refine JX.next ?_ | refine JX.normal_block ?_)
    refine J.sel [0, 1, 5, 21] (.cons rfl (.cons rfl (.cons rfl (.cons rfl .nil)))) ?_
    repeat refine J.seq ?_
    refine J.cond rfl (fun ht21 => ?_) (fun ht21 => ?_)
    ·
      try simp only [decide_eq_true_eq, decide_eq_false_iff_not] at ht21
      exfalso
      cases ht21
    ·
      try simp only [decide_eq_true_eq, decide_eq_false_iff_not] at ht21
      refine J.skip ?_
      repeat (first | refine JX.next ?_ | refine JX.normal_block ?_)
      repeat refine J.seq ?_
      refine J.plain ?_
      refine JO.t (ob_move rfl) rfl ?_
      refine JO.callK (Lr := []) (k_BeginE hq2 (el_b.rm (by omega) (by omega)) (by omega) rfl (m := 1 + 1) rfl) rfl (.refl _) none_in (.one rfl .nil) ?_
      intro q3 hq3
      try dsimp only
      refine JO.t (ob_assign rfl) rfl ?_
      refine JO.nil ?_
      repeat (first | refine JX.next ?_ | refine JX.normal_block ?_)
      refine J.sel [0, 1, 5, 6] (.cons rfl (.cons rfl (.cons rfl (.cons rfl .nil)))) ?_
      repeat refine J.seq ?_
      refine J.plain ?_
      refine JO.t (ob_assign rfl) rfl ?_
      refine JO.nil ?_
      repeat (first | refine JX.next ?_ | refine JX.normal_block ?_)
      refine J.sel [0, 1, 5, 6, 7] (.cons rfl (.cons rfl (.cons rfl (.cons rfl (.cons rfl .nil))))) ?_
      repeat refine J.seq ?_
      refine J.plain ?_
      refine JO.t (ob_assign rfl) rfl ?_
      refine JO.nil ?_
      repeat (first | refine JX.next ?_ | refine JX.normal_block ?_)
      refine J.sel [0, 1, 5, 6, 7, 8] (.cons rfl (.cons rfl (.cons rfl (.cons rfl (.cons rfl (.cons rfl .nil)))))) ?_
      repeat refine J.seq ?_
      refine J.block ?_
      repeat refine J.seq ?_
      refine J.loopG (α := LSt × Nat × Nat) (fun s => [(0, _), (1, _), (5, .is (.pointer (some ⟨b, 0, none⟩))), (6, .is (.int .i64 ((s.2.1 + 1 : Nat) : Int))), (7, .is (.int .i64 (s.2.2 : Nat))), (8, .is (.int .i64 (s.1.i : Nat)))]) (fun s => s.1.q.L b ba ++ []) (fun s => WrF s.1.U) (fun s => s.1.i ≤ ops.length ∧ s.1.i ≤ 100 ∧ SRel s.1.q s.1.A s.1.n s.1.U ∧ AlI s.1.A s.1.n true s.2.1 ∧ keptA s.1.A ≤ 200 ∧ s.2.2 ≤ 40 ∧ Bd s.1.A 102 (2 * s.1.i + 1) ∧ s.1.n ≤ 2 * s.1.i + 4 ∧ s.2.1 ≤ s.1.i + 1) (fun s => ops.length - s.1.i) ⟨⟨0, q3, beginA elA 1, 1 + 1, []⟩, 1, 0⟩ [0, 1, 5, 6, 7, 8] (.cons rfl (.cons rfl (.cons rfl (.cons rfl (.cons rfl (.cons rfl .nil)))))) rfl (fun w v hv => by cases hv) ⟨Nat.zero_le _, Nat.zero_le _, hq3, el_i, el_k, Nat.zero_le _, el_b2, by simp only; omega, by simp only; omega⟩ fun ⟨⟨i, q, A, n, U⟩, t, m⟩ ⟨hi, hi100, hS, hI, hk, hm, hB, hn, ht⟩ => ?_
      try dsimp only
      try dsimp only at q
      try dsimp only at A
      try dsimp only at n
      try dsimp only at U
      try dsimp only at t
      try dsimp only at m
      try dsimp only at hi
      try dsimp only at hi100
      try dsimp only at hS
      try dsimp only at hI
      try dsimp only at hk
      try dsimp only at hm
      try dsimp only at hB
      try dsimp only at hn
      try dsimp only at ht
      repeat refine J.seq ?_
      refine J.reg0 hmx (by kernel_rfl) (by kernel_rfl) ?_
      refine RT.t (ob_move rfl) ?_
      refine RT.t (ob_move rfl) ?_
      refine RT.t (ob_len un_sl_cadastrelaw20_Op rfl) ?_
      refine RT.t (ob_lss rfl rfl) ?_
      refine RT.t (ob_move rfl) ?_
      refine RT.g rfl rfl rfl (fun hg => ob_move (.inl rfl)) ?_
      refine RT.g rfl rfl rfl (fun hg => ob_lss (.inr ⟨_, rfl, fun h => h⟩) (.inl rfl)) ?_
      refine RT.t (ob_pickAnd rfl rfl rfl id) ?_
      refine RT.nil ?_
      refine FinS.nil0 ?_
      repeat (first | refine JX.next ?_ | refine JX.normal_block ?_)
      refine J.sel [0, 1, 5, 6, 7, 8, 31] (.cons rfl (.cons rfl (.cons rfl (.cons rfl (.cons rfl (.cons rfl (.cons rfl .nil))))))) ?_
      repeat refine J.seq ?_
      refine J.cond rfl (fun ht31 => ?_) (fun ht31 => ?_)
      ·
        try simp only [decide_eq_true_eq, decide_eq_false_iff_not] at ht31
        refine J.skip ?_
        repeat (first | refine JX.next ?_ | refine JX.normal_block ?_)
        repeat refine J.seq ?_
        refine J.block ?_
        have hlt : i < ops.length ∧ i < 100 := by simp at ht31; omega
        repeat refine J.seq ?_
        refine J.plain ?_
        refine JO.t (ob_move rfl) rfl ?_
        refine JO.t (ob_move rfl) rfl ?_
        refine JO.t (ob_indexAddr el_sl_cadastrelaw20_Op rfl (ha (by omega)) rfl (by omega) (by omega)) rfl ?_
        refine JO.t (ob_loadG (enc := OpA.cells) (sz := 13) (i := i) (y := (opAt ops i)) (cs := OpA.cells (opAt ops i)) sz_cadastrelaw20_Op rfl (by repeat (first | exact List.mem_cons_self | apply List.mem_cons_of_mem)) (ha (by omega)) (opAt_get (by omega)) (by omega) rfl) rfl ?_
        refine JO.alloc zo_cadastrelaw20_Op rfl fun b9 => ?_
        refine JO.m (obm_store rfl rfl (by repeat (first | exact .here | apply Upd.there)) (by first | exact cnt_is rfl rfl | exact cnt_ex) (by first | exact cnt_is rfl rfl | exact cnt_ex | exact cnt_aggO) ss_cadastrelaw20_Op) (by rfl) ?_
        refine JO.nil ?_
        repeat (first | refine JX.next ?_ | refine JX.normal_block ?_)
        refine J.sel [0, 1, 5, 6, 7, 8, 9] (.cons rfl (.cons rfl (.cons rfl (.cons rfl (.cons rfl (.cons rfl (.cons rfl .nil))))))) ?_
        repeat refine J.seq ?_
        refine J.plain ?_
        refine JO.t (ob_fieldAddr fo_cadastrelaw20_Op_3 rfl) rfl ?_
        refine JO.t (ob_fieldAddr fo_api_Write_0 rfl) rfl ?_
        refine JO.t (ob_ld1 sz_string rfl rfl) rfl ?_
        refine JO.t (ob_seql rfl rfl) rfl ?_
        refine JO.nil ?_
        repeat (first | refine JX.next ?_ | refine JX.normal_block ?_)
        refine J.sel [0, 1, 5, 6, 7, 8, 9, 41] (.cons rfl (.cons rfl (.cons rfl (.cons rfl (.cons rfl (.cons rfl (.cons rfl (.cons rfl .nil)))))))) ?_
        repeat refine J.seq ?_
        refine J.cond rfl (fun ht41 => ?_) (fun ht41 => ?_)
        ·
          try simp only [decide_eq_true_eq, decide_eq_false_iff_not] at ht41
          repeat refine J.seq ?_
          refine J.plain ?_
          refine JO.t (ob_assign rfl) rfl ?_
          refine JO.nil ?_
          repeat (first | refine JX.next ?_ | refine JX.normal_block ?_)
          refine J.sel [4] (.cons rfl .nil) ?_
          repeat refine J.seq ?_
          refine J.ret ?_
          repeat (first | refine JX.ret_pass ?_ | refine JX.ret_block ?_)
          exact JX.retL1 (L1 := fun _ : Unit => []) (R := fun _ => .is (.bool true)) rfl () trivial (pm_nil _) rfl rfl hb0 rfl (Sub.isEq (rfl))
        ·
          try simp only [decide_eq_true_eq, decide_eq_false_iff_not] at ht41
          refine J.skip ?_
          repeat (first | refine JX.next ?_ | refine JX.normal_block ?_)
          obtain ⟨A1, A2, e1, e2, hI2, hk2, hB1, hB2⟩ := hI.step (by omega) hB (opAt ops i).r (opAt ops i).w.abs ht41
          repeat refine J.seq ?_
          refine J.plain ?_
          refine JO.t (ob_move rfl) rfl ?_
          refine JO.t (ob_addc (cc := ((m + 1 : Nat) : Int)) rfl rfl (by omega) (by omega) (by omega)) rfl ?_
          refine JO.t (ob_assign rfl) rfl ?_
          refine JO.nil ?_
          repeat (first | refine JX.next ?_ | refine JX.normal_block ?_)
          refine J.sel [0, 1, 5, 6, 7, 8, 9] (.cons rfl (.cons rfl (.cons rfl (.cons rfl (.cons rfl (.cons rfl (.cons rfl .nil))))))) ?_
          repeat refine J.seq ?_
          refine J.plain ?_
          refine JO.t (ob_move rfl) rfl ?_
          refine JO.t (ob_move rfl) rfl ?_
          refine JO.t (ob_fieldAddr fo_cadastrelaw20_Op_2 rfl) rfl ?_
          refine JO.t (ob_ldN (cs := [_, _, _, _, _, _, _, _]) sz_api_Read rfl rfl rfl) rfl ?_
          refine JO.callK (Lr := [⟨b9, ty_cadastrelaw20_Op, .is (.agg (OpA.cells (opAt ops i)).toArray)⟩]) (k_Read hS (hB.rm (by omega) (by omega)) _ (opAt ops i).r e1) rfl (List.Perm.trans (List.Perm.of_eq (congrArg _ (List.append_nil _))) (List.perm_append_singleton _ _).symm) (one_in (by repeat (first | exact List.mem_cons_self | apply List.mem_cons_of_mem))) (.one rfl (.one rfl (.one rfl .nil))) ?_
          intro q1 hq1
          try dsimp only
          refine JO.t (ob_neq rfl rfl) rfl ?_
          refine JO.t (ob_move rfl) rfl ?_
          refine JO.gd rfl rfl rfl ?_
          refine JO.t (ob_move rfl) rfl ?_
          refine JO.gd rfl rfl rfl ?_
          refine JO.t (ob_move rfl) rfl ?_
          refine JO.gd rfl rfl rfl ?_
          refine JO.t (ob_fieldAddr fo_cadastrelaw20_Op_3 rfl) rfl ?_
          refine JO.gd rfl rfl rfl ?_
          refine JO.t (ob_ldN (cs := [_, _, _]) sz_api_Write rfl rfl rfl) rfl ?_
          refine JO.gd rfl rfl rfl ?_
          refine JO.callK (Lr := [⟨b9, ty_cadastrelaw20_Op, .is (.agg (OpA.cells (opAt ops i)).toArray)⟩]) (k_WriteF (Us := wsO ops) hq1 (hB1.rm (by omega) (by omega)) _ (opAt ops i).w (opAt_w (by omega)) (hops.o _ (opAt_mem (by omega))) (hops.n _ (opAt_mem (by omega))) e2) rfl (.refl _) (two_in (by repeat (first | exact List.mem_cons_self | apply List.mem_cons_of_mem)) (by repeat (first | exact List.mem_cons_self | apply List.mem_cons_of_mem))) (.one rfl (.one rfl (.one rfl .nil))) ?_
          rintro ⟨q2, x1⟩ hq2
          try dsimp only
          refine JO.open_ (s := 55) (R := WrR' (0) x1) rfl ?_
          rintro _ ⟨_, rfl, _⟩
          refine JO.fact (WrF (x1 :: U)) (fun E0 w0 hG _ => wr_more (e := 0) hG List.mem_cons_self (by repeat (first | exact List.mem_cons_self | apply List.mem_cons_of_mem))) ?_
          refine JO.gd rfl rfl rfl ?_
          refine JO.t (ob_neq rfl rfl) rfl ?_
          refine JO.t (ob_pickF rfl rfl) rfl ?_
          refine JO.nil ?_
          repeat (first | refine JX.next ?_ | refine JX.normal_block ?_)
          refine J.sel [0, 1, 5, 6, 7, 8, 9, 57] (.cons rfl (.cons rfl (.cons rfl (.cons rfl (.cons rfl (.cons rfl (.cons rfl (.cons rfl .nil)))))))) ?_
          repeat refine J.seq ?_
          refine J.cond rfl (fun ht57 => ?_) (fun ht57 => ?_)
          ·
            try simp only [decide_eq_true_eq, decide_eq_false_iff_not] at ht57
            exfalso
            cases ht57
          ·
            try simp only [decide_eq_true_eq, decide_eq_false_iff_not] at ht57
            refine J.skip ?_
            repeat (first | refine JX.next ?_ | refine JX.normal_block ?_)
            repeat refine J.seq ?_
            refine J.reg0 hmx (by kernel_rfl) (by kernel_rfl) ?_
            refine RT.t (ob_fieldAddr fo_cadastrelaw20_Op_0 rfl) ?_
            refine RT.t (ob_ld1 sz_int rfl rfl) ?_
            refine RT.t (ob_eql rfl rfl) ?_
            refine RT.t (ob_move rfl) ?_
            refine RT.g rfl rfl rfl (fun hg => ob_move (.inl rfl)) ?_
            refine RT.g rfl rfl rfl (fun hg => ob_gtr (.inr ⟨_, rfl, fun h => h⟩) (.inl rfl)) ?_
            refine RT.t (ob_pickOr rfl rfl rfl id) ?_
            refine RT.nil ?_
            refine FinS.nil0 ?_
            repeat (first | refine JX.next ?_ | refine JX.normal_block ?_)
            refine J.sel [0, 1, 5, 6, 7, 8, 64] (.cons rfl (.cons rfl (.cons rfl (.cons rfl (.cons rfl (.cons rfl (.cons rfl .nil))))))) ?_
            repeat refine J.seq ?_
            refine J.cond rfl (fun ht64 => ?_) (fun ht64 => ?_)
            ·
              try simp only [decide_eq_true_eq, decide_eq_false_iff_not] at ht64
              obtain ⟨A3, A4, e3, e4, hl4, hz, hI4, hk4, hB3, hB4⟩ := hI2.next hq2.ok hB2 (by omega)
              repeat refine J.seq ?_
              refine J.plain ?_
              refine JO.t (ob_move rfl) rfl ?_
              refine JO.t (ob_move rfl) rfl ?_
              refine JO.callK (Lr := [⟨b9, ty_cadastrelaw20_Op, .is (.agg (OpA.cells (opAt ops i)).toArray)⟩]) (k_Commit hq2 (by omega) _ e3) rfl (.refl _) none_in (.one rfl (.one rfl .nil)) ?_
              intro q3 hq3
              try dsimp only
              refine JO.t (ob_neq rfl rfl) rfl ?_
              refine JO.t (ob_move rfl) rfl ?_
              refine JO.gd rfl rfl rfl ?_
              refine JO.t (ob_move rfl) rfl ?_
              refine JO.gd rfl rfl rfl ?_
              refine JO.t (ob_not rfl) rfl ?_
              refine JO.gd rfl rfl rfl ?_
              refine JO.t (ob_move rfl) rfl ?_
              refine JO.gn rfl rfl rfl rfl rfl ?_
              refine JO.gn rfl rfl rfl rfl rfl ?_
              refine JO.gn rfl rfl rfl rfl rfl ?_
              refine JO.gd rfl rfl rfl ?_
              refine JO.t (ob_pickF rfl rfl) rfl ?_
              refine JO.t (ob_pickF rfl rfl) rfl ?_
              refine JO.nil ?_
              repeat (first | refine JX.next ?_ | refine JX.normal_block ?_)
              refine J.sel [0, 1, 5, 8, 77] (.cons rfl (.cons rfl (.cons rfl (.cons rfl (.cons rfl .nil))))) ?_
              repeat refine J.seq ?_
              refine J.cond rfl (fun ht77 => ?_) (fun ht77 => ?_)
              ·
                try simp only [decide_eq_true_eq, decide_eq_false_iff_not] at ht77
                exfalso
                cases ht77
              ·
                try simp only [decide_eq_true_eq, decide_eq_false_iff_not] at ht77
                refine J.skip ?_
                repeat (first | refine JX.next ?_ | refine JX.normal_block ?_)
                repeat refine J.seq ?_
                refine J.plain ?_
                refine JO.t (ob_assign rfl) rfl ?_
                refine JO.nil ?_
                repeat (first | refine JX.next ?_ | refine JX.normal_block ?_)
                refine J.sel [0, 1, 5, 7, 8] (.cons rfl (.cons rfl (.cons rfl (.cons rfl (.cons rfl .nil))))) ?_
                repeat refine J.seq ?_
                refine J.plain ?_
                refine JO.t (ob_move rfl) rfl ?_
                refine JO.callK (Lr := [⟨b9, ty_cadastrelaw20_Op, .is (.agg (OpA.cells (opAt ops i)).toArray)⟩]) (k_BeginE hq3 (hB3.rm (by omega) (by omega)) (by omega) e4 hl4) rfl (.refl _) none_in (.one rfl .nil) ?_
                intro q4 hq4
                try dsimp only
                refine JO.t (ob_assign rfl) rfl ?_
                refine JO.nil ?_
                repeat (first | refine JX.next ?_ | refine JX.normal_block ?_)
                refine J.sel [0, 1, 5, 6, 7, 8] (.cons rfl (.cons rfl (.cons rfl (.cons rfl (.cons rfl (.cons rfl .nil)))))) ?_
                try (have hm40 : m + 1 ≤ 40 := by simp at ht64; omega)
                repeat refine J.seq ?_
                refine J.plain ?_
                refine JO.t (ob_move rfl) rfl ?_
                refine JO.t (ob_move rfl) rfl ?_
                refine JO.gd rfl rfl rfl ?_
                refine JO.t (ob_move rfl) rfl ?_
                refine JO.gd rfl rfl rfl ?_
                first
                | (refine JO.callK (Lr := [⟨b9, ty_cadastrelaw20_Op, .is (.agg (OpA.cells (opAt ops i)).toArray)⟩]) (k_Kept hq4 (hB4.rm (by omega) (by omega)) rfl) rfl (.refl _) none_in (.one rfl .nil) ?_; rintro - -)
                | (refine JO.callK (Lr := [⟨b9, ty_cadastrelaw20_Op, .is (.agg (OpA.cells (opAt ops i)).toArray)⟩]) (k_Kept hq2 (hB2.rm (by omega) (by omega)) rfl) rfl (.refl _) none_in (.one rfl .nil) ?_; rintro - -)
                try dsimp only
                refine JO.gd rfl rfl rfl ?_
                refine JO.t (ob_gtr rfl rfl) rfl ?_
                refine JO.t (ob_pickT rfl rfl) rfl ?_
                refine JO.nil ?_
                repeat (first | refine JX.next ?_ | refine JX.normal_block ?_)
                refine J.sel [0, 1, 5, 6, 7, 8, 85] (.cons rfl (.cons rfl (.cons rfl (.cons rfl (.cons rfl (.cons rfl (.cons rfl .nil))))))) ?_
                repeat refine J.seq ?_
                refine J.cond rfl (fun ht85 => ?_) (fun ht85 => ?_)
                ·
                  try simp only [decide_eq_true_eq, decide_eq_false_iff_not] at ht85
                  repeat refine J.seq ?_
                  refine J.plain ?_
                  refine JO.t (ob_assign rfl) rfl ?_
                  refine JO.nil ?_
                  repeat (first | refine JX.next ?_ | refine JX.normal_block ?_)
                  refine J.sel [4] (.cons rfl .nil) ?_
                  repeat refine J.seq ?_
                  refine J.ret ?_
                  repeat (first | refine JX.ret_pass ?_ | refine JX.ret_block ?_)
                  exact JX.retL1 (L1 := fun _ : Unit => []) (R := fun _ => .is (.bool true)) rfl () trivial (pm_nil _) rfl rfl hb0 rfl (Sub.isEq (rfl))
                ·
                  try simp only [decide_eq_true_eq, decide_eq_false_iff_not] at ht85
                  refine J.skip ?_
                  repeat (first | refine JX.next ?_ | refine JX.normal_block ?_)
                  first
                  | (refine J.subS (L' := q4.L b ba ++ []) ((List.Sublist.refl _).append (List.nil_sublist _)) ?_)
                  | (refine J.subS (L' := q2.L b ba ++ []) ((List.Sublist.refl _).append (List.nil_sublist _)) ?_)
                  repeat refine J.seq ?_
                  refine J.plain ?_
                  refine JO.t (ob_move rfl) rfl ?_
                  refine JO.t (ob_addc (cc := ((i + 1 : Nat) : Int)) rfl rfl (by omega) (by omega) (by omega)) rfl ?_
                  refine JO.t (ob_assign rfl) rfl ?_
                  refine JO.nil ?_
                  repeat refine JX.normal_block ?_
                  refine JX.roundG (x := (⟨⟨i, q, A, n, U⟩, t, m⟩ : LSt × Nat × Nat)) (⟨⟨i + 1, q4, A4, n + 2, x1 :: U⟩, t + 1, 0⟩ : LSt × Nat × Nat) ?_ ?_ [0, 1, 5, 6, 7, 8] ?_ ?_ ?_ ?_
                  · exact ⟨by simp only; omega, by simp only; omega, hq4, hI4, (by simp only at ht85 ⊢; simp at ht85; omega), by simp only; omega, hB4, by simp only; omega, by simp only; omega⟩
                  · exact (by simp only; omega)
                  · exact (.cons rfl (.cons rfl (.cons rfl (.cons rfl (.cons rfl (.cons rfl .nil))))))
                  · repeat (first | exact .all | exact .nil | refine Has.own (by repeat (first | exact .here | apply Tl.past | apply Tl.there)) ?_ | refine Has.cons (by repeat (first | exact .here | apply Pk.past | apply Pk.there)) ?_)
                  · exact fun G hG => by repeat (first | exact hG | refine List.mem_cons_of_mem _ ?_)
                  · exact (fun E0 w0 hG => hG _ (by repeat (first | exact List.mem_cons_self | apply List.mem_cons_of_mem)))
            ·
              try simp only [decide_eq_true_eq, decide_eq_false_iff_not] at ht64
              refine J.skip ?_
              repeat (first | refine JX.next ?_ | refine JX.normal_block ?_)
              try (have hm40 : m + 1 ≤ 40 := by simp at ht64; omega)
              repeat refine J.seq ?_
              refine J.plain ?_
              refine JO.t (ob_move rfl) rfl ?_
              refine JO.t (ob_move rfl) rfl ?_
              refine JO.gd rfl rfl rfl ?_
              refine JO.t (ob_move rfl) rfl ?_
              refine JO.gd rfl rfl rfl ?_
              first
              | (refine JO.callK (Lr := [⟨b9, ty_cadastrelaw20_Op, .is (.agg (OpA.cells (opAt ops i)).toArray)⟩]) (k_Kept hq4 (hB4.rm (by omega) (by omega)) rfl) rfl (.refl _) none_in (.one rfl .nil) ?_; rintro - -)
              | (refine JO.callK (Lr := [⟨b9, ty_cadastrelaw20_Op, .is (.agg (OpA.cells (opAt ops i)).toArray)⟩]) (k_Kept hq2 (hB2.rm (by omega) (by omega)) rfl) rfl (.refl _) none_in (.one rfl .nil) ?_; rintro - -)
              try dsimp only
              refine JO.gd rfl rfl rfl ?_
              refine JO.t (ob_gtr rfl rfl) rfl ?_
              refine JO.t (ob_pickT rfl rfl) rfl ?_
              refine JO.nil ?_
              repeat (first | refine JX.next ?_ | refine JX.normal_block ?_)
              refine J.sel [0, 1, 5, 6, 7, 8, 85] (.cons rfl (.cons rfl (.cons rfl (.cons rfl (.cons rfl (.cons rfl (.cons rfl .nil))))))) ?_
              repeat refine J.seq ?_
              refine J.cond rfl (fun ht85 => ?_) (fun ht85 => ?_)
              ·
                try simp only [decide_eq_true_eq, decide_eq_false_iff_not] at ht85
                repeat refine J.seq ?_
                refine J.plain ?_
                refine JO.t (ob_assign rfl) rfl ?_
                refine JO.nil ?_
                repeat (first | refine JX.next ?_ | refine JX.normal_block ?_)
                refine J.sel [4] (.cons rfl .nil) ?_
                repeat refine J.seq ?_
                refine J.ret ?_
                repeat (first | refine JX.ret_pass ?_ | refine JX.ret_block ?_)
                exact JX.retL1 (L1 := fun _ : Unit => []) (R := fun _ => .is (.bool true)) rfl () trivial (pm_nil _) rfl rfl hb0 rfl (Sub.isEq (rfl))
              ·
                try simp only [decide_eq_true_eq, decide_eq_false_iff_not] at ht85
                refine J.skip ?_
                repeat (first | refine JX.next ?_ | refine JX.normal_block ?_)
                first
                | (refine J.subS (L' := q4.L b ba ++ []) ((List.Sublist.refl _).append (List.nil_sublist _)) ?_)
                | (refine J.subS (L' := q2.L b ba ++ []) ((List.Sublist.refl _).append (List.nil_sublist _)) ?_)
                repeat refine J.seq ?_
                refine J.plain ?_
                refine JO.t (ob_move rfl) rfl ?_
                refine JO.t (ob_addc (cc := ((i + 1 : Nat) : Int)) rfl rfl (by omega) (by omega) (by omega)) rfl ?_
                refine JO.t (ob_assign rfl) rfl ?_
                refine JO.nil ?_
                repeat refine JX.normal_block ?_
                refine JX.roundG (x := (⟨⟨i, q, A, n, U⟩, t, m⟩ : LSt × Nat × Nat)) (⟨⟨i + 1, q2, A2, n, x1 :: U⟩, t, m + 1⟩ : LSt × Nat × Nat) ?_ ?_ [0, 1, 5, 6, 7, 8] ?_ ?_ ?_ ?_
                · exact ⟨by simp only; omega, by simp only; omega, hq2, hI2, (by simp only at ht85 ⊢; simp at ht85; omega), by simp only; omega, hB2, by simp only; omega, by simp only; omega⟩
                · exact (by simp only; omega)
                · exact (.cons rfl (.cons rfl (.cons rfl (.cons rfl (.cons rfl (.cons rfl .nil))))))
                · repeat (first | exact .all | exact .nil | refine Has.own (by repeat (first | exact .here | apply Tl.past | apply Tl.there)) ?_ | refine Has.cons (by repeat (first | exact .here | apply Pk.past | apply Pk.there)) ?_)
                · exact fun G hG => by repeat (first | exact hG | refine List.mem_cons_of_mem _ ?_)
                · exact (fun E0 w0 hG => hG _ (by repeat (first | exact List.mem_cons_self | apply List.mem_cons_of_mem)))
      ·
        try simp only [decide_eq_true_eq, decide_eq_false_iff_not] at ht31
        repeat refine J.seq ?_
        refine J.exit ?_
        repeat (first | refine JX.hit ?_ | refine JX.miss rfl ?_ | refine JX.exit_pass ?_)
        repeat (first | refine JX.next ?_ | refine JX.normal_block ?_)
        obtain ⟨e3, -⟩ := hI.commit hS.ok
        repeat refine J.seq ?_
        refine J.plain ?_
        refine JO.t (ob_move rfl) rfl ?_
        refine JO.t (ob_move rfl) rfl ?_
        refine JO.callK (Lr := []) (k_Commit hS (by omega) _ e3) rfl (.refl _) none_in (.one rfl (.one rfl .nil)) ?_
        intro q3 hq3
        try dsimp only
        refine JO.t (ob_eql rfl rfl) rfl ?_
        refine JO.t (ob_assign rfl) rfl ?_
        refine JO.nil ?_
        repeat (first | refine JX.next ?_ | refine JX.normal_block ?_)
        refine J.sel [4] (.cons rfl .nil) ?_
        repeat refine J.seq ?_
        refine J.ret ?_
        repeat (first | refine JX.ret_pass ?_ | refine JX.ret_block ?_)
        exact JX.retL1 (L1 := fun _ : Unit => []) (R := fun _ => .is (.bool true)) rfl () trivial (pm_nil _) rfl rfl hb0 rfl (Sub.isEq (rfl))
theorem c_law20_SsiAloneF (ops : List OpA) (hops : ScB ops) : CallL Try.prog f_law20_SsiAlone [] [] [.rep (ScR ops), .is (.bool false)] (fun _ : Unit => True) (fun _ => []) (fun _ => .is (.bool true)) :=
CallL.of (fn := Try.f5) Try.func5 (n := 90) rfl rfl rfl (fun _ _ => by kernel_rfl) fun E W hb0 => by
  refine J.openSc (s := 0) rfl (fun a cap b0 o0 ha => ?_)
  repeat refine J.seq ?_
  refine J.plain ?_
  refine JO.t (ob_assign rfl) rfl ?_
  refine JO.nil ?_
  repeat (first | refine JX.next ?_ | refine JX.normal_block ?_)
  refine J.sel [0, 1] (.cons rfl (.cons rfl .nil)) ?_
  repeat refine J.seq ?_
  refine J.plain ?_
  refine JO.callK (Lr := []) (c_law20_awake) rfl (.refl _) none_in .nil ?_
  rintro - -
  try dsimp only
  refine JO.t (ob_not rfl) rfl ?_
  refine JO.nil ?_
  repeat (first | refine JX.next ?_ | refine JX.normal_block ?_)
  refine J.sel [0, 1, 11] (.cons rfl (.cons rfl (.cons rfl .nil))) ?_
  repeat refine J.seq ?_
  refine J.cond rfl (fun ht11 => ?_) (fun ht11 => ?_)
  ·
    try simp only [decide_eq_true_eq, decide_eq_false_iff_not] at ht11
    exfalso
    cases ht11
  ·
    try simp only [decide_eq_true_eq, decide_eq_false_iff_not] at ht11
    refine J.skip ?_
    repeat (first | refine JX.next ?_ | refine JX.normal_block ?_)
    repeat refine J.seq ?_
    refine J.plain ?_
    refine JO.callK (Lr := []) (k_New) rfl (.refl _) none_in .nil ?_
    rintro ⟨b, ba⟩ -
    try dsimp only
    refine JO.t (ob_assign rfl) rfl ?_
    refine JO.nil ?_
    repeat (first | refine JX.next ?_ | refine JX.normal_block ?_)
    refine J.sel [0, 1, 5] (.cons rfl (.cons rfl (.cons rfl .nil))) ?_
    refine J.fact (WrF []) (fun E0 w0 _ _ => fun w1 hk v hv => by cases hv) ?_
    repeat refine J.seq ?_
    refine J.plain ?_
    refine JO.t (ob_move rfl) rfl ?_
    refine JO.t (ob_move rfl) rfl ?_
    refine JO.gn rfl rfl rfl rfl rfl ?_
    refine JO.gn rfl rfl rfl rfl rfl ?_
    refine JO.gn rfl rfl rfl rfl rfl ?_
    refine JO.gn rfl rfl rfl rfl rfl ?_
    refine JO.gn rfl rfl rfl rfl rfl ?_
    refine JO.gn rfl rfl rfl rfl rfl ?_
    refine JO.t (ob_pickF rfl rfl) rfl ?_
    refine JO.nil ?_
    repeat (first | refine JX.next ?_ | refine JX.normal_block ?_)
    refine J.sel [0, 1, 5, 21] (.cons rfl (.cons rfl (.cons rfl (.cons rfl .nil)))) ?_
    repeat refine J.seq ?_
    refine J.cond rfl (fun ht21 => ?_) (fun ht21 => ?_)
    ·
      try simp only [decide_eq_true_eq, decide_eq_false_iff_not] at ht21
      exfalso
      cases ht21
    ·
      try simp only [decide_eq_true_eq, decide_eq_false_iff_not] at ht21
      refine J.skip ?_
      repeat (first | refine JX.next ?_ | refine JX.normal_block ?_)
      repeat refine J.seq ?_
      refine J.plain ?_
      refine JO.t (ob_move rfl) rfl ?_
      refine JO.callK (Lr := []) (k_BeginE SRel.new (Bd.nil.rm (by omega) (by omega)) (by omega) rfl (m := 0 + 1) rfl) rfl (.refl _) none_in (.one rfl .nil) ?_
      intro q1 hq1
      try dsimp only
      refine JO.t (ob_assign rfl) rfl ?_
      refine JO.nil ?_
      repeat (first | refine JX.next ?_ | refine JX.normal_block ?_)
      refine J.sel [0, 1, 5, 6] (.cons rfl (.cons rfl (.cons rfl (.cons rfl .nil)))) ?_
      repeat refine J.seq ?_
      refine J.plain ?_
      refine JO.t (ob_assign rfl) rfl ?_
      refine JO.nil ?_
      repeat (first | refine JX.next ?_ | refine JX.normal_block ?_)
      refine J.sel [0, 1, 5, 6, 7] (.cons rfl (.cons rfl (.cons rfl (.cons rfl (.cons rfl .nil))))) ?_
      repeat refine J.seq ?_
      refine J.plain ?_
      refine JO.t (ob_assign rfl) rfl ?_
      refine JO.nil ?_
      repeat (first | refine JX.next ?_ | refine JX.normal_block ?_)
      refine J.sel [0, 1, 5, 6, 7, 8] (.cons rfl (.cons rfl (.cons rfl (.cons rfl (.cons rfl (.cons rfl .nil)))))) ?_
      repeat refine J.seq ?_
      refine J.block ?_
      repeat refine J.seq ?_
      refine J.loopG (α := LSt × Nat × Nat) (fun s => [(0, _), (1, _), (5, .is (.pointer (some ⟨b, 0, none⟩))), (6, .is (.int .i64 ((s.2.1 + 1 : Nat) : Int))), (7, .is (.int .i64 (s.2.2 : Nat))), (8, .is (.int .i64 (s.1.i : Nat)))]) (fun s => s.1.q.L b ba ++ []) (fun s => WrF s.1.U) (fun s => s.1.i ≤ ops.length ∧ s.1.i ≤ 100 ∧ SRel s.1.q s.1.A s.1.n s.1.U ∧ AlI s.1.A s.1.n false s.2.1 ∧ keptA s.1.A ≤ s.2.2 ∧ s.2.2 ≤ 40 ∧ Bd s.1.A 102 (2 * s.1.i + 1) ∧ s.1.n ≤ 2 * s.1.i + 4 ∧ s.2.1 ≤ s.1.i + 1) (fun s => ops.length - s.1.i) ⟨⟨0, q1, beginA [] 0, 0 + 1, []⟩, 0, 0⟩ [0, 1, 5, 6, 7, 8] (.cons rfl (.cons rfl (.cons rfl (.cons rfl (.cons rfl (.cons rfl .nil)))))) rfl (fun w v hv => by cases hv) ⟨Nat.zero_le _, Nat.zero_le _, hq1, AlI.one, el_0, Nat.zero_le _, (Bd.nil.begin 0).mono (by omega) (by omega), by simp only; omega, by simp only; omega⟩ fun ⟨⟨i, q, A, n, U⟩, t, m⟩ ⟨hi, hi100, hS, hI, hk, hm, hB, hn, ht⟩ => ?_
      try dsimp only
      try dsimp only at q
      try dsimp only at A
      try dsimp only at n
      try dsimp only at U
      try dsimp only at t
      try dsimp only at m
      try dsimp only at hi
      try dsimp only at hi100
      try dsimp only at hS
      try dsimp only at hI
      try dsimp only at hk
      try dsimp only at hm
      try dsimp only at hB
      try dsimp only at hn
      try dsimp only at ht
      repeat refine J.seq ?_
      refine J.reg0 hmx (by kernel_rfl) (by kernel_rfl) ?_
      refine RT.t (ob_move rfl) ?_
      refine RT.t (ob_move rfl) ?_
      refine RT.t (ob_len un_sl_cadastrelaw20_Op rfl) ?_
      refine RT.t (ob_lss rfl rfl) ?_
      refine RT.t (ob_move rfl) ?_
      refine RT.g rfl rfl rfl (fun hg => ob_move (.inl rfl)) ?_
      refine RT.g rfl rfl rfl (fun hg => ob_lss (.inr ⟨_, rfl, fun h => h⟩) (.inl rfl)) ?_
      refine RT.t (ob_pickAnd rfl rfl rfl id) ?_
      refine RT.nil ?_
      refine FinS.nil0 ?_
      repeat (first | refine JX.next ?_ | refine JX.normal_block ?_)
      refine J.sel [0, 1, 5, 6, 7, 8, 31] (.cons rfl (.cons rfl (.cons rfl (.cons rfl (.cons rfl (.cons rfl (.cons rfl .nil))))))) ?_
      repeat refine J.seq ?_
      refine J.cond rfl (fun ht31 => ?_) (fun ht31 => ?_)
      ·
        try simp only [decide_eq_true_eq, decide_eq_false_iff_not] at ht31
        refine J.skip ?_
        repeat (first | refine JX.next ?_ | refine JX.normal_block ?_)
        repeat refine J.seq ?_
        refine J.block ?_
        have hlt : i < ops.length ∧ i < 100 := by simp at ht31; omega
        repeat refine J.seq ?_
        refine J.plain ?_
        refine JO.t (ob_move rfl) rfl ?_
        refine JO.t (ob_move rfl) rfl ?_
        refine JO.t (ob_indexAddr el_sl_cadastrelaw20_Op rfl (ha (by omega)) rfl (by omega) (by omega)) rfl ?_
        refine JO.t (ob_loadG (enc := OpA.cells) (sz := 13) (i := i) (y := (opAt ops i)) (cs := OpA.cells (opAt ops i)) sz_cadastrelaw20_Op rfl (by repeat (first | exact List.mem_cons_self | apply List.mem_cons_of_mem)) (ha (by omega)) (opAt_get (by omega)) (by omega) rfl) rfl ?_
        refine JO.alloc zo_cadastrelaw20_Op rfl fun b9 => ?_
        refine JO.m (obm_store rfl rfl (by repeat (first | exact .here | apply Upd.there)) (by first | exact cnt_is rfl rfl | exact cnt_ex) (by first | exact cnt_is rfl rfl | exact cnt_ex | exact cnt_aggO) ss_cadastrelaw20_Op) (by rfl) ?_
        refine JO.nil ?_
        repeat (first | refine JX.next ?_ | refine JX.normal_block ?_)
        refine J.sel [0, 1, 5, 6, 7, 8, 9] (.cons rfl (.cons rfl (.cons rfl (.cons rfl (.cons rfl (.cons rfl (.cons rfl .nil))))))) ?_
        repeat refine J.seq ?_
        refine J.plain ?_
        refine JO.t (ob_fieldAddr fo_cadastrelaw20_Op_3 rfl) rfl ?_
        refine JO.t (ob_fieldAddr fo_api_Write_0 rfl) rfl ?_
        refine JO.t (ob_ld1 sz_string rfl rfl) rfl ?_
        refine JO.t (ob_seql rfl rfl) rfl ?_
        refine JO.nil ?_
        repeat (first | refine JX.next ?_ | refine JX.normal_block ?_)
        refine J.sel [0, 1, 5, 6, 7, 8, 9, 41] (.cons rfl (.cons rfl (.cons rfl (.cons rfl (.cons rfl (.cons rfl (.cons rfl (.cons rfl .nil)))))))) ?_
        repeat refine J.seq ?_
        refine J.cond rfl (fun ht41 => ?_) (fun ht41 => ?_)
        ·
          try simp only [decide_eq_true_eq, decide_eq_false_iff_not] at ht41
          repeat refine J.seq ?_
          refine J.plain ?_
          refine JO.t (ob_assign rfl) rfl ?_
          refine JO.nil ?_
          repeat (first | refine JX.next ?_ | refine JX.normal_block ?_)
          refine J.sel [4] (.cons rfl .nil) ?_
          repeat refine J.seq ?_
          refine J.ret ?_
          repeat (first | refine JX.ret_pass ?_ | refine JX.ret_block ?_)
          exact JX.retL1 (L1 := fun _ : Unit => []) (R := fun _ => .is (.bool true)) rfl () trivial (pm_nil _) rfl rfl hb0 rfl (Sub.isEq (rfl))
        ·
          try simp only [decide_eq_true_eq, decide_eq_false_iff_not] at ht41
          refine J.skip ?_
          repeat (first | refine JX.next ?_ | refine JX.normal_block ?_)
          obtain ⟨A1, A2, e1, e2, hI2, hk2, hB1, hB2⟩ := hI.step (by omega) hB (opAt ops i).r (opAt ops i).w.abs ht41
          repeat refine J.seq ?_
          refine J.plain ?_
          refine JO.t (ob_move rfl) rfl ?_
          refine JO.t (ob_addc (cc := ((m + 1 : Nat) : Int)) rfl rfl (by omega) (by omega) (by omega)) rfl ?_
          refine JO.t (ob_assign rfl) rfl ?_
          refine JO.nil ?_
          repeat (first | refine JX.next ?_ | refine JX.normal_block ?_)
          refine J.sel [0, 1, 5, 6, 7, 8, 9] (.cons rfl (.cons rfl (.cons rfl (.cons rfl (.cons rfl (.cons rfl (.cons rfl .nil))))))) ?_
          repeat refine J.seq ?_
          refine J.plain ?_
          refine JO.t (ob_move rfl) rfl ?_
          refine JO.t (ob_move rfl) rfl ?_
          refine JO.t (ob_fieldAddr fo_cadastrelaw20_Op_2 rfl) rfl ?_
          refine JO.t (ob_ldN (cs := [_, _, _, _, _, _, _, _]) sz_api_Read rfl rfl rfl) rfl ?_
          refine JO.callK (Lr := [⟨b9, ty_cadastrelaw20_Op, .is (.agg (OpA.cells (opAt ops i)).toArray)⟩]) (k_Read hS (hB.rm (by omega) (by omega)) _ (opAt ops i).r e1) rfl (List.Perm.trans (List.Perm.of_eq (congrArg _ (List.append_nil _))) (List.perm_append_singleton _ _).symm) (one_in (by repeat (first | exact List.mem_cons_self | apply List.mem_cons_of_mem))) (.one rfl (.one rfl (.one rfl .nil))) ?_
          intro q1 hq1
          try dsimp only
          refine JO.t (ob_neq rfl rfl) rfl ?_
          refine JO.t (ob_move rfl) rfl ?_
          refine JO.gd rfl rfl rfl ?_
          refine JO.t (ob_move rfl) rfl ?_
          refine JO.gd rfl rfl rfl ?_
          refine JO.t (ob_move rfl) rfl ?_
          refine JO.gd rfl rfl rfl ?_
          refine JO.t (ob_fieldAddr fo_cadastrelaw20_Op_3 rfl) rfl ?_
          refine JO.gd rfl rfl rfl ?_
          refine JO.t (ob_ldN (cs := [_, _, _]) sz_api_Write rfl rfl rfl) rfl ?_
          refine JO.gd rfl rfl rfl ?_
          refine JO.callK (Lr := [⟨b9, ty_cadastrelaw20_Op, .is (.agg (OpA.cells (opAt ops i)).toArray)⟩]) (k_WriteF (Us := wsO ops) hq1 (hB1.rm (by omega) (by omega)) _ (opAt ops i).w (opAt_w (by omega)) (hops.o _ (opAt_mem (by omega))) (hops.n _ (opAt_mem (by omega))) e2) rfl (.refl _) (two_in (by repeat (first | exact List.mem_cons_self | apply List.mem_cons_of_mem)) (by repeat (first | exact List.mem_cons_self | apply List.mem_cons_of_mem))) (.one rfl (.one rfl (.one rfl .nil))) ?_
          rintro ⟨q2, x1⟩ hq2
          try dsimp only
          refine JO.open_ (s := 55) (R := WrR' (0) x1) rfl ?_
          rintro _ ⟨_, rfl, _⟩
          refine JO.fact (WrF (x1 :: U)) (fun E0 w0 hG _ => wr_more (e := 0) hG List.mem_cons_self (by repeat (first | exact List.mem_cons_self | apply List.mem_cons_of_mem))) ?_
          refine JO.gd rfl rfl rfl ?_
          refine JO.t (ob_neq rfl rfl) rfl ?_
          refine JO.t (ob_pickF rfl rfl) rfl ?_
          refine JO.nil ?_
          repeat (first | refine JX.next ?_ | refine JX.normal_block ?_)
          refine J.sel [0, 1, 5, 6, 7, 8, 9, 57] (.cons rfl (.cons rfl (.cons rfl (.cons rfl (.cons rfl (.cons rfl (.cons rfl (.cons rfl .nil)))))))) ?_
          repeat refine J.seq ?_
          refine J.cond rfl (fun ht57 => ?_) (fun ht57 => ?_)
          ·
            try simp only [decide_eq_true_eq, decide_eq_false_iff_not] at ht57
            exfalso
            cases ht57
          ·
            try simp only [decide_eq_true_eq, decide_eq_false_iff_not] at ht57
            refine J.skip ?_
            repeat (first | refine JX.next ?_ | refine JX.normal_block ?_)
            repeat refine J.seq ?_
            refine J.reg0 hmx (by kernel_rfl) (by kernel_rfl) ?_
            refine RT.t (ob_fieldAddr fo_cadastrelaw20_Op_0 rfl) ?_
            refine RT.t (ob_ld1 sz_int rfl rfl) ?_
            refine RT.t (ob_eql rfl rfl) ?_
            refine RT.t (ob_move rfl) ?_
            refine RT.g rfl rfl rfl (fun hg => ob_move (.inl rfl)) ?_
            refine RT.g rfl rfl rfl (fun hg => ob_gtr (.inr ⟨_, rfl, fun h => h⟩) (.inl rfl)) ?_
            refine RT.t (ob_pickOr rfl rfl rfl id) ?_
            refine RT.nil ?_
            refine FinS.nil0 ?_
            repeat (first | refine JX.next ?_ | refine JX.normal_block ?_)
            refine J.sel [0, 1, 5, 6, 7, 8, 64] (.cons rfl (.cons rfl (.cons rfl (.cons rfl (.cons rfl (.cons rfl (.cons rfl .nil))))))) ?_
            repeat refine J.seq ?_
            refine J.cond rfl (fun ht64 => ?_) (fun ht64 => ?_)
            ·
              try simp only [decide_eq_true_eq, decide_eq_false_iff_not] at ht64
              obtain ⟨A3, A4, e3, e4, hl4, hz, hI4, hk4, hB3, hB4⟩ := hI2.next hq2.ok hB2 (by omega)
              repeat refine J.seq ?_
              refine J.plain ?_
              refine JO.t (ob_move rfl) rfl ?_
              refine JO.t (ob_move rfl) rfl ?_
              refine JO.callK (Lr := [⟨b9, ty_cadastrelaw20_Op, .is (.agg (OpA.cells (opAt ops i)).toArray)⟩]) (k_Commit hq2 (by omega) _ e3) rfl (.refl _) none_in (.one rfl (.one rfl .nil)) ?_
              intro q3 hq3
              try dsimp only
              refine JO.t (ob_neq rfl rfl) rfl ?_
              refine JO.t (ob_move rfl) rfl ?_
              refine JO.gd rfl rfl rfl ?_
              refine JO.t (ob_move rfl) rfl ?_
              refine JO.gd rfl rfl rfl ?_
              refine JO.t (ob_not rfl) rfl ?_
              refine JO.gd rfl rfl rfl ?_
              refine JO.t (ob_move rfl) rfl ?_
              refine JO.gd rfl rfl rfl ?_
              refine JO.t (ob_move rfl) rfl ?_
              refine JO.gd rfl rfl rfl ?_
              refine JO.callK (Lr := [⟨b9, ty_cadastrelaw20_Op, .is (.agg (OpA.cells (opAt ops i)).toArray)⟩]) (k_Kept hq3 (hB3.rm (by omega) (by omega)) (hz rfl).1) rfl (.refl _) none_in (.one rfl .nil) ?_
              rintro - -
              try dsimp only
              refine JO.gd rfl rfl rfl ?_
              refine JO.t (ob_neq rfl rfl) rfl ?_
              refine JO.gd rfl rfl rfl ?_
              refine JO.t (ob_pickT rfl rfl) rfl ?_
              refine JO.t (ob_pickF rfl rfl) rfl ?_
              refine JO.nil ?_
              repeat (first | refine JX.next ?_ | refine JX.normal_block ?_)
              refine J.sel [0, 1, 5, 8, 77] (.cons rfl (.cons rfl (.cons rfl (.cons rfl (.cons rfl .nil))))) ?_
              repeat refine J.seq ?_
              refine J.cond rfl (fun ht77 => ?_) (fun ht77 => ?_)
              ·
                try simp only [decide_eq_true_eq, decide_eq_false_iff_not] at ht77
                exfalso
                cases ht77
              ·
                try simp only [decide_eq_true_eq, decide_eq_false_iff_not] at ht77
                refine J.skip ?_
                repeat (first | refine JX.next ?_ | refine JX.normal_block ?_)
                repeat refine J.seq ?_
                refine J.plain ?_
                refine JO.t (ob_assign rfl) rfl ?_
                refine JO.nil ?_
                repeat (first | refine JX.next ?_ | refine JX.normal_block ?_)
                refine J.sel [0, 1, 5, 7, 8] (.cons rfl (.cons rfl (.cons rfl (.cons rfl (.cons rfl .nil))))) ?_
                repeat refine J.seq ?_
                refine J.plain ?_
                refine JO.t (ob_move rfl) rfl ?_
                refine JO.callK (Lr := [⟨b9, ty_cadastrelaw20_Op, .is (.agg (OpA.cells (opAt ops i)).toArray)⟩]) (k_BeginE hq3 (hB3.rm (by omega) (by omega)) (by omega) e4 hl4) rfl (.refl _) none_in (.one rfl .nil) ?_
                intro q4 hq4
                try dsimp only
                refine JO.t (ob_assign rfl) rfl ?_
                refine JO.nil ?_
                repeat (first | refine JX.next ?_ | refine JX.normal_block ?_)
                refine J.sel [0, 1, 5, 6, 7, 8] (.cons rfl (.cons rfl (.cons rfl (.cons rfl (.cons rfl (.cons rfl .nil)))))) ?_
                try (have hm40 : m + 1 ≤ 40 := by simp at ht64; omega)
                repeat refine J.seq ?_
                refine J.plain ?_
                refine JO.t (ob_move rfl) rfl ?_
                refine JO.t (ob_move rfl) rfl ?_
                refine JO.gn rfl rfl rfl rfl rfl ?_
                refine JO.gn rfl rfl rfl rfl rfl ?_
                refine JO.gn rfl rfl rfl rfl rfl ?_
                refine JO.t (ob_pickF rfl rfl) rfl ?_
                refine JO.nil ?_
                repeat (first | refine JX.next ?_ | refine JX.normal_block ?_)
                refine J.sel [0, 1, 5, 6, 7, 8, 85] (.cons rfl (.cons rfl (.cons rfl (.cons rfl (.cons rfl (.cons rfl (.cons rfl .nil))))))) ?_
                repeat refine J.seq ?_
                refine J.cond rfl (fun ht85 => ?_) (fun ht85 => ?_)
                ·
                  try simp only [decide_eq_true_eq, decide_eq_false_iff_not] at ht85
                  exfalso
                  cases ht85
                ·
                  try simp only [decide_eq_true_eq, decide_eq_false_iff_not] at ht85
                  refine J.skip ?_
                  repeat (first | refine JX.next ?_ | refine JX.normal_block ?_)
                  first
                  | (refine J.subS (L' := q4.L b ba ++ []) ((List.Sublist.refl _).append (List.nil_sublist _)) ?_)
                  | (refine J.subS (L' := q2.L b ba ++ []) ((List.Sublist.refl _).append (List.nil_sublist _)) ?_)
                  repeat refine J.seq ?_
                  refine J.plain ?_
                  refine JO.t (ob_move rfl) rfl ?_
                  refine JO.t (ob_addc (cc := ((i + 1 : Nat) : Int)) rfl rfl (by omega) (by omega) (by omega)) rfl ?_
                  refine JO.t (ob_assign rfl) rfl ?_
                  refine JO.nil ?_
                  repeat refine JX.normal_block ?_
                  refine JX.roundG (x := (⟨⟨i, q, A, n, U⟩, t, m⟩ : LSt × Nat × Nat)) (⟨⟨i + 1, q4, A4, n + 2, x1 :: U⟩, t + 1, 0⟩ : LSt × Nat × Nat) ?_ ?_ [0, 1, 5, 6, 7, 8] ?_ ?_ ?_ ?_
                  · exact ⟨by simp only; omega, by simp only; omega, hq4, hI4, (by simp only; have := (hz rfl).2; omega), by simp only; omega, hB4, by simp only; omega, by simp only; omega⟩
                  · exact (by simp only; omega)
                  · exact (.cons rfl (.cons rfl (.cons rfl (.cons rfl (.cons rfl (.cons rfl .nil))))))
                  · repeat (first | exact .all | exact .nil | refine Has.own (by repeat (first | exact .here | apply Tl.past | apply Tl.there)) ?_ | refine Has.cons (by repeat (first | exact .here | apply Pk.past | apply Pk.there)) ?_)
                  · exact fun G hG => by repeat (first | exact hG | refine List.mem_cons_of_mem _ ?_)
                  · exact (fun E0 w0 hG => hG _ (by repeat (first | exact List.mem_cons_self | apply List.mem_cons_of_mem)))
            ·
              try simp only [decide_eq_true_eq, decide_eq_false_iff_not] at ht64
              refine J.skip ?_
              repeat (first | refine JX.next ?_ | refine JX.normal_block ?_)
              try (have hm40 : m + 1 ≤ 40 := by simp at ht64; omega)
              repeat refine J.seq ?_
              refine J.plain ?_
              refine JO.t (ob_move rfl) rfl ?_
              refine JO.t (ob_move rfl) rfl ?_
              refine JO.gn rfl rfl rfl rfl rfl ?_
              refine JO.gn rfl rfl rfl rfl rfl ?_
              refine JO.gn rfl rfl rfl rfl rfl ?_
              refine JO.t (ob_pickF rfl rfl) rfl ?_
              refine JO.nil ?_
              repeat (first | refine JX.next ?_ | refine JX.normal_block ?_)
              refine J.sel [0, 1, 5, 6, 7, 8, 85] (.cons rfl (.cons rfl (.cons rfl (.cons rfl (.cons rfl (.cons rfl (.cons rfl .nil))))))) ?_
              repeat refine J.seq ?_
              refine J.cond rfl (fun ht85 => ?_) (fun ht85 => ?_)
              ·
                try simp only [decide_eq_true_eq, decide_eq_false_iff_not] at ht85
                exfalso
                cases ht85
              ·
                try simp only [decide_eq_true_eq, decide_eq_false_iff_not] at ht85
                refine J.skip ?_
                repeat (first | refine JX.next ?_ | refine JX.normal_block ?_)
                first
                | (refine J.subS (L' := q4.L b ba ++ []) ((List.Sublist.refl _).append (List.nil_sublist _)) ?_)
                | (refine J.subS (L' := q2.L b ba ++ []) ((List.Sublist.refl _).append (List.nil_sublist _)) ?_)
                repeat refine J.seq ?_
                refine J.plain ?_
                refine JO.t (ob_move rfl) rfl ?_
                refine JO.t (ob_addc (cc := ((i + 1 : Nat) : Int)) rfl rfl (by omega) (by omega) (by omega)) rfl ?_
                refine JO.t (ob_assign rfl) rfl ?_
                refine JO.nil ?_
                repeat refine JX.normal_block ?_
                refine JX.roundG (x := (⟨⟨i, q, A, n, U⟩, t, m⟩ : LSt × Nat × Nat)) (⟨⟨i + 1, q2, A2, n, x1 :: U⟩, t, m + 1⟩ : LSt × Nat × Nat) ?_ ?_ [0, 1, 5, 6, 7, 8] ?_ ?_ ?_ ?_
                · exact ⟨by simp only; omega, by simp only; omega, hq2, hI2, (by simp only; omega), by simp only; omega, hB2, by simp only; omega, by simp only; omega⟩
                · exact (by simp only; omega)
                · exact (.cons rfl (.cons rfl (.cons rfl (.cons rfl (.cons rfl (.cons rfl .nil))))))
                · repeat (first | exact .all | exact .nil | refine Has.own (by repeat (first | exact .here | apply Tl.past | apply Tl.there)) ?_ | refine Has.cons (by repeat (first | exact .here | apply Pk.past | apply Pk.there)) ?_)
                · exact fun G hG => by repeat (first | exact hG | refine List.mem_cons_of_mem _ ?_)
                · exact (fun E0 w0 hG => hG _ (by repeat (first | exact List.mem_cons_self | apply List.mem_cons_of_mem)))
      ·
        try simp only [decide_eq_true_eq, decide_eq_false_iff_not] at ht31
        repeat refine J.seq ?_
        refine J.exit ?_
        repeat (first | refine JX.hit ?_ | refine JX.miss rfl ?_ | refine JX.exit_pass ?_)
        repeat (first | refine JX.next ?_ | refine JX.normal_block ?_)
        obtain ⟨e3, -⟩ := hI.commit hS.ok
        repeat refine J.seq ?_
        refine J.plain ?_
        refine JO.t (ob_move rfl) rfl ?_
        refine JO.t (ob_move rfl) rfl ?_
        refine JO.callK (Lr := []) (k_Commit hS (by omega) _ e3) rfl (.refl _) none_in (.one rfl (.one rfl .nil)) ?_
        intro q3 hq3
        try dsimp only
        refine JO.t (ob_eql rfl rfl) rfl ?_
        refine JO.t (ob_assign rfl) rfl ?_
        refine JO.nil ?_
        repeat (first | refine JX.next ?_ | refine JX.normal_block ?_)
        refine J.sel [4] (.cons rfl .nil) ?_
        repeat refine J.seq ?_
        refine J.ret ?_
        repeat (first | refine JX.ret_pass ?_ | refine JX.ret_block ?_)
        exact JX.retL1 (L1 := fun _ : Unit => []) (R := fun _ => .is (.bool true)) rfl () trivial (pm_nil _) rfl rfl hb0 rfl (Sub.isEq (rfl))
theorem c_law20_SsiAlone (ops : List OpA) (hops : ScB ops) (bs : Bool) : CallL Try.prog f_law20_SsiAlone [] [] [.rep (ScR ops), .is (.bool bs)] (fun _ : Unit => True) (fun _ => []) (fun _ => .is (.bool true)) := by
  cases bs
  · exact c_law20_SsiAloneF ops hops
  · exact c_law20_SsiAloneT ops hops
end Go.Proofs.Ytggmifnkgcladaa
