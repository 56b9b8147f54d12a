/- SsiOne: its walk. No condition. -/
import Derived.Test.YtggmifnkgcladaaXLA
import Derived.Test.YtggmifnkgcladaaXPG
set_option maxRecDepth 20000
namespace Go.Proofs.Ytggmifnkgcladaa
open Go Go.Vc
open Go.Si Go.Vl
theorem md2 (i : Nat) : ((i : Nat) : Int).tmod 2 = ((i % 2 : Nat) : Int) := by
  rw [Int.tmod_eq_emod_of_nonneg (by omega)]; omega
theorem qu2 (i : Nat) (h : i ≤ 1048576) : IntKind.i64.wrap (((i : Nat) : Int).tdiv 2) = ((i / 2 : Nat) : Int) := by
  rw [Int.tdiv_eq_ediv_of_nonneg (by omega), i64_wrap ⟨by omega, by omega⟩]; omega
theorem c_law20_SsiOne (ops : List OpA) (hops : ScB ops) (ap : Bool) : CallL Try.prog f_law20_SsiOne [] [] [.rep (ScR ops), .is (.bool ap)] (fun _ : Unit => True) (fun _ => []) (fun _ => .is (.bool true)) :=
CallL.of (fn := Try.f8) Try.func8 (n := 72) rfl rfl rfl (fun _ _ => by kernel_rfl) fun E W hb0 => by
  refine J.openSc (s := 0) rfl (fun a cap b0 o0 ha => ?_)
  repeat refine J.seq ?_
  refine J.plain ?_
  refine JO.t (ob_assign rfl) rfl ?_
  refine JO.nil ?_
  repeat (first | refine JX.next ?_ | refine JX.normal_block ?_)
  refine J.sel [0, 1] (.cons rfl (.cons rfl .nil)) ?_
  repeat refine J.seq ?_
  refine J.plain ?_
  refine JO.callK (Lr := []) (c_law20_awake) rfl (.refl _) none_in .nil ?_
  rintro - -
  try dsimp only
  refine JO.t (ob_not rfl) rfl ?_
  refine JO.nil ?_
  repeat (first | refine JX.next ?_ | refine JX.normal_block ?_)
  refine J.sel [0, 1, 12] (.cons rfl (.cons rfl (.cons rfl .nil))) ?_
  repeat refine J.seq ?_
  refine J.cond rfl (fun ht12 => ?_) (fun ht12 => ?_)
  ·
    try simp only [decide_eq_true_eq, decide_eq_false_iff_not] at ht12
    exfalso
    cases ht12
  ·
    try simp only [decide_eq_true_eq, decide_eq_false_iff_not] at ht12
    refine J.skip ?_
    repeat (first | refine JX.next ?_ | refine JX.normal_block ?_)
    repeat refine J.seq ?_
    refine J.plain ?_
    refine JO.callK (Lr := []) (k_New) rfl (.refl _) none_in .nil ?_
    rintro ⟨b, ba⟩ -
    try dsimp only
    refine JO.t (ob_assign rfl) rfl ?_
    refine JO.nil ?_
    repeat (first | refine JX.next ?_ | refine JX.normal_block ?_)
    refine J.sel [0, 1, 5] (.cons rfl (.cons rfl (.cons rfl .nil))) ?_
    refine J.fact (WrF []) (fun E0 w0 _ _ => fun w1 hk v hv => by cases hv) ?_
    repeat refine J.seq ?_
    refine J.plain ?_
    refine JO.t (ob_move rfl) rfl ?_
    refine JO.callK (Lr := []) (k_Begin SRel.new (Bd.nil.rm (by omega) (by omega)) (by omega)) rfl (.refl _) none_in (.one rfl .nil) ?_
    intro q1 hq1
    try dsimp only
    refine JO.nil ?_
    repeat (first | refine JX.next ?_ | refine JX.normal_block ?_)
    refine J.sel [0, 1, 5] (.cons rfl (.cons rfl (.cons rfl .nil))) ?_
    repeat refine J.seq ?_
    refine J.plain ?_
    refine JO.t (ob_move rfl) rfl ?_
    refine JO.callK (Lr := []) (k_Begin hq1 ((Bd.nil.begin 0).rm (by omega) (by omega)) (by omega)) rfl (.refl _) none_in (.one rfl .nil) ?_
    intro q2 hq2
    try dsimp only
    refine JO.nil ?_
    repeat (first | refine JX.next ?_ | refine JX.normal_block ?_)
    refine J.sel [0, 1, 5] (.cons rfl (.cons rfl (.cons rfl .nil))) ?_
    have hA2 : OnI (beginA (beginA [] 0) (0 + 1)) ap 0 := ⟨(ActA.nil.begin _).begin _, fun _ => ⟨rfl, rfl⟩, by decide +kernel, (Bd.nil.begin _).begin _⟩
    repeat refine J.seq ?_
    refine J.plain ?_
    refine JO.t (ob_assign rfl) rfl ?_
    refine JO.nil ?_
    repeat (first | refine JX.next ?_ | refine JX.normal_block ?_)
    refine J.sel [0, 1, 5, 6] (.cons rfl (.cons rfl (.cons rfl (.cons rfl .nil)))) ?_
    repeat refine J.seq ?_
    refine J.block ?_
    repeat refine J.seq ?_
    refine J.loopG (α := LSt) (fun s => [(0, _), (1, _), (5, .is (.pointer (some ⟨b, 0, none⟩))), (6, .is (.int .i64 (s.i : Nat)))]) (fun s => s.q.L b ba ++ []) (fun s => WrF s.U) (fun s => s.i ≤ ops.length ∧ s.i ≤ 60 ∧ SRel s.q s.A s.n s.U ∧ OnI s.A ap s.i ∧ s.n = 2) (fun s => ops.length - s.i) ⟨0, q2, beginA (beginA [] 0) (0 + 1), 0 + 1 + 1, []⟩ [0, 1, 5, 6] (.cons rfl (.cons rfl (.cons rfl (.cons rfl .nil)))) rfl (fun w v hv => by cases hv) ⟨Nat.zero_le _, Nat.zero_le _, hq2, hA2, rfl⟩ fun ⟨i, q, A, n, U⟩ ⟨hi, hi60, hS, hI, hn⟩ => ?_
    try dsimp only
    try dsimp only at q
    try dsimp only at A
    try dsimp only at n
    try dsimp only at U
    try dsimp only at hi
    try dsimp only at hi60
    try dsimp only at hS
    try dsimp only at hI
    try dsimp only at hn
    repeat refine J.seq ?_
    refine J.reg0 hmx (by kernel_rfl) (by kernel_rfl) ?_
    refine RT.t (ob_move rfl) ?_
    refine RT.t (ob_move rfl) ?_
    refine RT.t (ob_len un_sl_cadastrelaw20_Op rfl) ?_
    refine RT.t (ob_lss rfl rfl) ?_
    refine RT.t (ob_move rfl) ?_
    refine RT.g rfl rfl rfl (fun hg => ob_move (.inl rfl)) ?_
    refine RT.g rfl rfl rfl (fun hg => ob_lss (.inr ⟨_, rfl, fun h => h⟩) (.inl rfl)) ?_
    refine RT.t (ob_pickAnd rfl rfl rfl id) ?_
    refine RT.nil ?_
    refine FinS.nil0 ?_
    repeat (first | refine JX.next ?_ | refine JX.normal_block ?_)
    refine J.sel [0, 1, 5, 6, 25] (.cons rfl (.cons rfl (.cons rfl (.cons rfl (.cons rfl .nil))))) ?_
    repeat refine J.seq ?_
    refine J.cond rfl (fun ht25 => ?_) (fun ht25 => ?_)
    ·
      try simp only [decide_eq_true_eq, decide_eq_false_iff_not] at ht25
      refine J.skip ?_
      repeat (first | refine JX.next ?_ | refine JX.normal_block ?_)
      repeat refine J.seq ?_
      refine J.block ?_
      have hlt : i < ops.length ∧ i < 60 := by simp at ht25; omega
      repeat refine J.seq ?_
      refine J.plain ?_
      refine JO.t (ob_move rfl) rfl ?_
      refine JO.t (ob_move rfl) rfl ?_
      refine JO.t (ob_indexAddr el_sl_cadastrelaw20_Op rfl (ha (by omega)) rfl (by omega) (by omega)) rfl ?_
      refine JO.t (ob_loadG (enc := OpA.cells) (sz := 13) (i := i) (y := (opAt ops i)) (cs := OpA.cells (opAt ops i)) sz_cadastrelaw20_Op rfl (by repeat (first | exact List.mem_cons_self | apply List.mem_cons_of_mem)) (ha (by omega)) (opAt_get (by omega)) (by omega) rfl) rfl ?_
      refine JO.alloc zo_cadastrelaw20_Op rfl fun b7 => ?_
      refine JO.m (obm_store rfl rfl (by repeat (first | exact .here | apply Upd.there)) (by first | exact cnt_is rfl rfl | exact cnt_ex) (by first | exact cnt_is rfl rfl | exact cnt_ex | exact cnt_aggO) ss_cadastrelaw20_Op) (by rfl) ?_
      refine JO.nil ?_
      repeat (first | refine JX.next ?_ | refine JX.normal_block ?_)
      refine J.sel [0, 1, 5, 6, 7] (.cons rfl (.cons rfl (.cons rfl (.cons rfl (.cons rfl .nil))))) ?_
      repeat refine J.seq ?_
      refine J.plain ?_
      refine JO.t (ob_move rfl) rfl ?_
      refine JO.t (ob_remv rfl rfl (by decide) (md2 i)) rfl ?_
      refine JO.t (ob_addc (cc := ((i % 2 + 1 : Nat) : Int)) rfl rfl (by omega) (by omega) (by omega)) rfl ?_
      refine JO.t (ob_assign rfl) rfl ?_
      refine JO.nil ?_
      repeat (first | refine JX.next ?_ | refine JX.normal_block ?_)
      refine J.sel [0, 1, 5, 6, 7, 8] (.cons rfl (.cons rfl (.cons rfl (.cons rfl (.cons rfl (.cons rfl .nil)))))) ?_
      repeat refine J.seq ?_
      refine J.plain ?_
      refine JO.t (ob_move rfl) rfl ?_
      refine JO.nil ?_
      repeat (first | refine JX.next ?_ | refine JX.normal_block ?_)
      refine J.sel [0, 1, 5, 6, 7, 8, 35] (.cons rfl (.cons rfl (.cons rfl (.cons rfl (.cons rfl (.cons rfl (.cons rfl .nil))))))) ?_
      repeat refine J.seq ?_
      refine J.cond rfl (fun ht35 => ?_) (fun ht35 => ?_)
      ·
        try simp only [decide_eq_true_eq, decide_eq_false_iff_not] at ht35
        repeat refine J.seq ?_
        refine J.plain ?_
        refine JO.t (ob_assign rfl) rfl ?_
        refine JO.nil ?_
        repeat (first | refine JX.next ?_ | refine JX.normal_block ?_)
        refine J.sel [0, 1, 5, 6, 7, 8] (.cons rfl (.cons rfl (.cons rfl (.cons rfl (.cons rfl (.cons rfl .nil)))))) ?_
        repeat refine J.seq ?_
        refine J.plain ?_
        refine JO.t (ob_move rfl) rfl ?_
        refine JO.t (ob_quov rfl rfl (by decide) (qu2 i (by have := hops.len; omega))) rfl ?_
        refine JO.t (ob_remv rfl rfl (by decide) (md2 (i / 2))) rfl ?_
        refine JO.t (ob_eql rfl rfl) rfl ?_
        refine JO.nil ?_
        repeat (first | refine JX.next ?_ | refine JX.normal_block ?_)
        refine J.sel [0, 1, 5, 6, 7, 8, 39] (.cons rfl (.cons rfl (.cons rfl (.cons rfl (.cons rfl (.cons rfl (.cons rfl .nil))))))) ?_
        repeat refine J.seq ?_
        refine J.cond rfl (fun ht39 => ?_) (fun ht39 => ?_)
        ·
          try simp only [decide_eq_true_eq, decide_eq_false_iff_not] at ht39
          repeat refine J.seq ?_
          refine J.plain ?_
          refine JO.t (ob_move rfl) rfl ?_
          refine JO.t (ob_move rfl) rfl ?_
          refine JO.t (ob_fieldAddr fo_cadastrelaw20_Op_2 rfl) rfl ?_
          refine JO.t (ob_ldN (cs := [_, _, _, _, _, _, _, _]) sz_api_Read rfl rfl rfl) rfl ?_
          first
          | (obtain ⟨e1, hI1⟩ := hI.read (t := 0) (by omega) (fun _ => rfl) hlt.2 (opAt ops i).r; refine JO.callK (Lr := [⟨b7, ty_cadastrelaw20_Op, .is (.agg (OpA.cells (opAt ops i)).toArray)⟩]) (k_Read hS (hI.bd.rm (by omega) (by omega)) _ (opAt ops i).r e1) rfl (List.Perm.trans (List.Perm.of_eq (congrArg _ (List.append_nil _))) (List.perm_append_singleton _ _).symm) (one_in (by repeat (first | exact List.mem_cons_self | apply List.mem_cons_of_mem))) (.one rfl (.one rfl (.one rfl .nil))) ?_; intro q1 hq1)
          | (obtain ⟨e1, hI1⟩ := hI.read (t := i % 2) (by omega) (fun h => by rw [h] at ht35; cases ht35) hlt.2 (opAt ops i).r; refine JO.callK (Lr := [⟨b7, ty_cadastrelaw20_Op, .is (.agg (OpA.cells (opAt ops i)).toArray)⟩]) (k_Read hS (hI.bd.rm (by omega) (by omega)) _ (opAt ops i).r e1) rfl (List.Perm.trans (List.Perm.of_eq (congrArg _ (List.append_nil _))) (List.perm_append_singleton _ _).symm) (one_in (by repeat (first | exact List.mem_cons_self | apply List.mem_cons_of_mem))) (.one rfl (.one rfl (.one rfl .nil))) ?_; intro q1 hq1)
          try dsimp only
          refine JO.nil ?_
          repeat (first | refine JX.next ?_ | refine JX.normal_block ?_)
          refine J.sel [0, 1, 5, 6] (.cons rfl (.cons rfl (.cons rfl (.cons rfl .nil)))) ?_
          refine J.subS (L' := q1.L b ba ++ []) ((List.Sublist.refl _).append (List.nil_sublist _)) ?_
          repeat refine J.seq ?_
          refine J.plain ?_
          refine JO.t (ob_move rfl) rfl ?_
          refine JO.t (ob_addc (cc := ((i + 1 : Nat) : Int)) rfl rfl (by omega) (by omega) (by omega)) rfl ?_
          refine JO.t (ob_assign rfl) rfl ?_
          refine JO.nil ?_
          repeat refine JX.normal_block ?_
          refine JX.roundG (x := (⟨i, q, A, n, U⟩ : LSt)) (⟨i + 1, q1, upA A 0 (aRd (opAt ops i).r), n, U⟩ : LSt) ?_ ?_ [0, 1, 5, 6] ?_ ?_ ?_ ?_
          · exact ⟨by simp only; omega, by simp only; omega, hq1, hI1, hn⟩
          · exact (by simp only; omega)
          · exact (.cons rfl (.cons rfl (.cons rfl (.cons rfl .nil))))
          · repeat (first | exact .all | exact .nil | refine Has.own (by repeat (first | exact .here | apply Tl.past | apply Tl.there)) ?_ | refine Has.cons (by repeat (first | exact .here | apply Pk.past | apply Pk.there)) ?_)
          · exact fun G hG => by repeat (first | exact hG | refine List.mem_cons_of_mem _ ?_)
          · exact (fun E0 w0 hG => hG _ (by repeat (first | exact List.mem_cons_self | apply List.mem_cons_of_mem)))
        ·
          try simp only [decide_eq_true_eq, decide_eq_false_iff_not] at ht39
          repeat refine J.seq ?_
          refine J.plain ?_
          refine JO.t (ob_move rfl) rfl ?_
          refine JO.nil ?_
          repeat (first | refine JX.next ?_ | refine JX.normal_block ?_)
          refine J.sel [0, 1, 5, 6, 7, 8, 45] (.cons rfl (.cons rfl (.cons rfl (.cons rfl (.cons rfl (.cons rfl (.cons rfl .nil))))))) ?_
          repeat refine J.seq ?_
          refine J.cond rfl (fun ht45 => ?_) (fun ht45 => ?_)
          ·
            try simp only [decide_eq_true_eq, decide_eq_false_iff_not] at ht45
            repeat refine J.seq ?_
            refine J.plain ?_
            refine JO.t (ob_move rfl) rfl ?_
            refine JO.t (ob_fieldAddr fo_cadastrelaw20_Op_3 rfl) rfl ?_
            refine JO.t (ob_ldN (cs := [_, _, _]) sz_api_Write rfl rfl rfl) rfl ?_
            obtain ⟨e1, hI1⟩ := hI.write (t := 1) (by omega) (fun _ => rfl) (opAt ops i).w.abs
            refine JO.callK (Lr := [⟨b7, ty_cadastrelaw20_Op, .is (.agg (OpA.cells (opAt ops i)).toArray)⟩]) (k_WriteF (Us := wsO ops) hS (hI.bd.rm (by omega) (by omega)) _ (opAt ops i).w (opAt_w (by omega)) (hops.o _ (opAt_mem (by omega))) (hops.n _ (opAt_mem (by omega))) e1) rfl (List.Perm.trans (List.Perm.of_eq (congrArg _ (List.append_nil _))) (List.perm_append_singleton _ _).symm) (two_in (by repeat (first | exact List.mem_cons_self | apply List.mem_cons_of_mem)) (by repeat (first | exact List.mem_cons_self | apply List.mem_cons_of_mem))) (.one rfl (.one rfl (.one rfl .nil))) ?_
            rintro ⟨q1, x1⟩ hq1
            try dsimp only
            refine JO.open_ (s := 49) (R := WrR' (0) x1) rfl ?_
            rintro _ ⟨_, rfl, _⟩
            refine JO.fact (WrF (x1 :: U)) (fun E0 w0 hG _ => wr_more (e := 0) hG List.mem_cons_self (by repeat (first | exact List.mem_cons_self | apply List.mem_cons_of_mem))) ?_
            refine JO.nil ?_
            repeat (first | refine JX.next ?_ | refine JX.normal_block ?_)
            refine J.sel [0, 1, 5, 6] (.cons rfl (.cons rfl (.cons rfl (.cons rfl .nil)))) ?_
            refine J.subS (L' := q1.L b ba ++ []) ((List.Sublist.refl _).append (List.nil_sublist _)) ?_
            repeat refine J.seq ?_
            refine J.plain ?_
            refine JO.t (ob_move rfl) rfl ?_
            refine JO.t (ob_addc (cc := ((i + 1 : Nat) : Int)) rfl rfl (by omega) (by omega) (by omega)) rfl ?_
            refine JO.t (ob_assign rfl) rfl ?_
            refine JO.nil ?_
            repeat refine JX.normal_block ?_
            refine JX.roundG (x := (⟨i, q, A, n, U⟩ : LSt)) (⟨i + 1, q1, upA A 1 (aWr (opAt ops i).w.abs), n, x1 :: U⟩ : LSt) ?_ ?_ [0, 1, 5, 6] ?_ ?_ ?_ ?_
            · exact ⟨by simp only; omega, by simp only; omega, hq1, hI1, hn⟩
            · exact (by simp only; omega)
            · exact (.cons rfl (.cons rfl (.cons rfl (.cons rfl .nil))))
            · repeat (first | exact .all | exact .nil | refine Has.own (by repeat (first | exact .here | apply Tl.past | apply Tl.there)) ?_ | refine Has.cons (by repeat (first | exact .here | apply Pk.past | apply Pk.there)) ?_)
            · exact fun G hG => by repeat (first | exact hG | refine List.mem_cons_of_mem _ ?_)
            · exact (fun E0 w0 hG => hG _ (by repeat (first | exact List.mem_cons_self | apply List.mem_cons_of_mem)))
          ·
            try simp only [decide_eq_true_eq, decide_eq_false_iff_not] at ht45
            exfalso
            rw [ht35] at ht45; cases ht45
      ·
        try simp only [decide_eq_true_eq, decide_eq_false_iff_not] at ht35
        refine J.skip ?_
        repeat (first | refine JX.next ?_ | refine JX.normal_block ?_)
        repeat refine J.seq ?_
        refine J.plain ?_
        refine JO.t (ob_move rfl) rfl ?_
        refine JO.t (ob_quov rfl rfl (by decide) (qu2 i (by have := hops.len; omega))) rfl ?_
        refine JO.t (ob_remv rfl rfl (by decide) (md2 (i / 2))) rfl ?_
        refine JO.t (ob_eql rfl rfl) rfl ?_
        refine JO.nil ?_
        repeat (first | refine JX.next ?_ | refine JX.normal_block ?_)
        refine J.sel [0, 1, 5, 6, 7, 8, 39] (.cons rfl (.cons rfl (.cons rfl (.cons rfl (.cons rfl (.cons rfl (.cons rfl .nil))))))) ?_
        repeat refine J.seq ?_
        refine J.cond rfl (fun ht39 => ?_) (fun ht39 => ?_)
        ·
          try simp only [decide_eq_true_eq, decide_eq_false_iff_not] at ht39
          repeat refine J.seq ?_
          refine J.plain ?_
          refine JO.t (ob_move rfl) rfl ?_
          refine JO.t (ob_move rfl) rfl ?_
          refine JO.t (ob_fieldAddr fo_cadastrelaw20_Op_2 rfl) rfl ?_
          refine JO.t (ob_ldN (cs := [_, _, _, _, _, _, _, _]) sz_api_Read rfl rfl rfl) rfl ?_
          first
          | (obtain ⟨e1, hI1⟩ := hI.read (t := 0) (by omega) (fun _ => rfl) hlt.2 (opAt ops i).r; refine JO.callK (Lr := [⟨b7, ty_cadastrelaw20_Op, .is (.agg (OpA.cells (opAt ops i)).toArray)⟩]) (k_Read hS (hI.bd.rm (by omega) (by omega)) _ (opAt ops i).r e1) rfl (List.Perm.trans (List.Perm.of_eq (congrArg _ (List.append_nil _))) (List.perm_append_singleton _ _).symm) (one_in (by repeat (first | exact List.mem_cons_self | apply List.mem_cons_of_mem))) (.one rfl (.one rfl (.one rfl .nil))) ?_; intro q1 hq1)
          | (obtain ⟨e1, hI1⟩ := hI.read (t := i % 2) (by omega) (fun h => by rw [h] at ht35; cases ht35) hlt.2 (opAt ops i).r; refine JO.callK (Lr := [⟨b7, ty_cadastrelaw20_Op, .is (.agg (OpA.cells (opAt ops i)).toArray)⟩]) (k_Read hS (hI.bd.rm (by omega) (by omega)) _ (opAt ops i).r e1) rfl (List.Perm.trans (List.Perm.of_eq (congrArg _ (List.append_nil _))) (List.perm_append_singleton _ _).symm) (one_in (by repeat (first | exact List.mem_cons_self | apply List.mem_cons_of_mem))) (.one rfl (.one rfl (.one rfl .nil))) ?_; intro q1 hq1)
          try dsimp only
          refine JO.nil ?_
          repeat (first | refine JX.next ?_ | refine JX.normal_block ?_)
          refine J.sel [0, 1, 5, 6] (.cons rfl (.cons rfl (.cons rfl (.cons rfl .nil)))) ?_
          refine J.subS (L' := q1.L b ba ++ []) ((List.Sublist.refl _).append (List.nil_sublist _)) ?_
          repeat refine J.seq ?_
          refine J.plain ?_
          refine JO.t (ob_move rfl) rfl ?_
          refine JO.t (ob_addc (cc := ((i + 1 : Nat) : Int)) rfl rfl (by omega) (by omega) (by omega)) rfl ?_
          refine JO.t (ob_assign rfl) rfl ?_
          refine JO.nil ?_
          repeat refine JX.normal_block ?_
          refine JX.roundG (x := (⟨i, q, A, n, U⟩ : LSt)) (⟨i + 1, q1, upA A (i % 2) (aRd (opAt ops i).r), n, U⟩ : LSt) ?_ ?_ [0, 1, 5, 6] ?_ ?_ ?_ ?_
          · exact ⟨by simp only; omega, by simp only; omega, hq1, hI1, hn⟩
          · exact (by simp only; omega)
          · exact (.cons rfl (.cons rfl (.cons rfl (.cons rfl .nil))))
          · repeat (first | exact .all | exact .nil | refine Has.own (by repeat (first | exact .here | apply Tl.past | apply Tl.there)) ?_ | refine Has.cons (by repeat (first | exact .here | apply Pk.past | apply Pk.there)) ?_)
          · exact fun G hG => by repeat (first | exact hG | refine List.mem_cons_of_mem _ ?_)
          · exact (fun E0 w0 hG => hG _ (by repeat (first | exact List.mem_cons_self | apply List.mem_cons_of_mem)))
        ·
          try simp only [decide_eq_true_eq, decide_eq_false_iff_not] at ht39
          repeat refine J.seq ?_
          refine J.plain ?_
          refine JO.t (ob_move rfl) rfl ?_
          refine JO.nil ?_
          repeat (first | refine JX.next ?_ | refine JX.normal_block ?_)
          refine J.sel [0, 1, 5, 6, 7, 8, 45] (.cons rfl (.cons rfl (.cons rfl (.cons rfl (.cons rfl (.cons rfl (.cons rfl .nil))))))) ?_
          repeat refine J.seq ?_
          refine J.cond rfl (fun ht45 => ?_) (fun ht45 => ?_)
          ·
            try simp only [decide_eq_true_eq, decide_eq_false_iff_not] at ht45
            exfalso
            rw [ht35] at ht45; cases ht45
          ·
            try simp only [decide_eq_true_eq, decide_eq_false_iff_not] at ht45
            repeat refine J.seq ?_
            refine J.plain ?_
            refine JO.t (ob_move rfl) rfl ?_
            refine JO.t (ob_move rfl) rfl ?_
            refine JO.t (ob_fieldAddr fo_cadastrelaw20_Op_3 rfl) rfl ?_
            refine JO.t (ob_ldN (cs := [_, _, _]) sz_api_Write rfl rfl rfl) rfl ?_
            obtain ⟨e1, hI1⟩ := hI.write (t := i % 2) (by omega) (fun h => by rw [h] at ht35; cases ht35) (opAt ops i).w.abs
            refine JO.callK (Lr := [⟨b7, ty_cadastrelaw20_Op, .is (.agg (OpA.cells (opAt ops i)).toArray)⟩]) (k_WriteF (Us := wsO ops) hS (hI.bd.rm (by omega) (by omega)) _ (opAt ops i).w (opAt_w (by omega)) (hops.o _ (opAt_mem (by omega))) (hops.n _ (opAt_mem (by omega))) e1) rfl (List.Perm.trans (List.Perm.of_eq (congrArg _ (List.append_nil _))) (List.perm_append_singleton _ _).symm) (two_in (by repeat (first | exact List.mem_cons_self | apply List.mem_cons_of_mem)) (by repeat (first | exact List.mem_cons_self | apply List.mem_cons_of_mem))) (.one rfl (.one rfl (.one rfl .nil))) ?_
            rintro ⟨q1, x1⟩ hq1
            try dsimp only
            refine JO.open_ (s := 54) (R := WrR' (0) x1) rfl ?_
            rintro _ ⟨_, rfl, _⟩
            refine JO.fact (WrF (x1 :: U)) (fun E0 w0 hG _ => wr_more (e := 0) hG List.mem_cons_self (by repeat (first | exact List.mem_cons_self | apply List.mem_cons_of_mem))) ?_
            refine JO.nil ?_
            repeat (first | refine JX.next ?_ | refine JX.normal_block ?_)
            refine J.sel [0, 1, 5, 6] (.cons rfl (.cons rfl (.cons rfl (.cons rfl .nil)))) ?_
            refine J.subS (L' := q1.L b ba ++ []) ((List.Sublist.refl _).append (List.nil_sublist _)) ?_
            repeat refine J.seq ?_
            refine J.plain ?_
            refine JO.t (ob_move rfl) rfl ?_
            refine JO.t (ob_addc (cc := ((i + 1 : Nat) : Int)) rfl rfl (by omega) (by omega) (by omega)) rfl ?_
            refine JO.t (ob_assign rfl) rfl ?_
            refine JO.nil ?_
            repeat refine JX.normal_block ?_
            refine JX.roundG (x := (⟨i, q, A, n, U⟩ : LSt)) (⟨i + 1, q1, upA A (i % 2) (aWr (opAt ops i).w.abs), n, x1 :: U⟩ : LSt) ?_ ?_ [0, 1, 5, 6] ?_ ?_ ?_ ?_
            · exact ⟨by simp only; omega, by simp only; omega, hq1, hI1, hn⟩
            · exact (by simp only; omega)
            · exact (.cons rfl (.cons rfl (.cons rfl (.cons rfl .nil))))
            · repeat (first | exact .all | exact .nil | refine Has.own (by repeat (first | exact .here | apply Tl.past | apply Tl.there)) ?_ | refine Has.cons (by repeat (first | exact .here | apply Pk.past | apply Pk.there)) ?_)
            · exact fun G hG => by repeat (first | exact hG | refine List.mem_cons_of_mem _ ?_)
            · exact (fun E0 w0 hG => hG _ (by repeat (first | exact List.mem_cons_self | apply List.mem_cons_of_mem)))
    ·
      try simp only [decide_eq_true_eq, decide_eq_false_iff_not] at ht25
      repeat refine J.seq ?_
      refine J.exit ?_
      repeat (first | refine JX.hit ?_ | refine JX.miss rfl ?_ | refine JX.exit_pass ?_)
      repeat (first | refine JX.next ?_ | refine JX.normal_block ?_)
      obtain ⟨A1, n1, e1, A2, n2, e2, he1, he2, hn1, hap, hor⟩ := hI.ends hS.ok
      repeat refine J.seq ?_
      refine J.plain ?_
      refine JO.t (ob_move rfl) rfl ?_
      refine JO.callK (Lr := []) (k_Commit hS (by omega) 1 he1) rfl (.refl _) none_in (.one rfl (.one rfl .nil)) ?_
      intro q1 hq1
      try dsimp only
      refine JO.t (ob_assign rfl) rfl ?_
      refine JO.nil ?_
      repeat (first | refine JX.next ?_ | refine JX.normal_block ?_)
      refine J.sel [1, 5, 9] (.cons rfl (.cons rfl (.cons rfl .nil))) ?_
      repeat refine J.seq ?_
      refine J.plain ?_
      refine JO.t (ob_move rfl) rfl ?_
      refine JO.callK (Lr := []) (k_Commit hq1 (by omega) 2 he2) rfl (.refl _) none_in (.one rfl (.one rfl .nil)) ?_
      intro q2 hq2
      try dsimp only
      refine JO.t (ob_assign rfl) rfl ?_
      refine JO.nil ?_
      repeat (first | refine JX.next ?_ | refine JX.normal_block ?_)
      refine J.sel [1, 9, 10] (.cons rfl (.cons rfl (.cons rfl .nil))) ?_
      repeat refine J.seq ?_
      refine J.plain ?_
      refine JO.t (ob_move rfl) rfl ?_
      refine JO.nil ?_
      repeat (first | refine JX.next ?_ | refine JX.normal_block ?_)
      refine J.sel [9, 10, 59] (.cons rfl (.cons rfl (.cons rfl .nil))) ?_
      repeat refine J.seq ?_
      refine J.cond rfl (fun ht59 => ?_) (fun ht59 => ?_)
      ·
        try simp only [decide_eq_true_eq, decide_eq_false_iff_not] at ht59
        obtain ⟨rfl, rfl⟩ := hap ht59
        repeat refine J.seq ?_
        refine J.plain ?_
        refine JO.t (ob_move rfl) rfl ?_
        refine JO.t (ob_eql rfl rfl) rfl ?_
        refine JO.t (ob_move rfl) rfl ?_
        refine JO.gd rfl rfl rfl ?_
        refine JO.t (ob_move rfl) rfl ?_
        refine JO.gd rfl rfl rfl ?_
        refine JO.t (ob_eql rfl rfl) rfl ?_
        refine JO.t (ob_pickT rfl rfl) rfl ?_
        refine JO.t (ob_assign rfl) rfl ?_
        refine JO.nil ?_
        repeat (first | refine JX.next ?_ | refine JX.normal_block ?_)
        refine J.sel [4] (.cons rfl .nil) ?_
        repeat refine J.seq ?_
        refine J.ret ?_
        repeat (first | refine JX.ret_pass ?_ | refine JX.ret_block ?_)
        exact JX.retL1 (L1 := fun _ : Unit => []) (R := fun _ => .is (.bool true)) rfl () trivial (pm_nil _) rfl rfl hb0 rfl (Sub.isEq (rfl))
      ·
        try simp only [decide_eq_true_eq, decide_eq_false_iff_not] at ht59
        refine J.skip ?_
        repeat (first | refine JX.next ?_ | refine JX.normal_block ?_)
        repeat refine J.seq ?_
        refine J.reg0 hmx (by kernel_rfl) (by kernel_rfl) ?_
        refine RT.t (ob_move rfl) ?_
        refine RT.t (ob_eql rfl rfl) ?_
        refine RT.t (ob_move rfl) ?_
        refine RT.g rfl rfl rfl (fun hg => ob_move (.inl rfl)) ?_
        refine RT.g rfl rfl rfl (fun hg => ob_eql (.inr ⟨_, rfl, fun h => h⟩) (.inl rfl)) ?_
        refine RT.t (ob_pickOr rfl rfl rfl id) ?_
        refine RT.t (ob_assign rfl) ?_
        refine RT.nil ?_
        refine FinS.nil0 ?_
        repeat (first | refine JX.next ?_ | refine JX.normal_block ?_)
        refine J.sel [4] (.cons rfl .nil) ?_
        repeat refine J.seq ?_
        refine J.ret ?_
        repeat (first | refine JX.ret_pass ?_ | refine JX.ret_block ?_)
        exact JX.retL1 (L1 := fun _ : Unit => []) (R := fun _ => .is (.bool true)) rfl () trivial (pm_nil _) rfl rfl hb0 rfl (Sub.isEq (by rcases hor with h | h <;> simp [h]))
end Go.Proofs.Ytggmifnkgcladaa
